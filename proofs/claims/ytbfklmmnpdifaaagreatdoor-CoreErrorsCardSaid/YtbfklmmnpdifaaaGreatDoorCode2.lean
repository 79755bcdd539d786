/- Lemmas for CoreErrorsCardSaid, which YtbfklmmnpdifaaaGreatDoorFinC9 proves. -/
import Derived.Test.YtbfklmmnpdifaaaGreatDoorTypes
import Derived.Test.YtbfklmmnpdifaaaGreatDoorProg
import Derived.KernelRfl
open Int renaming tdiv → zD0
open List renaming append → zB1, map_eq_nil_iff → zF2, replicate → zA6
open Nat renaming min → zC2, zero_add → zA3
open Go.Proofs.Tryz renaming prog → zA0
namespace Go.Lift
open IntKind renaming wrap → wI
def C9 (_ : Nat) (p0 : Aw) : Option Bool :=
 Bk (fun (v1 : Bool) =>
  some v1)
 fun j1 =>
 AI ((p0.fd == 3))
  (j1 true)
  (j1 (p0.fd == 4))
def BF (N : Nat) (p0 : List (List Bool)) (p1 : Int) (p2 : Int) (j2 : Unit → Option Bool) : Nat → Int → Option Bool
 | 0, _ => none
 | n2 + 1, v2 =>
  AI ((decide (v2 < p1)))
   ((A5 p0 v2).bind fun v5 =>
   AI (((v5.length : Int) != p2))
    (some false)
    (BF N p0 p1 p2 j2 n2 (wI .i64 (v2 + 1))))
   (j2 ())
def Cv (N : Nat) (p0 : List (List Bool)) (p1 : Int) (p2 : Int) : Option Bool :=
 AI (((p0.length : Int) != p1))
  (some false)
  (BF N p0 p1 p2 (fun (_ : Unit) =>
   some true) N 0)
def Bo (N : Nat) (p1 : Aw) (j22 : Unit → Option Int) : Nat → Int → Option Int
 | 0, _ => none
 | n22 + 1, v22 =>
  AI ((decide (v22 < (p1.fh.length : Int))))
   ((A5 p1.fh v22).bind fun v25 =>
   (A5 v25 v22).bind fun v26 =>
   AI ((!v26))
    (some 1)
    (Bo N p1 j22 n22 (wI .i64 (v22 + 1))))
   (j22 ())
def Dh (N : Nat) (p0 : Ae) (p1 : Aw) : Option Int :=
 Bk (fun (v1 : Bool) =>
  AI v1
   (some 1)
   (Bk (fun (v7 : Bool) =>
    AI v7
     (some 4)
     ((A5 p0.fa p1.fg).bind fun v12 =>
     (A5 p0.fa p1.fj).bind fun v13 =>
     (Cv N p1.fi v12 v13).bind fun v14 =>
     AI ((!v14))
      (some 6)
      (AI ((p1.fd != 4))
       (AI (((p1.fh.length : Int) != 0))
        (some 6)
        (some 0))
       ((A5 p0.fa p1.fg).bind fun v18 =>
       (A5 p0.fa p1.fg).bind fun v19 =>
       (Cv N p1.fh v18 v19).bind fun v20 =>
       AI ((!v20))
        (some 6)
        (Bo N p1 (fun (_ : Unit) =>
         some 0) N 0)))))
   fun j7 =>
   AI ((decide (p1.fg < 0)))
    (j7 true)
    (AI ((decide ((p0.fa.length : Int) ≤ p1.fg)))
     (j7 true)
     (AI ((decide (p1.fj < 0)))
      (j7 true)
      (j7 (decide ((p0.fa.length : Int) ≤ p1.fj)))))))
 fun j1 =>
 AI ((decide (p1.fd < 1)))
  (j1 true)
  (AI ((decide (4 < p1.fd)))
   (j1 true)
   (AI p1.fq
    ((C9 N p1).bind fun v5 =>
    j1 v5)
    (j1 false)))
def AZ (N : Nat) (p0 : Ae) (j7 : Unit → Option Int) : Nat → Int → Option Int
 | 0, _ => none
 | n7 + 1, v7 =>
  AI ((decide (v7 < (p0.fa.length : Int))))
   ((A5 p0.fa v7).bind fun v10 =>
   Bk (fun (v11 : Bool) =>
    AI v11
     (some 7)
     (AZ N p0 j7 n7 (wI .i64 (v7 + 1))))
   fun j11 =>
   AI ((decide (v10 < 1)))
    (j11 true)
    (AI ((decide (6 < v10)))
     (j11 true)
     ((A5 p0.fk v7).bind fun v14 =>
     AI ((decide (v14 < 0)))
      (j11 true)
      ((A5 p0.fk v7).bind fun v16 =>
      AI ((decide (v10 ≤ v16)))
       (j11 true)
       ((A5 p0.fo v7).bind fun v18 =>
       AI ((decide (v18 < 0)))
        (j11 true)
        ((A5 p0.fo v7).bind fun v20 =>
        j11 (decide (v10 ≤ v20))))))))
   (j7 ())
def AW (N : Nat) (p0 : Ae) (j22 : Unit → Option Int) : Nat → Int → Option Int
 | 0, _ => none
 | n22 + 1, v22 =>
  AI ((decide (v22 < (p0.fb.length : Int))))
   ((A5 p0.fb v22).bind fun v25 =>
   (Dh N p0 v25).bind fun v26 =>
   AI ((v26 != 0))
    (some v26)
    (AW N p0 j22 n22 (wI .i64 (v22 + 1))))
   (j22 ())
def B7 (N : Nat) (p0 : Ae) : Option Int :=
 Bk (fun (v1 : Bool) =>
  AI v1
   (some 3)
   (Bk (fun (v4 : Bool) =>
    AI v4
     (some 6)
     (AZ N p0 (fun (_ : Unit) =>
      AW N p0 (fun (_ : Unit) =>
       some 0) N 0) N 0))
   fun j4 =>
   AI (((p0.fk.length : Int) != (p0.fa.length : Int)))
    (j4 true)
    (j4 ((p0.fo.length : Int) != (p0.fa.length : Int)))))
 fun j1 =>
 AI ((decide (6 < (p0.fa.length : Int))))
  (j1 true)
  (j1 (decide (12 < (p0.fb.length : Int))))
def De (_ : Nat) : Option ((List (List Bool))) :=
 some (([([true, false] : List Bool), ([false, true] : List Bool)] : List (List Bool)))
def C1 (N : Nat) (p0 : Bool) : Option Ae :=
 (De N).bind fun v1 =>
 (De N).bind fun v2 =>
 some ((Ae.mk (([2, 2, 2] : List Int)) (([0, 0, 0] : List Int)) (([1, 1, 1] : List Int)) (([(Aw.mk 1 0 1 p0 v1 (([] : List (List Bool)))), (Aw.mk 1 1 0 p0 v2 (([] : List (List Bool))))] : List Aw))))
def CG (_ : Nat) (p0 : Int) (p1 : Int) : Option Bool :=
 Bk (fun (v1 : Bool) =>
  some v1)
 fun j1 =>
 AI ((decide (0 ≤ p0)))
  (j1 (decide (p0 < p1)))
  (j1 false)
def FJ (_ : Nat) (p0 : Int) (p1 : Bool) : Option Bool :=
 Bk (fun (v1 : Bool) =>
  some v1)
 fun j1 =>
 AI ((p0 == 1))
  (j1 true)
  (AI ((p0 == 2))
   (j1 true)
   (AI ((p0 == 3))
    (j1 (!p1))
    (AI ((p0 == 4))
     (j1 (!p1))
     (j1 false))))
def CY (_ : Nat) (p0 : List Bool) (p1 : Int) : Option Bool :=
 some (((p0.length : Int) != p1))
def A1 (N : Nat) (p0 : List (List Bool)) (p1 : (List Bool) → Option Bool) (j1 : Unit → Option Int) : Nat → Int → Option Int
 | 0, _ => none
 | n1 + 1, v1 =>
  AI ((decide (v1 < (p0.length : Int))))
   ((A5 p0 v1).bind fun v4 =>
   (p1 v4).bind fun v5 =>
   AI v5
    (some v1)
    (A1 N p0 p1 j1 n1 (wI .i64 (v1 + 1))))
   (j1 ())
def Cu (N : Nat) (p0 : List (List Bool)) (p1 : (List Bool) → Option Bool) : Option Int :=
 A1 N p0 p1 (fun (_ : Unit) =>
  some ((-1))) N 0
def B8 (N : Nat) (p0 : List (List Bool)) (p1 : (List Bool) → Option Bool) : Option Bool :=
 (Cu N p0 p1).bind fun v1 =>
 some ((decide (0 ≤ v1)))
def DY (N : Nat) (p0 : List (List Bool)) (p1 : Int) (p2 : Int) : Option Bool :=
 Bk (fun (v1 : Bool) =>
  some v1)
 fun j1 =>
 AI (((p0.length : Int) == p1))
  ((B8 N p0 ((fun (x : List Bool) => CY N x p2))).bind fun v3 =>
  j1 (!v3))
  (j1 false)
def Cg (N : Nat) (p1 : Aw) (j19 : Unit → Option Int) : Nat → Int → Option Int
 | 0, _ => none
 | n19 + 1, v19 =>
  AI ((decide (v19 < (p1.fh.length : Int))))
   ((A5 p1.fh v19).bind fun v22 =>
   (A5 v22 v19).bind fun v23 =>
   AI ((!v23))
    (some 1)
    (Cg N p1 j19 n19 (wI .i64 (v19 + 1))))
   (j19 ())
def Fa (N : Nat) (p0 : Ae) (p1 : Aw) : Option Int :=
 (FJ N p1.fd p1.fq).bind fun v1 =>
 AI ((!v1))
  (some 1)
  (Bk (fun (v3 : Bool) =>
   AI v3
    (some 4)
    ((A5 p0.fa p1.fg).bind fun v8 =>
    Bk (fun (v9 : Bool) =>
     AI v9
      (some 6)
      (Cg N p1 (fun (_ : Unit) =>
       some 0) N 0))
    fun j9 =>
    (A5 p0.fa p1.fj).bind fun v10 =>
    (DY N p1.fi v8 v10).bind fun v11 =>
    AI ((!v11))
     (j9 true)
     (AI ((p1.fd == 4))
      ((DY N p1.fh v8 v8).bind fun v14 =>
      AI ((!v14))
       (j9 true)
       (AI ((!((p1.fd == 4))))
        (j9 (decide (0 < (p1.fh.length : Int))))
        (j9 false)))
      (AI ((!((p1.fd == 4))))
       (j9 (decide (0 < (p1.fh.length : Int))))
       (j9 false)))))
  fun j3 =>
  (CG N p1.fg ((p0.fa.length : Int))).bind fun v4 =>
  AI ((!v4))
   (j3 true)
   ((CG N p1.fj ((p0.fa.length : Int))).bind fun v6 =>
   j3 (!v6)))
def Bp (N : Nat) (p0 : Ae) (j7 : Unit → Option Int) : Nat → Int → Option Int
 | 0, _ => none
 | n7 + 1, v7 =>
  AI ((decide (v7 < (p0.fa.length : Int))))
   ((A5 p0.fa v7).bind fun v10 =>
   Bk (fun (v11 : Bool) =>
    AI v11
     (some 7)
     (Bp N p0 j7 n7 (wI .i64 (v7 + 1))))
   fun j11 =>
   AI ((decide (v10 < 1)))
    (j11 true)
    (AI ((decide (6 < v10)))
     (j11 true)
     ((A5 p0.fk v7).bind fun v14 =>
     (CG N v14 v10).bind fun v15 =>
     AI ((!v15))
      (j11 true)
      ((A5 p0.fo v7).bind fun v17 =>
      (CG N v17 v10).bind fun v18 =>
      j11 (!v18)))))
   (j7 ())
def Bl (N : Nat) (p0 : Ae) (j20 : Unit → Option Int) : Nat → Int → Option Int
 | 0, _ => none
 | n20 + 1, v20 =>
  AI ((decide (v20 < (p0.fb.length : Int))))
   ((A5 p0.fb v20).bind fun v23 =>
   (Fa N p0 v23).bind fun v24 =>
   AI ((v24 != 0))
    (some v24)
    (Bl N p0 j20 n20 (wI .i64 (v20 + 1))))
   (j20 ())
def Bs (N : Nat) (p0 : Ae) : Option Int :=
 Bk (fun (v1 : Bool) =>
  AI v1
   (some 3)
   (Bk (fun (v4 : Bool) =>
    AI v4
     (some 6)
     (Bp N p0 (fun (_ : Unit) =>
      Bl N p0 (fun (_ : Unit) =>
       some 0) N 0) N 0))
   fun j4 =>
   AI (((p0.fk.length : Int) != (p0.fa.length : Int)))
    (j4 true)
    (j4 ((p0.fo.length : Int) != (p0.fa.length : Int)))))
 fun j1 =>
 AI ((decide (6 < (p0.fa.length : Int))))
  (j1 true)
  (j1 (decide (12 < (p0.fb.length : Int))))
def F6 (_ : Nat) (p0 : Int) : Option Int :=
 Bk (fun (v1 : Int × Int) =>
  Bk (fun (v3 : Int × Int) =>
   (L2 ((⟨⟨(zB1 (zB1 [0, 1, 2, 2, 3, 3, 3, 3, 4, 4, 4, 4, 4, 4, 4, 4, 5, 5, 5, 5, 5, 5, 5, 5, 5, 5, 5, 5, 5, 5, 5, 5, 6, 6, 6, 6, 6, 6, 6, 6, 6, 6, 6, 6, 6, 6, 6, 6, 6, 6, 6, 6, 6, 6, 6, 6, 6, 6, 6, 6, 6, 6, 6, 6] [7, 7, 7, 7, 7, 7, 7, 7, 7, 7, 7, 7, 7, 7, 7, 7, 7, 7, 7, 7, 7, 7, 7, 7, 7, 7, 7, 7, 7, 7, 7, 7, 7, 7, 7, 7, 7, 7, 7, 7, 7, 7, 7, 7, 7, 7, 7, 7, 7, 7, 7, 7, 7, 7, 7, 7, 7, 7, 7, 7, 7, 7, 7, 7]) (zB1 [8, 8, 8, 8, 8, 8, 8, 8, 8, 8, 8, 8, 8, 8, 8, 8, 8, 8, 8, 8, 8, 8, 8, 8, 8, 8, 8, 8, 8, 8, 8, 8, 8, 8, 8, 8, 8, 8, 8, 8, 8, 8, 8, 8, 8, 8, 8, 8, 8, 8, 8, 8, 8, 8, 8, 8, 8, 8, 8, 8, 8, 8, 8, 8] [8, 8, 8, 8, 8, 8, 8, 8, 8, 8, 8, 8, 8, 8, 8, 8, 8, 8, 8, 8, 8, 8, 8, 8, 8, 8, 8, 8, 8, 8, 8, 8, 8, 8, 8, 8, 8, 8, 8, 8, 8, 8, 8, 8, 8, 8, 8, 8, 8, 8, 8, 8, 8, 8, 8, 8, 8, 8, 8, 8, 8, 8, 8, 8]))⟩⟩ : ByteArray)) ((wI .u8 v3.1))).bind fun v5 =>
   some ((wI .i64 (v3.2 + (wI .i64 v5)))))
  fun j3 =>
  AI ((decide (256 ≤ v1.1)))
   (j3 ((AL .u32 v1.1 8), (wI .i64 (v1.2 + 8))))
   (j3 (v1.1, v1.2)))
 fun j1 =>
 AI ((decide (65536 ≤ p0)))
  (j1 ((AL .u32 p0 16), 16))
  (j1 (p0, 0))
def F3 (_ : Nat) (p0 : Int) : Option Int :=
 Bk (fun (v1 : Int × Int) =>
  Bk (fun (v3 : Int × Int) =>
   Bk (fun (v5 : Int × Int) =>
    (L2 ((⟨⟨(zB1 (zB1 [0, 1, 2, 2, 3, 3, 3, 3, 4, 4, 4, 4, 4, 4, 4, 4, 5, 5, 5, 5, 5, 5, 5, 5, 5, 5, 5, 5, 5, 5, 5, 5, 6, 6, 6, 6, 6, 6, 6, 6, 6, 6, 6, 6, 6, 6, 6, 6, 6, 6, 6, 6, 6, 6, 6, 6, 6, 6, 6, 6, 6, 6, 6, 6] [7, 7, 7, 7, 7, 7, 7, 7, 7, 7, 7, 7, 7, 7, 7, 7, 7, 7, 7, 7, 7, 7, 7, 7, 7, 7, 7, 7, 7, 7, 7, 7, 7, 7, 7, 7, 7, 7, 7, 7, 7, 7, 7, 7, 7, 7, 7, 7, 7, 7, 7, 7, 7, 7, 7, 7, 7, 7, 7, 7, 7, 7, 7, 7]) (zB1 [8, 8, 8, 8, 8, 8, 8, 8, 8, 8, 8, 8, 8, 8, 8, 8, 8, 8, 8, 8, 8, 8, 8, 8, 8, 8, 8, 8, 8, 8, 8, 8, 8, 8, 8, 8, 8, 8, 8, 8, 8, 8, 8, 8, 8, 8, 8, 8, 8, 8, 8, 8, 8, 8, 8, 8, 8, 8, 8, 8, 8, 8, 8, 8] [8, 8, 8, 8, 8, 8, 8, 8, 8, 8, 8, 8, 8, 8, 8, 8, 8, 8, 8, 8, 8, 8, 8, 8, 8, 8, 8, 8, 8, 8, 8, 8, 8, 8, 8, 8, 8, 8, 8, 8, 8, 8, 8, 8, 8, 8, 8, 8, 8, 8, 8, 8, 8, 8, 8, 8, 8, 8, 8, 8, 8, 8, 8, 8]))⟩⟩ : ByteArray)) ((wI .u8 v5.1))).bind fun v7 =>
    some ((wI .i64 (v5.2 + (wI .i64 v7)))))
   fun j5 =>
   AI ((decide (256 ≤ v3.1)))
    (j5 ((AL .u64 v3.1 8), (wI .i64 (v3.2 + 8))))
    (j5 (v3.1, v3.2)))
  fun j3 =>
  AI ((decide (65536 ≤ v1.1)))
   (j3 ((AL .u64 v1.1 16), (wI .i64 (v1.2 + 16))))
   (j3 (v1.1, v1.2)))
 fun j1 =>
 AI ((decide (4294967296 ≤ p0)))
  (j1 ((AL .u64 p0 32), 32))
  (j1 (p0, 0))
def Fx (N : Nat) (p0 : Int) : Option Int :=
 AI false
  ((F6 N ((wI .u32 p0))).bind fun v2 =>
  some v2)
  ((F3 N p0).bind fun v3 =>
  some v3)
def Bz (N : Nat) (p1 : Int) (p3 : (Int × Int) → Option Int) (j4 : ((List Int)) → Option ((List Int))) : Nat → ((List Int) × Int) → Option ((List Int))
 | 0, _ => none
 | n4 + 1, v4 =>
  Bk (fun (v6 : Bool) =>
   AI v6
    ((A5 v4.1 ((wI .i64 (v4.2 - 1)))).bind fun v12 =>
    (A5 v4.1 v4.2).bind fun v13 =>
    (A5 v4.1 v4.2).bind fun _ =>
    (A5 (v4.1.set ((v4.2).toNat) v12) ((wI .i64 (v4.2 - 1)))).bind fun _ =>
    Bz N p1 p3 j4 n4 ((v4.1.set ((v4.2).toNat) v12).set (((wI .i64 (v4.2 - 1))).toNat) v13, (wI .i64 (v4.2 - 1))))
    (j4 v4.1))
  fun j6 =>
  AI ((decide (p1 < v4.2)))
   ((A5 v4.1 v4.2).bind fun v8 =>
   (A5 v4.1 ((wI .i64 (v4.2 - 1)))).bind fun v9 =>
   (p3 ((v8, v9))).bind fun v10 =>
   j6 (decide (v10 < 0)))
   (j6 false)
def BA (N : Nat) (p1 : Int) (p2 : Int) (p3 : (Int × Int) → Option Int) (j1 : ((List Int)) → Option ((List Int))) : Nat → ((List Int) × Int) → Option ((List Int))
 | 0, _ => none
 | n1 + 1, v1 =>
  AI ((decide (v1.2 < p2)))
   (Bz N p1 p3 (fun (v5 : (List Int)) =>
    BA N p1 p2 p3 j1 n1 (v5, (wI .i64 (v1.2 + 1)))) N (v1.1, v1.2))
   (j1 v1.1)
def Cz (N : Nat) (p0 : List Int) (p1 : Int) (p2 : Int) (p3 : (Int × Int) → Option Int) : Option ((List Int)) :=
 BA N p1 p2 p3 (fun (v2 : (List Int)) =>
  some v2) N (p0, (wI .i64 (p1 + 1)))
def B3 (N : Nat) (p2 : Int) (p3 : Int) (p4 : (Int × Int) → Option Int) (j1 : ((List Int)) → Option ((List Int))) : Nat → ((List Int) × Int) → Option ((List Int))
 | 0, _ => none
 | n1 + 1, v1 =>
  AI ((decide (p2 ≤ (wI .i64 ((wI .i64 (2 * v1.2)) + 1)))))
   (j1 v1.1)
   (Bk (fun (v4 : Int) =>
    (A5 v1.1 ((wI .i64 (p3 + v1.2)))).bind fun v11 =>
    (A5 v1.1 ((wI .i64 (p3 + v4)))).bind fun v12 =>
    (p4 ((v11, v12))).bind fun v13 =>
    AI ((!((decide (v13 < 0)))))
     (some v1.1)
     ((A5 v1.1 ((wI .i64 (p3 + v4)))).bind fun v15 =>
     (A5 v1.1 ((wI .i64 (p3 + v1.2)))).bind fun v16 =>
     (A5 v1.1 ((wI .i64 (p3 + v1.2)))).bind fun _ =>
     (A5 (v1.1.set (((wI .i64 (p3 + v1.2))).toNat) v15) ((wI .i64 (p3 + v4)))).bind fun _ =>
     B3 N p2 p3 p4 j1 n1 ((v1.1.set (((wI .i64 (p3 + v1.2))).toNat) v15).set (((wI .i64 (p3 + v4))).toNat) v16, v4)))
   fun j4 =>
   Bk (fun (v5 : Bool) =>
    AI v5
     (j4 (wI .i64 ((wI .i64 ((wI .i64 (2 * v1.2)) + 1)) + 1)))
     (j4 (wI .i64 ((wI .i64 (2 * v1.2)) + 1))))
   fun j5 =>
   AI ((decide ((wI .i64 ((wI .i64 ((wI .i64 (2 * v1.2)) + 1)) + 1)) < p2)))
    ((A5 v1.1 ((wI .i64 (p3 + (wI .i64 ((wI .i64 (2 * v1.2)) + 1)))))).bind fun v7 =>
    (A5 v1.1 ((wI .i64 ((wI .i64 (p3 + (wI .i64 ((wI .i64 (2 * v1.2)) + 1)))) + 1)))).bind fun v8 =>
    (p4 ((v7, v8))).bind fun v9 =>
    j5 (decide (v9 < 0)))
    (j5 false))
def Ci (N : Nat) (p0 : List Int) (p1 : Int) (p2 : Int) (p3 : Int) (p4 : (Int × Int) → Option Int) : Option ((List Int)) :=
 B3 N p2 p3 p4 (fun (v2 : (List Int)) =>
  some v2) N (p0, p1)
def B2 (N : Nat) (p1 : Int) (p2 : Int) (p3 : (Int × Int) → Option Int) (j1 : ((List Int)) → Option ((List Int))) : Nat → ((List Int) × Int) → Option ((List Int))
 | 0, _ => none
 | n1 + 1, v1 =>
  AI ((decide (0 ≤ v1.2)))
   ((Ci N v1.1 v1.2 ((wI .i64 (p2 - p1))) p1 p3).bind fun v4 =>
   B2 N p1 p2 p3 j1 n1 (v4, (wI .i64 (v1.2 - 1))))
   (j1 v1.1)
def B0 (N : Nat) (p1 : Int) (p3 : (Int × Int) → Option Int) (j5 : ((List Int)) → Option ((List Int))) : Nat → ((List Int) × Int) → Option ((List Int))
 | 0, _ => none
 | n5 + 1, v5 =>
  AI ((decide (0 ≤ v5.2)))
   ((A5 v5.1 ((wI .i64 (p1 + v5.2)))).bind fun v8 =>
   (A5 v5.1 p1).bind fun v9 =>
   (A5 v5.1 p1).bind fun _ =>
   (A5 (v5.1.set ((p1).toNat) v8) ((wI .i64 (p1 + v5.2)))).bind fun _ =>
   (Ci N ((v5.1.set ((p1).toNat) v8).set (((wI .i64 (p1 + v5.2))).toNat) v9) 0 v5.2 p1 p3).bind fun v12 =>
   B0 N p1 p3 j5 n5 (v12, (wI .i64 (v5.2 - 1))))
   (j5 v5.1)
def Da (N : Nat) (p0 : List Int) (p1 : Int) (p2 : Int) (p3 : (Int × Int) → Option Int) : Option ((List Int)) :=
 B2 N p1 p2 p3 (fun (v2 : (List Int)) =>
  B0 N p1 p3 (fun (v6 : (List Int)) =>
   some v6) N (v2, (wI .i64 ((wI .i64 (p2 - p1)) - 1)))) N (p0, (wI .i64 (zD0 ((wI .i64 ((wI .i64 (p2 - p1)) - 1))) 2)))
def Ef (N : Nat) (p0 : Int) : Option Int :=
 (Fx N ((wI .u64 p0))).bind fun v1 =>
 (GZ (0 ≤ v1)).bind fun _ =>
 some ((DJ .u64 1 v1))
def EB (_ : Nat) (p0 : Int) : Option (Int × Int) :=
 some ((F5 .u64 ((F5 .u64 ((F5 .u64 p0 ((DJ .u64 p0 13)))) ((AL .u64 ((F5 .u64 p0 ((DJ .u64 p0 13)))) 7)))) ((DJ .u64 ((F5 .u64 ((F5 .u64 p0 ((DJ .u64 p0 13)))) ((AL .u64 ((F5 .u64 p0 ((DJ .u64 p0 13)))) 7)))) 17))), (F5 .u64 ((F5 .u64 ((F5 .u64 p0 ((DJ .u64 p0 13)))) ((AL .u64 ((F5 .u64 p0 ((DJ .u64 p0 13)))) 7)))) ((DJ .u64 ((F5 .u64 ((F5 .u64 p0 ((DJ .u64 p0 13)))) ((AL .u64 ((F5 .u64 p0 ((DJ .u64 p0 13)))) 7)))) 17))))
def BC (N : Nat) (p1 : Int) (p2 : Int) (v2 : Int) (j3 : ((List Int)) → Option ((List Int))) : Nat → ((List Int) × Int × Int) → Option ((List Int))
 | 0, _ => none
 | n3 + 1, v3 =>
  AI ((decide (v3.2.2 ≤ (wI .i64 ((wI .i64 (p1 + (wI .i64 ((wI .i64 (zD0 ((wI .i64 (p2 - p1))) 4)) * 2)))) + 1)))))
   ((EB N v3.2.1).bind fun v6 =>
   Bk (fun (v7 : Int) =>
    (A5 v3.1 ((wI .i64 (p1 + v7)))).bind fun v9 =>
    (A5 v3.1 v3.2.2).bind fun v10 =>
    (A5 v3.1 v3.2.2).bind fun _ =>
    (A5 (v3.1.set ((v3.2.2).toNat) v9) ((wI .i64 (p1 + v7)))).bind fun _ =>
    BC N p1 p2 v2 j3 n3 ((v3.1.set ((v3.2.2).toNat) v9).set (((wI .i64 (p1 + v7))).toNat) v10, v6.2, (wI .i64 (v3.2.2 + 1))))
   fun j7 =>
   AI ((decide ((wI .i64 (p2 - p1)) ≤ (wI .i64 ((Ax .u64 v6.1 ((wI .u64 (v2 - 1)))))))))
    (j7 (wI .i64 ((wI .i64 ((Ax .u64 v6.1 ((wI .u64 (v2 - 1)))))) - (wI .i64 (p2 - p1)))))
    (j7 (wI .i64 ((Ax .u64 v6.1 ((wI .u64 (v2 - 1))))))))
   (j3 v3.1)
def CA (N : Nat) (p0 : List Int) (p1 : Int) (p2 : Int) (_ : (Int × Int) → Option Int) : Option ((List Int)) :=
 AI ((decide (8 ≤ (wI .i64 (p2 - p1)))))
  ((Ef N ((wI .i64 (p2 - p1)))).bind fun v2 =>
  BC N p1 p2 v2 (fun (v4 : (List Int)) =>
   some v4) N (p0, (wI .u64 ((wI .i64 (p2 - p1)))), (wI .i64 ((wI .i64 (p1 + (wI .i64 ((wI .i64 (zD0 ((wI .i64 (p2 - p1))) 4)) * 2)))) - 1))))
  (some p0)
def BZ (_ : Nat) (p0 : List Int) (p1 : Int) (p2 : Int) (p3 : Int) (p4 : (Int × Int) → Option Int) : Option (Int × Int × Int) :=
 (A5 p0 p2).bind fun v1 =>
 (A5 p0 p1).bind fun v2 =>
 (p4 ((v1, v2))).bind fun v3 =>
 AI ((decide (v3 < 0)))
  (some (p2, p1, (wI .i64 (p3 + 1))))
  (some (p1, p2, p3))
def CE (N : Nat) (p0 : List Int) (p1 : Int) (p2 : Int) (p3 : Int) (p4 : Int) (p5 : (Int × Int) → Option Int) : Option (Int × Int) :=
 (BZ N p0 p1 p2 p4 p5).bind fun v1 =>
 (BZ N p0 v1.2.1 p3 v1.2.2 p5).bind fun v2 =>
 (BZ N p0 v1.1 v2.1 v2.2.2 p5).bind fun v3 =>
 some (v3.2.1, v3.2.2)
def Bm (N : Nat) (p0 : List Int) (p1 : Int) (p2 : Int) (p3 : (Int × Int) → Option Int) : Option (Int × Int) :=
 (CE N p0 ((wI .i64 (p1 - 1))) p1 ((wI .i64 (p1 + 1))) p2 p3).bind fun v1 =>
 some (v1.1, v1.2)
def CQ (N : Nat) (p0 : List Int) (p1 : Int) (p2 : Int) (p3 : (Int × Int) → Option Int) : Option (Int × Int) :=
 Bk (fun (v1 : Int × Int) =>
  AI ((v1.1 == 0))
   (some (v1.2, 1))
   (AI ((v1.1 == 12))
    (some (v1.2, 2))
    (some (v1.2, 0))))
 fun j1 =>
 AI ((decide (8 ≤ (wI .i64 (p2 - p1)))))
  (Bk (fun (v3 : Int × Int × Int × Int) =>
   (CE N p0 v3.2.1 v3.2.2.1 v3.2.2.2 v3.1 p3).bind fun v8 =>
   j1 (v8.2, v8.1))
  fun j3 =>
  AI ((decide (50 ≤ (wI .i64 (p2 - p1)))))
   ((Bm N p0 ((wI .i64 (p1 + (wI .i64 ((wI .i64 (zD0 ((wI .i64 (p2 - p1))) 4)) * 1))))) 0 p3).bind fun v5 =>
   (Bm N p0 ((wI .i64 (p1 + (wI .i64 ((wI .i64 (zD0 ((wI .i64 (p2 - p1))) 4)) * 2))))) v5.2 p3).bind fun v6 =>
   (Bm N p0 ((wI .i64 (p1 + (wI .i64 ((wI .i64 (zD0 ((wI .i64 (p2 - p1))) 4)) * 3))))) v6.2 p3).bind fun v7 =>
   j3 (v7.2, v5.1, v6.1, v7.1))
   (j3 (0, (wI .i64 (p1 + (wI .i64 ((wI .i64 (zD0 ((wI .i64 (p2 - p1))) 4)) * 1)))), (wI .i64 (p1 + (wI .i64 ((wI .i64 (zD0 ((wI .i64 (p2 - p1))) 4)) * 2)))), (wI .i64 (p1 + (wI .i64 ((wI .i64 (zD0 ((wI .i64 (p2 - p1))) 4)) * 3)))))))
  (j1 (0, (wI .i64 (p1 + (wI .i64 ((wI .i64 (zD0 ((wI .i64 (p2 - p1))) 4)) * 2))))))
def BI (N : Nat) (j1 : ((List Int)) → Option ((List Int))) : Nat → ((List Int) × Int × Int) → Option ((List Int))
 | 0, _ => none
 | n1 + 1, v1 =>
  AI ((decide (v1.2.1 < v1.2.2)))
   ((A5 v1.1 v1.2.2).bind fun v4 =>
   (A5 v1.1 v1.2.1).bind fun v5 =>
   (A5 v1.1 v1.2.1).bind fun _ =>
   (A5 (v1.1.set ((v1.2.1).toNat) v4) v1.2.2).bind fun _ =>
   BI N j1 n1 ((v1.1.set ((v1.2.1).toNat) v4).set ((v1.2.2).toNat) v5, (wI .i64 (v1.2.1 + 1)), (wI .i64 (v1.2.2 - 1))))
   (j1 v1.1)
def CI (N : Nat) (p0 : List Int) (p1 : Int) (p2 : Int) (_ : (Int × Int) → Option Int) : Option ((List Int)) :=
 BI N (fun (v2 : (List Int)) =>
  some v2) N (p0, p1, (wI .i64 (p2 - 1)))
def Bf (N : Nat) (p2 : Int) (p3 : (Int × Int) → Option Int) (v1 : (List Int) × Int × Int) (j5 : Int → Option (Bool × (List Int))) : Nat → Int → Option (Bool × (List Int))
 | 0, _ => none
 | n5 + 1, v5 =>
  Bk (fun (v7 : Bool) =>
   AI v7
    (Bf N p2 p3 v1 j5 n5 (wI .i64 (v5 + 1)))
    (j5 v5))
  fun j7 =>
  AI ((decide (v5 < p2)))
   ((A5 v1.1 v5).bind fun v9 =>
   (A5 v1.1 ((wI .i64 (v5 - 1)))).bind fun v10 =>
   (p3 ((v9, v10))).bind fun v11 =>
   j7 (!((decide (v11 < 0)))))
   (j7 false)
def Bb (N : Nat) (p3 : (Int × Int) → Option Int) (j21 : ((List Int)) → Option (Bool × (List Int))) : Nat → ((List Int) × Int) → Option (Bool × (List Int))
 | 0, _ => none
 | n21 + 1, v21 =>
  AI ((decide (1 ≤ v21.2)))
   ((A5 v21.1 v21.2).bind fun v24 =>
   (A5 v21.1 ((wI .i64 (v21.2 - 1)))).bind fun v25 =>
   (p3 ((v24, v25))).bind fun v26 =>
   AI ((!((decide (v26 < 0)))))
    (j21 v21.1)
    ((A5 v21.1 ((wI .i64 (v21.2 - 1)))).bind fun v28 =>
    (A5 v21.1 v21.2).bind fun v29 =>
    (A5 v21.1 v21.2).bind fun _ =>
    (A5 (v21.1.set ((v21.2).toNat) v28) ((wI .i64 (v21.2 - 1)))).bind fun _ =>
    Bb N p3 j21 n21 ((v21.1.set ((v21.2).toNat) v28).set (((wI .i64 (v21.2 - 1))).toNat) v29, (wI .i64 (v21.2 - 1)))))
   (j21 v21.1)
def Ba (N : Nat) (p2 : Int) (p3 : (Int × Int) → Option Int) (j33 : ((List Int)) → Option (Bool × (List Int))) : Nat → ((List Int) × Int) → Option (Bool × (List Int))
 | 0, _ => none
 | n33 + 1, v33 =>
  AI ((decide (v33.2 < p2)))
   ((A5 v33.1 v33.2).bind fun v36 =>
   (A5 v33.1 ((wI .i64 (v33.2 - 1)))).bind fun v37 =>
   (p3 ((v36, v37))).bind fun v38 =>
   AI ((!((decide (v38 < 0)))))
    (j33 v33.1)
    ((A5 v33.1 ((wI .i64 (v33.2 - 1)))).bind fun v40 =>
    (A5 v33.1 v33.2).bind fun v41 =>
    (A5 v33.1 v33.2).bind fun _ =>
    (A5 (v33.1.set ((v33.2).toNat) v40) ((wI .i64 (v33.2 - 1)))).bind fun _ =>
    Ba N p2 p3 j33 n33 ((v33.1.set ((v33.2).toNat) v40).set (((wI .i64 (v33.2 - 1))).toNat) v41, (wI .i64 (v33.2 + 1)))))
   (j33 v33.1)
def Be (N : Nat) (p1 : Int) (p2 : Int) (p3 : (Int × Int) → Option Int) (j1 : ((List Int)) → Option (Bool × (List Int))) : Nat → ((List Int) × Int × Int) → Option (Bool × (List Int))
 | 0, _ => none
 | n1 + 1, v1 =>
  AI ((decide (v1.2.2 < 5)))
   (Bk (fun (v4 : (List Int) × Int) =>
    Be N p1 p2 p3 j1 n1 (v4.1, v4.2, (wI .i64 (v1.2.2 + 1))))
   fun j4 =>
   Bf N p2 p3 v1 (fun (v6 : Int) =>
    AI ((v6 == p2))
     (some (true, v1.1))
     (AI ((decide ((wI .i64 (p2 - p1)) < 50)))
      (some (false, v1.1))
      ((A5 v1.1 ((wI .i64 (v6 - 1)))).bind fun v15 =>
      (A5 v1.1 v6).bind fun v16 =>
      (A5 v1.1 v6).bind fun _ =>
      (A5 (v1.1.set ((v6).toNat) v15) ((wI .i64 (v6 - 1)))).bind fun _ =>
      Bk (fun (v19 : (List Int)) =>
       AI ((decide (2 ≤ (wI .i64 (p2 - v6)))))
        (Ba N p2 p3 (fun (v34 : (List Int)) =>
         j4 (v34, v6)) N (v19, (wI .i64 (v6 + 1))))
        (j4 (v19, v6)))
      fun j19 =>
      AI ((decide (2 ≤ (wI .i64 (v6 - p1)))))
       (Bb N p3 (fun (v22 : (List Int)) =>
        j19 v22) N ((v1.1.set ((v6).toNat) v15).set (((wI .i64 (v6 - 1))).toNat) v16, (wI .i64 (v6 - 1))))
       (j19 ((v1.1.set ((v6).toNat) v15).set (((wI .i64 (v6 - 1))).toNat) v16))))) N v1.2.1)
   (j1 v1.1)
def BX (N : Nat) (p0 : List Int) (p1 : Int) (p2 : Int) (p3 : (Int × Int) → Option Int) : Option (Bool × (List Int)) :=
 Be N p1 p2 p3 (fun (v2 : (List Int)) =>
  some (false, v2)) N (p0, (wI .i64 (p1 + 1)), 0)
def Bw (N : Nat) (p1 : Int) (p4 : (Int × Int) → Option Int) (v5 : (List Int) × Int × Int) (j7 : Int → Option (Int × (List Int))) : Nat → Int → Option (Int × (List Int))
 | 0, _ => none
 | n7 + 1, v7 =>
  Bk (fun (v9 : Bool) =>
   AI v9
    (Bw N p1 p4 v5 j7 n7 (wI .i64 (v7 + 1)))
    (j7 v7))
  fun j9 =>
  AI ((decide (v7 ≤ v5.2.2)))
   ((A5 v5.1 p1).bind fun v11 =>
   (A5 v5.1 v7).bind fun v12 =>
   (p4 ((v11, v12))).bind fun v13 =>
   j9 (!((decide (v13 < 0)))))
   (j9 false)
def Bt (N : Nat) (p1 : Int) (p4 : (Int × Int) → Option Int) (v5 : (List Int) × Int × Int) (v8 : Int) (j15 : Int → Option (Int × (List Int))) : Nat → Int → Option (Int × (List Int))
 | 0, _ => none
 | n15 + 1, v15 =>
  Bk (fun (v17 : Bool) =>
   AI v17
    (Bt N p1 p4 v5 v8 j15 n15 (wI .i64 (v15 - 1)))
    (j15 v15))
  fun j17 =>
  AI ((decide (v8 ≤ v15)))
   ((A5 v5.1 p1).bind fun v19 =>
   (A5 v5.1 v15).bind fun v20 =>
   (p4 ((v19, v20))).bind fun v21 =>
   j17 (decide (v21 < 0)))
   (j17 false)
def Bv (N : Nat) (p1 : Int) (p4 : (Int × Int) → Option Int) (j5 : ((List Int) × Int) → Option (Int × (List Int))) : Nat → ((List Int) × Int × Int) → Option (Int × (List Int))
 | 0, _ => none
 | n5 + 1, v5 =>
  Bw N p1 p4 v5 (fun (v8 : Int) =>
   Bt N p1 p4 v5 v8 (fun (v16 : Int) =>
    AI ((decide (v16 < v8)))
     (j5 (v5.1, v8))
     ((A5 v5.1 v16).bind fun v24 =>
     (A5 v5.1 v8).bind fun v25 =>
     (A5 v5.1 v8).bind fun _ =>
     (A5 (v5.1.set ((v8).toNat) v24) v16).bind fun _ =>
     Bv N p1 p4 j5 n5 ((v5.1.set ((v8).toNat) v24).set ((v16).toNat) v25, (wI .i64 (v8 + 1)), (wI .i64 (v16 - 1))))) N v5.2.2) N v5.2.1
def Cr (N : Nat) (p0 : List Int) (p1 : Int) (p2 : Int) (p3 : Int) (p4 : (Int × Int) → Option Int) : Option (Int × (List Int)) :=
 (A5 p0 p3).bind fun v1 =>
 (A5 p0 p1).bind fun v2 =>
 (A5 p0 p1).bind fun _ =>
 (A5 (p0.set ((p1).toNat) v1) p3).bind fun _ =>
 Bv N p1 p4 (fun (v6 : (List Int) × Int) =>
  some (v6.2, v6.1)) N ((p0.set ((p1).toNat) v1).set ((p3).toNat) v2, (wI .i64 (p1 + 1)), (wI .i64 (p2 - 1)))
def BY (N : Nat) (p0 : List Int) (p1 : Int) (p2 : Int) (p3 : Int) (p4 : (Int × Int) → Option Int) (v1 : Int) (v2 : Int) (j5 : Int → Option (Int × Bool × (List Int))) : Nat → Int → Option (Int × Bool × (List Int))
 | 0, _ => none
 | n5 + 1, v5 =>
  Bk (fun (v7 : Bool) =>
   AI v7
    (BY N p0 p1 p2 p3 p4 v1 v2 j5 n5 (wI .i64 (v5 + 1)))
    (j5 v5))
  fun j7 =>
  AI ((decide (v5 ≤ (wI .i64 (p2 - 1)))))
   ((A5 ((p0.set ((p1).toNat) v1).set ((p3).toNat) v2) v5).bind fun v9 =>
   (A5 ((p0.set ((p1).toNat) v1).set ((p3).toNat) v2) p1).bind fun v10 =>
   (p4 ((v9, v10))).bind fun v11 =>
   j7 (decide (v11 < 0)))
   (j7 false)
def BR (N : Nat) (p0 : List Int) (p1 : Int) (p3 : Int) (p4 : (Int × Int) → Option Int) (v1 : Int) (v2 : Int) (v6 : Int) (j13 : Int → Option (Int × Bool × (List Int))) : Nat → Int → Option (Int × Bool × (List Int))
 | 0, _ => none
 | n13 + 1, v13 =>
  Bk (fun (v15 : Bool) =>
   AI v15
    (BR N p0 p1 p3 p4 v1 v2 v6 j13 n13 (wI .i64 (v13 - 1)))
    (j13 v13))
  fun j15 =>
  AI ((decide (v6 ≤ v13)))
   ((A5 ((p0.set ((p1).toNat) v1).set ((p3).toNat) v2) v13).bind fun v17 =>
   (A5 ((p0.set ((p1).toNat) v1).set ((p3).toNat) v2) p1).bind fun v18 =>
   (p4 ((v17, v18))).bind fun v19 =>
   j15 (!((decide (v19 < 0)))))
   (j15 false)
def BS (N : Nat) (p1 : Int) (p4 : (Int × Int) → Option Int) (v30 : (List Int) × Int × Int) (j32 : Int → Option (Int × Bool × (List Int))) : Nat → Int → Option (Int × Bool × (List Int))
 | 0, _ => none
 | n32 + 1, v32 =>
  Bk (fun (v34 : Bool) =>
   AI v34
    (BS N p1 p4 v30 j32 n32 (wI .i64 (v32 + 1)))
    (j32 v32))
  fun j34 =>
  AI ((decide (v32 ≤ v30.2.2)))
   ((A5 v30.1 v32).bind fun v36 =>
   (A5 v30.1 p1).bind fun v37 =>
   (p4 ((v36, v37))).bind fun v38 =>
   j34 (decide (v38 < 0)))
   (j34 false)
def BU (N : Nat) (p1 : Int) (p4 : (Int × Int) → Option Int) (v30 : (List Int) × Int × Int) (v33 : Int) (j40 : Int → Option (Int × Bool × (List Int))) : Nat → Int → Option (Int × Bool × (List Int))
 | 0, _ => none
 | n40 + 1, v40 =>
  Bk (fun (v42 : Bool) =>
   AI v42
    (BU N p1 p4 v30 v33 j40 n40 (wI .i64 (v40 - 1)))
    (j40 v40))
  fun j42 =>
  AI ((decide (v33 ≤ v40)))
   ((A5 v30.1 v40).bind fun v44 =>
   (A5 v30.1 p1).bind fun v45 =>
   (p4 ((v44, v45))).bind fun v46 =>
   j42 (!((decide (v46 < 0)))))
   (j42 false)
def BT (N : Nat) (p1 : Int) (p4 : (Int × Int) → Option Int) (j30 : ((List Int) × Int) → Option (Int × Bool × (List Int))) : Nat → ((List Int) × Int × Int) → Option (Int × Bool × (List Int))
 | 0, _ => none
 | n30 + 1, v30 =>
  BS N p1 p4 v30 (fun (v33 : Int) =>
   BU N p1 p4 v30 v33 (fun (v41 : Int) =>
    AI ((decide (v41 < v33)))
     (j30 (v30.1, v41))
     ((A5 v30.1 v41).bind fun v49 =>
     (A5 v30.1 v33).bind fun v50 =>
     (A5 v30.1 v33).bind fun _ =>
     (A5 (v30.1.set ((v33).toNat) v49) v41).bind fun _ =>
     BT N p1 p4 j30 n30 ((v30.1.set ((v33).toNat) v49).set ((v41).toNat) v50, (wI .i64 (v33 + 1)), (wI .i64 (v41 - 1))))) N v30.2.2) N v30.2.1
def C5 (N : Nat) (p0 : List Int) (p1 : Int) (p2 : Int) (p3 : Int) (p4 : (Int × Int) → Option Int) : Option (Int × Bool × (List Int)) :=
 (A5 p0 p3).bind fun v1 =>
 (A5 p0 p1).bind fun v2 =>
 (A5 p0 p1).bind fun _ =>
 (A5 (p0.set ((p1).toNat) v1) p3).bind fun _ =>
 BY N p0 p1 p2 p3 p4 v1 v2 (fun (v6 : Int) =>
  BR N p0 p1 p3 p4 v1 v2 v6 (fun (v14 : Int) =>
   AI ((decide (v14 < v6)))
    ((A5 ((p0.set ((p1).toNat) v1).set ((p3).toNat) v2) p1).bind fun v22 =>
    (A5 ((p0.set ((p1).toNat) v1).set ((p3).toNat) v2) v14).bind fun v23 =>
    (A5 ((p0.set ((p1).toNat) v1).set ((p3).toNat) v2) v14).bind fun _ =>
    (A5 (((p0.set ((p1).toNat) v1).set ((p3).toNat) v2).set ((v14).toNat) v22) p1).bind fun _ =>
    some (v14, true, (((p0.set ((p1).toNat) v1).set ((p3).toNat) v2).set ((v14).toNat) v22).set ((p1).toNat) v23))
    ((A5 ((p0.set ((p1).toNat) v1).set ((p3).toNat) v2) v14).bind fun v26 =>
    (A5 ((p0.set ((p1).toNat) v1).set ((p3).toNat) v2) v6).bind fun v27 =>
    (A5 ((p0.set ((p1).toNat) v1).set ((p3).toNat) v2) v6).bind fun _ =>
    (A5 (((p0.set ((p1).toNat) v1).set ((p3).toNat) v2).set ((v6).toNat) v26) v14).bind fun _ =>
    BT N p1 p4 (fun (v31 : (List Int) × Int) =>
     (A5 v31.1 p1).bind fun v53 =>
     (A5 v31.1 v31.2).bind fun v54 =>
     (A5 v31.1 v31.2).bind fun _ =>
     (A5 (v31.1.set ((v31.2).toNat) v53) p1).bind fun _ =>
     some (v31.2, false, (v31.1.set ((v31.2).toNat) v53).set ((p1).toNat) v54)) N ((((p0.set ((p1).toNat) v1).set ((p3).toNat) v2).set ((v6).toNat) v26).set ((v14).toNat) v27, (wI .i64 (v6 + 1)), (wI .i64 (v14 - 1))))) N (wI .i64 (p2 - 1))) N (wI .i64 (p1 + 1))
def Bj (N : Nat) (p4 : (Int × Int) → Option Int) (rc : (List Int) → Int → Int → Int → ((Int × Int) → Option Int) → Option ((List Int))) (j1 : Unit → Option ((List Int))) : Nat → ((List Int) × Int × Int × Int × Bool × Bool) → Option ((List Int))
 | 0, _ => none
 | n1 + 1, v1 =>
  AI ((decide ((wI .i64 (v1.2.2.1 - v1.2.1)) ≤ 12)))
   ((Cz N v1.1 v1.2.1 v1.2.2.1 p4).bind fun v4 =>
   some v4)
   (AI ((v1.2.2.2.1 == 0))
    ((Da N v1.1 v1.2.1 v1.2.2.1 p4).bind fun v6 =>
    some v6)
    (Bk (fun (v7 : (List Int) × Int) =>
     (CQ N v7.1 v1.2.1 v1.2.2.1 p4).bind fun v10 =>
     Bk (fun (v11 : (List Int) × Int × Int) =>
      Bk (fun (v14 : (List Int)) =>
       Bk (fun (v21 : Bool) =>
        AI v21
         ((Cr N v14 v1.2.1 v1.2.2.1 v11.2.1 p4).bind fun v27 =>
         Bj N p4 rc j1 n1 (v27.2, v27.1, v1.2.2.1, v7.2, v1.2.2.2.2.1, v1.2.2.2.2.2))
         ((C5 N v14 v1.2.1 v1.2.2.1 v11.2.1 p4).bind fun v28 =>
         AI ((decide ((wI .i64 (v28.1 - v1.2.1)) < (wI .i64 (v1.2.2.1 - v28.1)))))
          ((rc v28.2.2 v1.2.1 v28.1 v7.2 p4).bind fun v30 =>
          Bj N p4 rc j1 n1 (v30, (wI .i64 (v28.1 + 1)), v1.2.2.1, v7.2, (decide ((wI .i64 (zD0 ((wI .i64 (v1.2.2.1 - v1.2.1))) 8)) ≤ (wI .i64 (v28.1 - v1.2.1)))), v28.2.1))
          ((rc v28.2.2 ((wI .i64 (v28.1 + 1))) v1.2.2.1 v7.2 p4).bind fun v31 =>
          Bj N p4 rc j1 n1 (v31, v1.2.1, v28.1, v7.2, (decide ((wI .i64 (zD0 ((wI .i64 (v1.2.2.1 - v1.2.1))) 8)) ≤ (wI .i64 (v1.2.2.1 - v28.1)))), v28.2.1))))
       fun j21 =>
       AI ((decide (0 < v1.2.1)))
        ((A5 v14 ((wI .i64 (v1.2.1 - 1)))).bind fun v23 =>
        (A5 v14 v11.2.1).bind fun v24 =>
        (p4 ((v23, v24))).bind fun v25 =>
        j21 (!((decide (v25 < 0)))))
        (j21 false))
      fun j14 =>
      Bk (fun (v15 : Bool) =>
       AI v15
        ((BX N v11.1 v1.2.1 v1.2.2.1 p4).bind fun v19 =>
        AI v19.1
         (some v19.2)
         (j14 v19.2))
        (j14 v11.1))
      fun j15 =>
      AI v1.2.2.2.2.1
       (AI v1.2.2.2.2.2
        (j15 (v11.2.2 == 1))
        (j15 false))
       (j15 false))
     fun j11 =>
     AI ((v10.2 == 2))
      ((CI N v7.1 v1.2.1 v1.2.2.1 p4).bind fun v13 =>
      j11 (v13, (wI .i64 ((wI .i64 (v1.2.2.1 - 1)) - (wI .i64 (v10.1 - v1.2.1)))), 1))
      (j11 (v7.1, v10.1, v10.2)))
    fun j7 =>
    AI ((!v1.2.2.2.2.1))
     ((CA N v1.1 v1.2.1 v1.2.2.1 p4).bind fun v9 =>
     j7 (v9, (wI .i64 (v1.2.2.2.1 - 1))))
     (j7 (v1.1, v1.2.2.2.1))))
def C6 (N : Nat) (rc : (List Int) → Int → Int → Int → ((Int × Int) → Option Int) → Option ((List Int))) (p0 : List Int) (p1 : Int) (p2 : Int) (p3 : Int) (p4 : (Int × Int) → Option Int) : Option ((List Int)) :=
 Bj N p4 rc (fun (_ : Unit) =>
  none) N (p0, p1, p2, p3, true, true)
def Cd (N : Nat) : Nat → (List Int) → Int → Int → Int → ((Int × Int) → Option Int) → Option ((List Int))
 | 0, _, _, _, _, _ => none
 | k + 1, p0, p1, p2, p3, p4 => C6 N (Cd N k) p0 p1 p2 p3 p4
def EF (N : Nat) (p0 : List Int) (p1 : Int) (p2 : Int) (p3 : Int) (p4 : (Int × Int) → Option Int) : Option ((List Int)) := Cd N N p0 p1 p2 p3 p4
def Dr (N : Nat) (p0 : List Int) (p1 : (Int × Int) → Option Int) : Option ((List Int)) :=
 (Fx N ((wI .u64 ((p0.length : Int))))).bind fun v1 =>
 (EF N p0 0 ((p0.length : Int)) v1 p1).bind fun v2 =>
 some v2
def Ej (_ : Nat) (p0 : Int) : Option Int :=
 (L2 ((⟨⟨(zB1 (zB1 [0, 1, 1, 2, 1, 2, 2, 3, 1, 2, 2, 3, 2, 3, 3, 4, 1, 2, 2, 3, 2, 3, 3, 4, 2, 3, 3, 4, 3, 4, 4, 5, 1, 2, 2, 3, 2, 3, 3, 4, 2, 3, 3, 4, 3, 4, 4, 5, 2, 3, 3, 4, 3, 4, 4, 5, 3, 4, 4, 5, 4, 5, 5, 6] [1, 2, 2, 3, 2, 3, 3, 4, 2, 3, 3, 4, 3, 4, 4, 5, 2, 3, 3, 4, 3, 4, 4, 5, 3, 4, 4, 5, 4, 5, 5, 6, 2, 3, 3, 4, 3, 4, 4, 5, 3, 4, 4, 5, 4, 5, 5, 6, 3, 4, 4, 5, 4, 5, 5, 6, 4, 5, 5, 6, 5, 6, 6, 7]) (zB1 [1, 2, 2, 3, 2, 3, 3, 4, 2, 3, 3, 4, 3, 4, 4, 5, 2, 3, 3, 4, 3, 4, 4, 5, 3, 4, 4, 5, 4, 5, 5, 6, 2, 3, 3, 4, 3, 4, 4, 5, 3, 4, 4, 5, 4, 5, 5, 6, 3, 4, 4, 5, 4, 5, 5, 6, 4, 5, 5, 6, 5, 6, 6, 7] [2, 3, 3, 4, 3, 4, 4, 5, 3, 4, 4, 5, 4, 5, 5, 6, 3, 4, 4, 5, 4, 5, 5, 6, 4, 5, 5, 6, 5, 6, 6, 7, 3, 4, 4, 5, 4, 5, 5, 6, 4, 5, 5, 6, 5, 6, 6, 7, 4, 5, 5, 6, 5, 6, 6, 7, 5, 6, 6, 7, 6, 7, 7, 8]))⟩⟩ : ByteArray)) ((AL .u32 p0 24))).bind fun v1 =>
 (L2 ((⟨⟨(zB1 (zB1 [0, 1, 1, 2, 1, 2, 2, 3, 1, 2, 2, 3, 2, 3, 3, 4, 1, 2, 2, 3, 2, 3, 3, 4, 2, 3, 3, 4, 3, 4, 4, 5, 1, 2, 2, 3, 2, 3, 3, 4, 2, 3, 3, 4, 3, 4, 4, 5, 2, 3, 3, 4, 3, 4, 4, 5, 3, 4, 4, 5, 4, 5, 5, 6] [1, 2, 2, 3, 2, 3, 3, 4, 2, 3, 3, 4, 3, 4, 4, 5, 2, 3, 3, 4, 3, 4, 4, 5, 3, 4, 4, 5, 4, 5, 5, 6, 2, 3, 3, 4, 3, 4, 4, 5, 3, 4, 4, 5, 4, 5, 5, 6, 3, 4, 4, 5, 4, 5, 5, 6, 4, 5, 5, 6, 5, 6, 6, 7]) (zB1 [1, 2, 2, 3, 2, 3, 3, 4, 2, 3, 3, 4, 3, 4, 4, 5, 2, 3, 3, 4, 3, 4, 4, 5, 3, 4, 4, 5, 4, 5, 5, 6, 2, 3, 3, 4, 3, 4, 4, 5, 3, 4, 4, 5, 4, 5, 5, 6, 3, 4, 4, 5, 4, 5, 5, 6, 4, 5, 5, 6, 5, 6, 6, 7] [2, 3, 3, 4, 3, 4, 4, 5, 3, 4, 4, 5, 4, 5, 5, 6, 3, 4, 4, 5, 4, 5, 5, 6, 4, 5, 5, 6, 5, 6, 6, 7, 3, 4, 4, 5, 4, 5, 5, 6, 4, 5, 5, 6, 5, 6, 6, 7, 4, 5, 5, 6, 5, 6, 6, 7, 5, 6, 6, 7, 6, 7, 7, 8]))⟩⟩ : ByteArray)) ((Ax .u32 ((AL .u32 p0 16)) 255))).bind fun v2 =>
 (L2 ((⟨⟨(zB1 (zB1 [0, 1, 1, 2, 1, 2, 2, 3, 1, 2, 2, 3, 2, 3, 3, 4, 1, 2, 2, 3, 2, 3, 3, 4, 2, 3, 3, 4, 3, 4, 4, 5, 1, 2, 2, 3, 2, 3, 3, 4, 2, 3, 3, 4, 3, 4, 4, 5, 2, 3, 3, 4, 3, 4, 4, 5, 3, 4, 4, 5, 4, 5, 5, 6] [1, 2, 2, 3, 2, 3, 3, 4, 2, 3, 3, 4, 3, 4, 4, 5, 2, 3, 3, 4, 3, 4, 4, 5, 3, 4, 4, 5, 4, 5, 5, 6, 2, 3, 3, 4, 3, 4, 4, 5, 3, 4, 4, 5, 4, 5, 5, 6, 3, 4, 4, 5, 4, 5, 5, 6, 4, 5, 5, 6, 5, 6, 6, 7]) (zB1 [1, 2, 2, 3, 2, 3, 3, 4, 2, 3, 3, 4, 3, 4, 4, 5, 2, 3, 3, 4, 3, 4, 4, 5, 3, 4, 4, 5, 4, 5, 5, 6, 2, 3, 3, 4, 3, 4, 4, 5, 3, 4, 4, 5, 4, 5, 5, 6, 3, 4, 4, 5, 4, 5, 5, 6, 4, 5, 5, 6, 5, 6, 6, 7] [2, 3, 3, 4, 3, 4, 4, 5, 3, 4, 4, 5, 4, 5, 5, 6, 3, 4, 4, 5, 4, 5, 5, 6, 4, 5, 5, 6, 5, 6, 6, 7, 3, 4, 4, 5, 4, 5, 5, 6, 4, 5, 5, 6, 5, 6, 6, 7, 4, 5, 5, 6, 5, 6, 6, 7, 5, 6, 6, 7, 6, 7, 7, 8]))⟩⟩ : ByteArray)) ((Ax .u32 ((AL .u32 p0 8)) 255))).bind fun v3 =>
 (L2 ((⟨⟨(zB1 (zB1 [0, 1, 1, 2, 1, 2, 2, 3, 1, 2, 2, 3, 2, 3, 3, 4, 1, 2, 2, 3, 2, 3, 3, 4, 2, 3, 3, 4, 3, 4, 4, 5, 1, 2, 2, 3, 2, 3, 3, 4, 2, 3, 3, 4, 3, 4, 4, 5, 2, 3, 3, 4, 3, 4, 4, 5, 3, 4, 4, 5, 4, 5, 5, 6] [1, 2, 2, 3, 2, 3, 3, 4, 2, 3, 3, 4, 3, 4, 4, 5, 2, 3, 3, 4, 3, 4, 4, 5, 3, 4, 4, 5, 4, 5, 5, 6, 2, 3, 3, 4, 3, 4, 4, 5, 3, 4, 4, 5, 4, 5, 5, 6, 3, 4, 4, 5, 4, 5, 5, 6, 4, 5, 5, 6, 5, 6, 6, 7]) (zB1 [1, 2, 2, 3, 2, 3, 3, 4, 2, 3, 3, 4, 3, 4, 4, 5, 2, 3, 3, 4, 3, 4, 4, 5, 3, 4, 4, 5, 4, 5, 5, 6, 2, 3, 3, 4, 3, 4, 4, 5, 3, 4, 4, 5, 4, 5, 5, 6, 3, 4, 4, 5, 4, 5, 5, 6, 4, 5, 5, 6, 5, 6, 6, 7] [2, 3, 3, 4, 3, 4, 4, 5, 3, 4, 4, 5, 4, 5, 5, 6, 3, 4, 4, 5, 4, 5, 5, 6, 4, 5, 5, 6, 5, 6, 6, 7, 3, 4, 4, 5, 4, 5, 5, 6, 4, 5, 5, 6, 5, 6, 6, 7, 4, 5, 5, 6, 5, 6, 6, 7, 5, 6, 6, 7, 6, 7, 7, 8]))⟩⟩ : ByteArray)) ((Ax .u32 p0 255))).bind fun v4 =>
 some ((wI .i64 ((wI .u8 ((wI .u8 ((wI .u8 (v1 + v2)) + v3)) + v4)))))
def Ec (_ : Nat) (p0 : Int) : Option Int :=
 some ((Ax .i64 ((wI .i64 ((wI .u64 ((wI .u64 ((wI .u64 ((Ax .u64 ((wI .u64 ((AL .u64 ((wI .u64 ((Ax .u64 ((AL .u64 ((wI .u64 ((Ax .u64 ((AL .u64 p0 1)) 6148914691236517205) + (Ax .u64 p0 6148914691236517205)))) 2)) 3689348814741910323) + (Ax .u64 ((wI .u64 ((Ax .u64 ((AL .u64 p0 1)) 6148914691236517205) + (Ax .u64 p0 6148914691236517205)))) 3689348814741910323)))) 4) + (wI .u64 ((Ax .u64 ((AL .u64 ((wI .u64 ((Ax .u64 ((AL .u64 p0 1)) 6148914691236517205) + (Ax .u64 p0 6148914691236517205)))) 2)) 3689348814741910323) + (Ax .u64 ((wI .u64 ((Ax .u64 ((AL .u64 p0 1)) 6148914691236517205) + (Ax .u64 p0 6148914691236517205)))) 3689348814741910323)))))) 1085102592571150095) + (AL .u64 ((Ax .u64 ((wI .u64 ((AL .u64 ((wI .u64 ((Ax .u64 ((AL .u64 ((wI .u64 ((Ax .u64 ((AL .u64 p0 1)) 6148914691236517205) + (Ax .u64 p0 6148914691236517205)))) 2)) 3689348814741910323) + (Ax .u64 ((wI .u64 ((Ax .u64 ((AL .u64 p0 1)) 6148914691236517205) + (Ax .u64 p0 6148914691236517205)))) 3689348814741910323)))) 4) + (wI .u64 ((Ax .u64 ((AL .u64 ((wI .u64 ((Ax .u64 ((AL .u64 p0 1)) 6148914691236517205) + (Ax .u64 p0 6148914691236517205)))) 2)) 3689348814741910323) + (Ax .u64 ((wI .u64 ((Ax .u64 ((AL .u64 p0 1)) 6148914691236517205) + (Ax .u64 p0 6148914691236517205)))) 3689348814741910323)))))) 1085102592571150095)) 8))) + (AL .u64 ((wI .u64 ((Ax .u64 ((wI .u64 ((AL .u64 ((wI .u64 ((Ax .u64 ((AL .u64 ((wI .u64 ((Ax .u64 ((AL .u64 p0 1)) 6148914691236517205) + (Ax .u64 p0 6148914691236517205)))) 2)) 3689348814741910323) + (Ax .u64 ((wI .u64 ((Ax .u64 ((AL .u64 p0 1)) 6148914691236517205) + (Ax .u64 p0 6148914691236517205)))) 3689348814741910323)))) 4) + (wI .u64 ((Ax .u64 ((AL .u64 ((wI .u64 ((Ax .u64 ((AL .u64 p0 1)) 6148914691236517205) + (Ax .u64 p0 6148914691236517205)))) 2)) 3689348814741910323) + (Ax .u64 ((wI .u64 ((Ax .u64 ((AL .u64 p0 1)) 6148914691236517205) + (Ax .u64 p0 6148914691236517205)))) 3689348814741910323)))))) 1085102592571150095) + (AL .u64 ((Ax .u64 ((wI .u64 ((AL .u64 ((wI .u64 ((Ax .u64 ((AL .u64 ((wI .u64 ((Ax .u64 ((AL .u64 p0 1)) 6148914691236517205) + (Ax .u64 p0 6148914691236517205)))) 2)) 3689348814741910323) + (Ax .u64 ((wI .u64 ((Ax .u64 ((AL .u64 p0 1)) 6148914691236517205) + (Ax .u64 p0 6148914691236517205)))) 3689348814741910323)))) 4) + (wI .u64 ((Ax .u64 ((AL .u64 ((wI .u64 ((Ax .u64 ((AL .u64 p0 1)) 6148914691236517205) + (Ax .u64 p0 6148914691236517205)))) 2)) 3689348814741910323) + (Ax .u64 ((wI .u64 ((Ax .u64 ((AL .u64 p0 1)) 6148914691236517205) + (Ax .u64 p0 6148914691236517205)))) 3689348814741910323)))))) 1085102592571150095)) 8)))) 16))) + (AL .u64 ((wI .u64 ((wI .u64 ((Ax .u64 ((wI .u64 ((AL .u64 ((wI .u64 ((Ax .u64 ((AL .u64 ((wI .u64 ((Ax .u64 ((AL .u64 p0 1)) 6148914691236517205) + (Ax .u64 p0 6148914691236517205)))) 2)) 3689348814741910323) + (Ax .u64 ((wI .u64 ((Ax .u64 ((AL .u64 p0 1)) 6148914691236517205) + (Ax .u64 p0 6148914691236517205)))) 3689348814741910323)))) 4) + (wI .u64 ((Ax .u64 ((AL .u64 ((wI .u64 ((Ax .u64 ((AL .u64 p0 1)) 6148914691236517205) + (Ax .u64 p0 6148914691236517205)))) 2)) 3689348814741910323) + (Ax .u64 ((wI .u64 ((Ax .u64 ((AL .u64 p0 1)) 6148914691236517205) + (Ax .u64 p0 6148914691236517205)))) 3689348814741910323)))))) 1085102592571150095) + (AL .u64 ((Ax .u64 ((wI .u64 ((AL .u64 ((wI .u64 ((Ax .u64 ((AL .u64 ((wI .u64 ((Ax .u64 ((AL .u64 p0 1)) 6148914691236517205) + (Ax .u64 p0 6148914691236517205)))) 2)) 3689348814741910323) + (Ax .u64 ((wI .u64 ((Ax .u64 ((AL .u64 p0 1)) 6148914691236517205) + (Ax .u64 p0 6148914691236517205)))) 3689348814741910323)))) 4) + (wI .u64 ((Ax .u64 ((AL .u64 ((wI .u64 ((Ax .u64 ((AL .u64 p0 1)) 6148914691236517205) + (Ax .u64 p0 6148914691236517205)))) 2)) 3689348814741910323) + (Ax .u64 ((wI .u64 ((Ax .u64 ((AL .u64 p0 1)) 6148914691236517205) + (Ax .u64 p0 6148914691236517205)))) 3689348814741910323)))))) 1085102592571150095)) 8))) + (AL .u64 ((wI .u64 ((Ax .u64 ((wI .u64 ((AL .u64 ((wI .u64 ((Ax .u64 ((AL .u64 ((wI .u64 ((Ax .u64 ((AL .u64 p0 1)) 6148914691236517205) + (Ax .u64 p0 6148914691236517205)))) 2)) 3689348814741910323) + (Ax .u64 ((wI .u64 ((Ax .u64 ((AL .u64 p0 1)) 6148914691236517205) + (Ax .u64 p0 6148914691236517205)))) 3689348814741910323)))) 4) + (wI .u64 ((Ax .u64 ((AL .u64 ((wI .u64 ((Ax .u64 ((AL .u64 p0 1)) 6148914691236517205) + (Ax .u64 p0 6148914691236517205)))) 2)) 3689348814741910323) + (Ax .u64 ((wI .u64 ((Ax .u64 ((AL .u64 p0 1)) 6148914691236517205) + (Ax .u64 p0 6148914691236517205)))) 3689348814741910323)))))) 1085102592571150095) + (AL .u64 ((Ax .u64 ((wI .u64 ((AL .u64 ((wI .u64 ((Ax .u64 ((AL .u64 ((wI .u64 ((Ax .u64 ((AL .u64 p0 1)) 6148914691236517205) + (Ax .u64 p0 6148914691236517205)))) 2)) 3689348814741910323) + (Ax .u64 ((wI .u64 ((Ax .u64 ((AL .u64 p0 1)) 6148914691236517205) + (Ax .u64 p0 6148914691236517205)))) 3689348814741910323)))) 4) + (wI .u64 ((Ax .u64 ((AL .u64 ((wI .u64 ((Ax .u64 ((AL .u64 p0 1)) 6148914691236517205) + (Ax .u64 p0 6148914691236517205)))) 2)) 3689348814741910323) + (Ax .u64 ((wI .u64 ((Ax .u64 ((AL .u64 p0 1)) 6148914691236517205) + (Ax .u64 p0 6148914691236517205)))) 3689348814741910323)))))) 1085102592571150095)) 8)))) 16)))) 32)))))) 127))
def DB (N : Nat) (p0 : Int) : Option Int :=
 AI false
  ((Ej N ((wI .u32 p0))).bind fun v2 =>
  some v2)
  ((Ec N p0).bind fun v3 =>
  some v3)
def E5 (_ : Nat) (p0 : Int) : Option Int := UG p0
def EN (N : Nat) (j1 : ((List Int)) → Option ((List Int))) : Nat → ((List Int) × Int) → Option ((List Int))
 | 0, _ => none
 | n1 + 1, v1 =>
  AI ((v1.2 != 0))
   ((E5 N v1.2).bind fun v4 =>
   (GZ (v1.1.length + (([v4] : List Int)).length ≤ HH)).bind fun _ =>
   EN N j1 n1 (v1.1 ++ (([v4] : List Int)), (Ax .u64 v1.2 ((wI .u64 (v1.2 - 1))))))
   (j1 v1.1)
def Dt (N : Nat) (p0 : Int) : Option ((List Int)) :=
 EN N (fun (v2 : (List Int)) =>
  some v2) N (([] : List Int), p0)
def Fm (_ : Nat) (p0 : Int) : Option Bool :=
 some ((p0 != p0))
def Ga (N : Nat) (p0 : Int) (p1 : Int) : Option Int :=
 (Fm N p0).bind fun v1 =>
 (Fm N p1).bind fun v2 =>
 AI v1
  (AI v2
   (some 0)
   (some ((-1))))
  (AI v2
   (some 1)
   (AI ((decide (p0 < p1)))
    (some ((-1)))
    (AI ((decide (p1 < p0)))
     (some 1)
     (some 0))))
def CF (N : Nat) (p0 : List Int) (p1 : List Int) (j1 : Unit → Option Int) : Nat → Int → Option Int
 | 0, _ => none
 | n1 + 1, v1 =>
  AI ((decide (v1 < (p0.length : Int))))
   ((A5 p0 v1).bind fun v4 =>
   AI ((decide ((p1.length : Int) ≤ v1)))
    (some 1)
    ((A5 p1 v1).bind fun v6 =>
    (Ga N v4 v6).bind fun v7 =>
    AI ((v7 != 0))
     (some v7)
     (CF N p0 p1 j1 n1 (wI .i64 (v1 + 1)))))
   (j1 ())
def Cm (N : Nat) (p0 : List Int) (p1 : List Int) : Option Int :=
 CF N p0 p1 (fun (_ : Unit) =>
  AI ((decide ((p0.length : Int) < (p1.length : Int))))
   (some ((-1)))
   (some 0)) N 0
def FN (N : Nat) (p0 : Int) (p1 : Int) : Option Int :=
 (DB N p0).bind fun v1 =>
 (DB N p1).bind fun v2 =>
 AI (((wI .i64 (v1 - v2)) != 0))
  (some ((wI .i64 (v1 - v2))))
  ((Dt N p0).bind fun v4 =>
  (Dt N p1).bind fun v5 =>
  (Cm N v4 v5).bind fun v6 =>
  some v6)
def CU (N : Nat) (p0 : List Int) (p1 : Int) (j1 : Unit → Option Int) : Nat → Int → Option Int
 | 0, _ => none
 | n1 + 1, v1 =>
  AI ((decide (v1 < (p0.length : Int))))
   ((A5 p0 v1).bind fun v4 =>
   AI ((p1 == v4))
    (some v1)
    (CU N p0 p1 j1 n1 (wI .i64 (v1 + 1))))
   (j1 ())
def Dq (N : Nat) (p0 : List Int) (p1 : Int) : Option Int :=
 CU N p0 p1 (fun (_ : Unit) =>
  some ((-1))) N 0
def C8 (_ : Nat) (p0 : List (List Bool)) : Option ((List (List Bool))) :=
 (GZ ((([] : List (List Bool))).length + p0.length ≤ HH)).bind fun _ =>
 some ((([] : List (List Bool))) ++ p0)
def CO (_ : Nat) (p0 : List Bool) : Option ((List Bool)) :=
 (GZ ((([] : List Bool)).length + p0.length ≤ HH)).bind fun _ =>
 some ((([] : List Bool)) ++ p0)
def EO (N : Nat) (v1 : (List (List Bool))) (j3 : ((List (List Bool))) → Option Aw) : Nat → ((List (List Bool)) × Int) → Option Aw
 | 0, _ => none
 | n3 + 1, v3 =>
  AI ((decide (v3.2 < (v1.length : Int))))
   ((A5 v3.1 v3.2).bind fun v6 =>
   (CO N v6).bind fun v7 =>
   (A5 v3.1 v3.2).bind fun _ =>
   EO N v1 j3 n3 (v3.1.set ((v3.2).toNat) v7, (wI .i64 (v3.2 + 1))))
   (j3 v3.1)
def EH (N : Nat) (v2 : (List (List Bool))) (j9 : ((List (List Bool))) → Option Aw) : Nat → ((List (List Bool)) × Int) → Option Aw
 | 0, _ => none
 | n9 + 1, v9 =>
  AI ((decide (v9.2 < (v2.length : Int))))
   ((A5 v9.1 v9.2).bind fun v12 =>
   (CO N v12).bind fun v13 =>
   (A5 v9.1 v9.2).bind fun _ =>
   EH N v2 j9 n9 (v9.1.set ((v9.2).toNat) v13, (wI .i64 (v9.2 + 1))))
   (j9 v9.1)
def Hf (N : Nat) (p0 : Aw) : Option Aw :=
 (C8 N p0.fi).bind fun v1 =>
 (C8 N p0.fh).bind fun v2 =>
 EO N v1 (fun (v4 : (List (List Bool))) =>
  EH N v2 (fun (v10 : (List (List Bool))) =>
   some ((Aw.mk p0.fd p0.fg p0.fj p0.fq v4 v10))) N (v2, 0)) N (v1, 0)
def D8 (N : Nat) (p1 : List Int) (j3 : Unit → Option (Ae × Int)) : Nat → Int → Option (Ae × Int)
 | 0, _ => none
 | n3 + 1, v3 =>
  AI ((decide (v3 < (p1.length : Int))))
   (Bk (fun (v6 : Bool) =>
    AI v6
     (some ((Ae.mk (([] : List Int)) (([] : List Int)) (([] : List Int)) (([] : List Aw))), 1))
     (D8 N p1 j3 n3 (wI .i64 (v3 + 1))))
   fun j6 =>
   AI ((decide (0 < v3)))
    ((A5 p1 v3).bind fun v8 =>
    (A5 p1 ((wI .i64 (v3 - 1)))).bind fun v9 =>
    j6 (decide (v8 ≤ v9)))
    (j6 false))
   (j3 ())
def DO (N : Nat) (p0 : Ae) (p1 : List Int) (j11 : ((List Int) × (List Int) × (List Int)) → Option (Ae × Int)) : Nat → ((List Int) × (List Int) × (List Int) × Int) → Option (Ae × Int)
 | 0, _ => none
 | n11 + 1, v11 =>
  AI ((decide (v11.2.2.2 < (p1.length : Int))))
   ((A5 p1 v11.2.2.2).bind fun v14 =>
   (CG N v14 ((p0.fa.length : Int))).bind fun v15 =>
   AI ((!v15))
    (some ((Ae.mk (([] : List Int)) (([] : List Int)) (([] : List Int)) (([] : List Aw))), 4))
    ((A5 p0.fa v14).bind fun v17 =>
    (GZ (v11.1.length + (([v17] : List Int)).length ≤ HH)).bind fun _ =>
    (A5 p0.fk v14).bind fun v19 =>
    (GZ (v11.2.1.length + (([v19] : List Int)).length ≤ HH)).bind fun _ =>
    (A5 p0.fo v14).bind fun v21 =>
    (GZ (v11.2.2.1.length + (([v21] : List Int)).length ≤ HH)).bind fun _ =>
    DO N p0 p1 j11 n11 (v11.1 ++ (([v17] : List Int)), v11.2.1 ++ (([v19] : List Int)), v11.2.2.1 ++ (([v21] : List Int)), (wI .i64 (v11.2.2.2 + 1)))))
   (j11 (v11.1, v11.2.1, v11.2.2.1))
def DQ (N : Nat) (p0 : Ae) (p1 : List Int) (j23 : ((List Aw)) → Option (Ae × Int)) : Nat → ((List Aw) × Int) → Option (Ae × Int)
 | 0, _ => none
 | n23 + 1, v23 =>
  AI ((decide (v23.2 < (p0.fb.length : Int))))
   (Bk (fun (v26 : (List Aw)) =>
    DQ N p0 p1 j23 n23 (v26, (wI .i64 (v23.2 + 1))))
   fun j26 =>
   (A5 p0.fb v23.2).bind fun v27 =>
   (Dq N p1 v27.fg).bind fun v28 =>
   (Dq N p1 v27.fj).bind fun v29 =>
   Bk (fun (v30 : Bool) =>
    AI v30
     ((Hf N v27).bind fun v33 =>
     (GZ (v23.1.length + (([(Aw.mk v33.fd v28 v29 v33.fq v33.fi v33.fh)] : List Aw)).length ≤ HH)).bind fun _ =>
     j26 (v23.1 ++ (([(Aw.mk v33.fd v28 v29 v33.fq v33.fi v33.fh)] : List Aw))))
     (j26 v23.1))
   fun j30 =>
   AI ((decide (0 ≤ v28)))
    (j30 (decide (0 ≤ v29)))
    (j30 false))
   (j23 v23.1)
def Do (N : Nat) (p0 : Ae) (p1 : List Int) : Option (Ae × Int) :=
 (Bs N p0).bind fun v1 =>
 AI ((v1 != 0))
  (some ((Ae.mk (([] : List Int)) (([] : List Int)) (([] : List Int)) (([] : List Aw))), v1))
  (D8 N p1 (fun (_ : Unit) =>
   DO N p0 p1 (fun (v12 : (List Int) × (List Int) × (List Int)) =>
    DQ N p0 p1 (fun (v24 : (List Aw)) =>
     some ((Ae.mk v12.1 v12.2.1 v12.2.2 v24), 0)) N (([] : List Aw), 0)) N (([] : List Int), ([] : List Int), ([] : List Int), 0)) N 0)
def BM (_ : Nat) (p0 : List Int) : Option ((List Int)) :=
 (GZ ((([] : List Int)).length + p0.length ≤ HH)).bind fun _ =>
 some ((([] : List Int)) ++ p0)
def F4 (_ : Nat) (p0 : Int) (p1 : Int) : Option (Int × Int) :=
 some ((wI .u32 ((AL .u64 ((wI .u64 ((wI .u64 p0) * (wI .u64 p1)))) 32))), (wI .u32 ((wI .u64 ((wI .u64 p0) * (wI .u64 p1))))))
def F9 (_ : Nat) (p0 : Int) (p1 : Int) : Option (Int × Int) :=
 some ((wI .u64 ((wI .u64 ((wI .u64 ((AL .u64 p0 32) * (AL .u64 p1 32))) + (AL .u64 ((wI .u64 ((wI .u64 ((AL .u64 p0 32) * (Ax .u64 p1 4294967295))) + (AL .u64 ((wI .u64 ((Ax .u64 p0 4294967295) * (Ax .u64 p1 4294967295)))) 32)))) 32))) + (AL .u64 ((wI .u64 ((Ax .u64 ((wI .u64 ((wI .u64 ((AL .u64 p0 32) * (Ax .u64 p1 4294967295))) + (AL .u64 ((wI .u64 ((Ax .u64 p0 4294967295) * (Ax .u64 p1 4294967295)))) 32)))) 4294967295) + (wI .u64 ((Ax .u64 p0 4294967295) * (AL .u64 p1 32)))))) 32))), (wI .u64 (p0 * p1)))
def GR (N : Nat) (p0 : Int) (p1 : Int) : Option (Int × Int) :=
 AI false
  ((F4 N ((wI .u32 p0)) ((wI .u32 p1))).bind fun v2 =>
  some ((wI .u64 v2.1), (wI .u64 v2.2)))
  ((F9 N p0 p1).bind fun v3 =>
  some (v3.1, v3.2))
def CM (N : Nat) (j9 : ((List Int)) → Option ((List Int))) : Nat → ((List Int) × Int) → Option ((List Int))
 | 0, _ => none
 | n9 + 1, v9 =>
  AI ((decide (v9.2 < (v9.1.length : Int))))
   ((GZ ((0 : Int) ≤ v9.2 ∧ (v9.2).toNat ≤ v9.1.length ∧ v9.1.length ≤ v9.1.length)).bind fun _ =>
   (GZ ((0 : Int) ≤ v9.2 ∧ 0 ≤ (v9.2).toNat ∧ (v9.2).toNat ≤ v9.1.length)).bind fun _ =>
   CM N j9 n9 (Iu v9.1 ((v9.2).toNat) ((((v9.1.drop 0).take ((v9.2).toNat))).take (zC2 (((v9.1.drop 0).take ((v9.2).toNat))).length ((v9.1.length - (v9.2).toNat)))), (wI .i64 (v9.2 + (((zC2 (((v9.1.drop 0).take ((v9.2).toNat))).length ((v9.1.length - (v9.2).toNat))) : Nat) : Int)))))
   (j9 v9.1)
def Ee (N : Nat) (p0 : List Int) (p1 : Int) : Option ((List Int)) :=
 Bk (fun (_ : Unit) =>
  (GR N ((wI .u64 ((p0.length : Int)))) ((wI .u64 p1))).bind fun v3 =>
  Bk (fun (_ : Unit) =>
   (GZ ((0 : Int) ≤ (wI .i64 v3.2) ∧ (wI .i64 v3.2) ≤ (wI .i64 v3.2) ∧ (wI .i64 v3.2) ≤ (HH : Int))).bind fun _ =>
   CM N (fun (v10 : (List Int)) =>
    some v10) N (Iu (zA6 ((wI .i64 v3.2)).toNat ((0 : Int))) 0 (p0.take (zC2 p0.length ((zA6 ((wI .i64 v3.2)).toNat ((0 : Int))).length))), (((zC2 p0.length ((zA6 ((wI .i64 v3.2)).toNat ((0 : Int))).length)) : Nat) : Int)))
  fun j4 =>
  Bk (fun (v5 : Bool) =>
   AI v5
    (none)
    (j4 ()))
  fun j5 =>
  AI ((decide (0 < v3.1)))
   (j5 true)
   (j5 (decide (9223372036854775807 < v3.2))))
 fun j1 =>
 AI ((decide (p1 < 0)))
  (none)
  (j1 ())
def FM (_ : Nat) (p0 : Aw) : Option Bool :=
 Bk (fun (v1 : Bool) =>
  some v1)
 fun j1 =>
 AI ((p0.fd == 3))
  (j1 true)
  (j1 (p0.fd == 4))
def FR (N : Nat) (p0 : Ae) (j6 : ((List Int)) → Option (Ao × Int)) : Nat → ((List Int) × Int) → Option (Ao × Int)
 | 0, _ => none
 | n6 + 1, v6 =>
  AI ((decide (v6.2 < (p0.fb.length : Int))))
   (Bk (fun (v9 : (List Int)) =>
    FR N p0 j6 n6 (v9, (wI .i64 (v6.2 + 1))))
   fun j9 =>
   (A5 p0.fb v6.2).bind fun v10 =>
   (FM N v10).bind fun v11 =>
   AI v11
    ((A5 p0.fk v10.fg).bind fun v13 =>
    (GZ (0 ≤ v13)).bind fun _ =>
    (A5 v6.1 v6.2).bind fun _ =>
    j9 (v6.1.set ((v6.2).toNat) ((DJ .u8 1 v13))))
    (j9 v6.1))
   (j6 v6.1)
def Hp (N : Nat) (p0 : Ae) : Option (Ao × Int) :=
 (Bs N p0).bind fun v1 =>
 AI ((v1 != 0))
  (some ((Ao.mk (([] : List Int)) (([] : List Int)) (([] : List Int))), v1))
  ((BM N p0.fk).bind fun v3 =>
  (Ee N (([(-1)] : List Int)) ((p0.fk.length : Int))).bind fun v4 =>
  (GZ ((0 : Int) ≤ (p0.fb.length : Int) ∧ (p0.fb.length : Int) ≤ (p0.fb.length : Int) ∧ (p0.fb.length : Int) ≤ (HH : Int))).bind fun _ =>
  FR N p0 (fun (v7 : (List Int)) =>
   some ((Ao.mk v3 v4 v7), 0)) N (zA6 ((p0.fb.length : Int)).toNat ((0 : Int)), 0))
def Ff (_ : Nat) (p0 : Ao) (p1 : Int) : Option Int :=
 (A5 p0.fe p1).bind fun v1 =>
 (GZ (0 ≤ v1)).bind fun _ =>
 Bk (fun (v3 : Int) =>
  some v3)
 fun j3 =>
 (A5 p0.fc p1).bind fun v4 =>
 AI ((decide (0 ≤ v4)))
  ((A5 p0.fc p1).bind fun v6 =>
  (GZ (0 ≤ v6)).bind fun _ =>
  j3 (Qw .u8 ((DJ .u8 1 v1)) ((DJ .u8 1 v6))))
  (j3 (DJ .u8 1 v1))
def FX (N : Nat) (p0 : Ae) (p1 : Ao) (j7 : Unit → Option Int) : Nat → Int → Option Int
 | 0, _ => none
 | n7 + 1, v7 =>
  AI ((decide (v7 < (p0.fa.length : Int))))
   ((A5 p0.fa v7).bind fun v10 =>
   Bk (fun (v11 : Bool) =>
    AI v11
     (some 7)
     ((A5 p1.fe v7).bind fun v20 =>
     (A5 p1.fc v7).bind fun v21 =>
     AI ((v20 == v21))
      (some 1)
      (FX N p0 p1 j7 n7 (wI .i64 (v7 + 1)))))
   fun j11 =>
   (A5 p1.fe v7).bind fun v12 =>
   AI ((decide (v12 < 0)))
    (j11 true)
    ((A5 p1.fe v7).bind fun v14 =>
    AI ((decide (v10 ≤ v14)))
     (j11 true)
     ((A5 p1.fc v7).bind fun v16 =>
     AI ((decide (v16 < (-1))))
      (j11 true)
      ((A5 p1.fc v7).bind fun v18 =>
      j11 (decide (v10 ≤ v18))))))
   (j7 ())
def Fw (N : Nat) (p0 : Ae) (p1 : Ao) (j23 : Unit → Option Int) : Nat → Int → Option Int
 | 0, _ => none
 | n23 + 1, v23 =>
  AI ((decide (v23 < (p0.fb.length : Int))))
   ((A5 p0.fb v23).bind fun v26 =>
   Bk (fun (v27 : Int × Int) =>
    Bk (fun (v33 : Bool) =>
     AI v33
      (some 1)
      (Fw N p0 p1 j23 n23 (wI .i64 (v23 + 1))))
    fun j33 =>
    (A5 p1.ff v23).bind fun v34 =>
    AI (((GV .u8 v27.1 v34) != 0))
     (j33 true)
     ((A5 p1.ff v23).bind fun v36 =>
     j33 ((GV .u8 v36 v27.2) != 0)))
   fun j27 =>
   (FM N v26).bind fun v28 =>
   AI v28
    ((Ff N p1 v26.fg).bind fun v30 =>
    (A5 p0.fa v26.fg).bind fun v31 =>
    (GZ (0 ≤ v31)).bind fun _ =>
    j27 (v30, (wI .u8 ((DJ .u8 1 v31) - 1))))
    (j27 (0, 0)))
   (j23 ())
def Fj (N : Nat) (p0 : Ae) (p1 : Ao) : Option Int :=
 (Bs N p0).bind fun v1 =>
 AI ((v1 != 0))
  (some v1)
  (Bk (fun (v3 : Bool) =>
   AI v3
    (some 6)
    (FX N p0 p1 (fun (_ : Unit) =>
     Fw N p0 p1 (fun (_ : Unit) =>
      some 0) N 0) N 0))
  fun j3 =>
  AI (((p1.fe.length : Int) != (p0.fa.length : Int)))
   (j3 true)
   (AI (((p1.fc.length : Int) != (p0.fa.length : Int)))
    (j3 true)
    (j3 ((p1.ff.length : Int) != (p0.fb.length : Int)))))
def Cc (_ : Nat) (p0 : List Int) : Option ((List Int)) :=
 (GZ ((([] : List Int)).length + p0.length ≤ HH)).bind fun _ =>
 some ((([] : List Int)) ++ p0)
def Fq (N : Nat) (p1 : Ao) (j3 : ((List Int)) → Option ((List Ao) × Int)) : Nat → ((List Int) × Int) → Option ((List Ao) × Int)
 | 0, _ => none
 | n3 + 1, v3 =>
  AI ((decide (v3.2 < (p1.fc.length : Int))))
   (Bk (fun (v6 : (List Int)) =>
    Fq N p1 j3 n3 (v6, (wI .i64 (v3.2 + 1))))
   fun j6 =>
   (A5 p1.fc v3.2).bind fun v7 =>
   AI ((decide (0 ≤ v7)))
    ((GZ (v3.1.length + (([v3.2] : List Int)).length ≤ HH)).bind fun _ =>
    j6 (v3.1 ++ (([v3.2] : List Int))))
    (j6 v3.1))
   (j3 v3.1)
def E3 (N : Nat) (v4 : (List Int)) (v11 : (List Ao) × Int) (j17 : ((List Int)) → Option ((List Ao) × Int)) : Nat → ((List Int) × Int) → Option ((List Ao) × Int)
 | 0, _ => none
 | n17 + 1, v17 =>
  AI ((decide (v17.2 < (v4.length : Int))))
   (Bk (fun (v20 : (List Int)) =>
    E3 N v4 v11 j17 n17 (v20, (wI .i64 (v17.2 + 1))))
   fun j20 =>
   (A5 v4 v17.2).bind fun v21 =>
   (GZ (0 ≤ v17.2)).bind fun _ =>
   AI (((Ax .i64 ((AL .i64 v11.2 v17.2)) 1) == 1))
    ((A5 v17.1 v21).bind fun _ =>
    j20 (v17.1.set ((v21).toNat) ((-1))))
    (j20 v17.1))
   (j17 v17.1)
def E1 (N : Nat) (p1 : Ao) (v4 : (List Int)) (j11 : ((List Ao)) → Option ((List Ao) × Int)) : Nat → ((List Ao) × Int) → Option ((List Ao) × Int)
 | 0, _ => none
 | n11 + 1, v11 =>
  AI ((decide (v11.2 < (DJ .i64 1 ((v4.length : Int))))))
   ((BM N p1.fe).bind fun v14 =>
   (BM N p1.fc).bind fun v15 =>
   (Cc N p1.ff).bind fun v16 =>
   E3 N v4 v11 (fun (v18 : (List Int)) =>
    (GZ (v11.1.length + (([(Ao.mk v14 v18 v16)] : List Ao)).length ≤ HH)).bind fun _ =>
    E1 N p1 v4 j11 n11 (v11.1 ++ (([(Ao.mk v14 v18 v16)] : List Ao)), (wI .i64 (v11.2 + 1)))) N (v15, 0))
   (j11 v11.1)
def H6 (N : Nat) (p0 : Ae) (p1 : Ao) : Option ((List Ao) × Int) :=
 (Fj N p0 p1).bind fun v1 =>
 AI ((v1 != 0))
  (some (([] : List Ao), v1))
  (Fq N p1 (fun (v4 : (List Int)) =>
   (GZ (0 ≤ (v4.length : Int))).bind fun _ =>
   E1 N p1 v4 (fun (v12 : (List Ao)) =>
    some (v12, 0)) N (([] : List Ao), 0)) N (([] : List Int), 0))
def D5 (N : Nat) (v1 : (List AH) × Int) (v4 : Aw) (v6 : Int) (v11 : (List AH) × Int) (v17 : List Bool) (j18 : ((List AH) × Bool) → Option ((List AH))) : Nat → ((List AH) × Bool × Int) → Option ((List AH))
 | 0, _ => none
 | n18 + 1, v18 =>
  AI ((decide (v18.2.2 < (v17.length : Int))))
   (Bk (fun (v21 : (List AH) × Bool) =>
    D5 N v1 v4 v6 v11 v17 j18 n18 (v21.1, v21.2, (wI .i64 (v18.2.2 + 1))))
   fun j21 =>
   (A5 v17 v18.2.2).bind fun v22 =>
   (GZ (0 ≤ v18.2.2)).bind fun _ =>
   AI (((Ax .u8 ((AL .u8 v6 v18.2.2)) 1) == 0))
    (j21 (v18.1, v18.2.1))
    (Bk (fun (v25 : Bool) =>
     Bk (fun (v27 : Bool) =>
      AI v27
       ((GZ (v18.1.length + (([(AH.mk v1.2 v11.2 v18.2.2)] : List AH)).length ≤ HH)).bind fun _ =>
       j21 (v18.1 ++ (([(AH.mk v1.2 v11.2 v18.2.2)] : List AH)), v25))
       (j21 (v18.1, v25)))
     fun j27 =>
     AI ((!v22))
      (j27 (!v4.fq))
      (j27 false))
    fun j25 =>
    AI v18.2.1
     (j25 true)
     (j25 v22)))
   (j18 (v18.1, v18.2.1))
def D6 (N : Nat) (v1 : (List AH) × Int) (v4 : Aw) (v6 : Int) (v7 : Int) (j11 : ((List AH)) → Option ((List AH))) : Nat → ((List AH) × Int) → Option ((List AH))
 | 0, _ => none
 | n11 + 1, v11 =>
  AI ((decide (v11.2 < (v4.fi.length : Int))))
   (Bk (fun (v14 : (List AH)) =>
    D6 N v1 v4 v6 v7 j11 n11 (v14, (wI .i64 (v11.2 + 1))))
   fun j14 =>
   (GZ (0 ≤ v11.2)).bind fun _ =>
   AI (((Ax .u8 ((AL .u8 v7 v11.2)) 1) == 0))
    (j14 v11.1)
    ((A5 v4.fi v11.2).bind fun v17 =>
    D5 N v1 v4 v6 v11 v17 (fun (v19 : (List AH) × Bool) =>
     Bk (fun (v31 : Bool) =>
      AI v31
       ((GZ (v19.1.length + (([(AH.mk v1.2 v11.2 ((-1)))] : List AH)).length ≤ HH)).bind fun _ =>
       j14 (v19.1 ++ (([(AH.mk v1.2 v11.2 ((-1)))] : List AH))))
       (j14 v19.1))
     fun j31 =>
     AI v4.fq
      (j31 (!v19.2))
      (j31 false)) N (v11.1, false, 0)))
   (j11 v11.1)
def Er (N : Nat) (p0 : Ae) (p1 : Ao) (j1 : ((List AH)) → Option ((List AH))) : Nat → ((List AH) × Int) → Option ((List AH))
 | 0, _ => none
 | n1 + 1, v1 =>
  AI ((decide (v1.2 < (p0.fb.length : Int))))
   ((A5 p0.fb v1.2).bind fun v4 =>
   (Ff N p1 v4.fg).bind fun v5 =>
   (Ff N p1 v4.fj).bind fun v6 =>
   Bk (fun (v7 : Int) =>
    D6 N v1 v4 v6 v7 (fun (v12 : (List AH)) =>
     Er N p0 p1 j1 n1 (v12, (wI .i64 (v1.2 + 1)))) N (v1.1, 0))
   fun j7 =>
   (FM N v4).bind fun v8 =>
   AI v8
    ((A5 p1.ff v1.2).bind fun v10 =>
    j7 v10)
    (j7 v5))
   (j1 v1.1)
def GU (N : Nat) (p0 : Ae) (p1 : Ao) : Option ((List AH)) :=
 Er N p0 p1 (fun (v2 : (List AH)) =>
  some v2) N (([] : List AH), 0)
def FO (N : Nat) (p0 : Ae) (v1 : (List Ao) × Int) (j3 : Unit → Option (Ao × AH × Int)) : Nat → Int → Option (Ao × AH × Int)
 | 0, _ => none
 | n3 + 1, v3 =>
  AI ((decide (v3 < (v1.1.length : Int))))
   ((A5 v1.1 v3).bind fun v6 =>
   (GU N p0 v6).bind fun v7 =>
   AI ((decide (0 < (v7.length : Int))))
    ((A5 v7 0).bind fun v9 =>
    some (v6, v9, 0))
    (FO N p0 v1 j3 n3 (wI .i64 (v3 + 1))))
   (j3 ())
def IA (N : Nat) (p0 : Ae) (p1 : Ao) : Option (Ao × AH × Int) :=
 (H6 N p0 p1).bind fun v1 =>
 AI ((v1.2 != 0))
  (some ((Ao.mk (([] : List Int)) (([] : List Int)) (([] : List Int))), (AH.mk 0 0 0), v1.2))
  (FO N p0 v1 (fun (_ : Unit) =>
   some ((Ao.mk (([] : List Int)) (([] : List Int)) (([] : List Int))), (AH.mk 0 0 0), 15)) N 0)
def Ei (N : Nat) (p0 : Ae) (p1 : Ao) : Option (Bool × Int) :=
 (IA N p0 p1).bind fun v1 =>
 AI ((v1.2.2 == 0))
  (some (false, 0))
  (AI ((v1.2.2 == 15))
   (some (true, 0))
   (some (false, v1.2.2)))
def GB (N : Nat) (p0 : Ao) (j2 : ((List Int)) → Option ByteArray) : Nat → ((List Int) × Int) → Option ByteArray
 | 0, _ => none
 | n2 + 1, v2 =>
  AI ((decide (v2.2 < (p0.fe.length : Int))))
   ((A5 p0.fe v2.2).bind fun v5 =>
   (A5 p0.fc v2.2).bind fun v6 =>
   (GZ (v2.1.length + (([(wI .u8 v5), (wI .u8 ((wI .i64 (v6 + 1))))] : List Int)).length ≤ HH)).bind fun _ =>
   GB N p0 j2 n2 (v2.1 ++ (([(wI .u8 v5), (wI .u8 ((wI .i64 (v6 + 1))))] : List Int)), (wI .i64 (v2.2 + 1))))
   (j2 v2.1)
def Gt (N : Nat) (p0 : Ao) (j8 : ((List Int)) → Option ByteArray) : Nat → ((List Int) × Int) → Option ByteArray
 | 0, _ => none
 | n8 + 1, v8 =>
  AI ((decide (v8.2 < (p0.ff.length : Int))))
   ((A5 p0.ff v8.2).bind fun v11 =>
   (GZ (v8.1.length + (([v11] : List Int)).length ≤ HH)).bind fun _ =>
   Gt N p0 j8 n8 (v8.1 ++ (([v11] : List Int)), (wI .i64 (v8.2 + 1))))
   (j8 v8.1)
def HT (N : Nat) (p0 : Ao) : Option ByteArray :=
 (GZ ((0 : Int) ≤ 0 ∧ 0 ≤ (wI .i64 ((wI .i64 (2 * (p0.fe.length : Int))) + (p0.ff.length : Int))) ∧ (wI .i64 ((wI .i64 (2 * (p0.fe.length : Int))) + (p0.ff.length : Int))) ≤ (HH : Int))).bind fun _ =>
 GB N p0 (fun (v3 : (List Int)) =>
  Gt N p0 (fun (v9 : (List Int)) =>
   some ((HQ v9))) N (v3, 0)) N (zA6 (0 : Int).toNat ((0 : Int)), 0)
def Gy (N : Nat) (v1 : (List Am) × Int) (v4 : Int) (j5 : ((List Am)) → Option ((List Am))) : Nat → ((List Am) × Int) → Option ((List Am))
 | 0, _ => none
 | n5 + 1, v5 =>
  AI ((decide (v5.2 < v4)))
   ((GZ (v5.1.length + (([(Am.mk 1 v1.2 v5.2)] : List Am)).length ≤ HH)).bind fun _ =>
   Gy N v1 v4 j5 n5 (v5.1 ++ (([(Am.mk 1 v1.2 v5.2)] : List Am)), (wI .i64 (v5.2 + 1))))
   (j5 v5.1)
def GA (N : Nat) (p0 : Ae) (j1 : ((List Am)) → Option ((List Am))) : Nat → ((List Am) × Int) → Option ((List Am))
 | 0, _ => none
 | n1 + 1, v1 =>
  AI ((decide (v1.2 < (p0.fa.length : Int))))
   ((A5 p0.fa v1.2).bind fun v4 =>
   Gy N v1 v4 (fun (v6 : (List Am)) =>
    GA N p0 j1 n1 (v6, (wI .i64 (v1.2 + 1)))) N (v1.1, 0))
   (j1 v1.1)
def Gn (N : Nat) (p0 : Ae) (j9 : ((List Am)) → Option ((List Am))) : Nat → ((List Am) × Int) → Option ((List Am))
 | 0, _ => none
 | n9 + 1, v9 =>
  AI ((decide (v9.2 < (p0.fa.length : Int))))
   ((GZ (v9.1.length + (([(Am.mk 2 v9.2 0)] : List Am)).length ≤ HH)).bind fun _ =>
   Gn N p0 j9 n9 (v9.1 ++ (([(Am.mk 2 v9.2 0)] : List Am)), (wI .i64 (v9.2 + 1))))
   (j9 v9.1)
def FQ (N : Nat) (p0 : Ae) (j13 : ((List Am)) → Option ((List Am))) : Nat → ((List Am) × Int) → Option ((List Am))
 | 0, _ => none
 | n13 + 1, v13 =>
  AI ((decide (v13.2 < (p0.fb.length : Int))))
   ((GZ (v13.1.length + (([(Am.mk 3 v13.2 0)] : List Am)).length ≤ HH)).bind fun _ =>
   FQ N p0 j13 n13 (v13.1 ++ (([(Am.mk 3 v13.2 0)] : List Am)), (wI .i64 (v13.2 + 1))))
   (j13 v13.1)
def I7 (N : Nat) (p0 : Ae) : Option ((List Am)) :=
 GA N p0 (fun (v2 : (List Am)) =>
  Gn N p0 (fun (v10 : (List Am)) =>
   FQ N p0 (fun (v14 : (List Am)) =>
    some v14) N (v10, 0)) N (v2, 0)) N (([] : List Am), 0)
def Hy (N : Nat) (p0 : Ao) : Option Ao :=
 (BM N p0.fe).bind fun v1 =>
 (BM N p0.fc).bind fun v2 =>
 (Cc N p0.ff).bind fun v3 =>
 some ((Ao.mk v1 v2 v3))
def Gv (_ : Nat) (p0 : Aw) : Option Bool :=
 Bk (fun (v1 : Bool) =>
  some v1)
 fun j1 =>
 AI ((p0.fd == 3))
  (j1 true)
  (j1 (p0.fd == 4))
def Fs (N : Nat) (p0 : Ae) (p2 : Am) (j7 : ((List Int)) → Option (Bool × (List Int) × (List Int))) : Nat → ((List Int) × Int) → Option (Bool × (List Int) × (List Int))
 | 0, _ => none
 | n7 + 1, v7 =>
  AI ((decide (v7.2 < (p0.fb.length : Int))))
   (Bk (fun (v10 : (List Int)) =>
    Fs N p0 p2 j7 n7 (v10, (wI .i64 (v7.2 + 1))))
   fun j10 =>
   (A5 p0.fb v7.2).bind fun v11 =>
   Bk (fun (v12 : Bool) =>
    AI v12
     ((A5 v7.1 v7.2).bind fun v16 =>
     (GZ (0 ≤ p2.fr)).bind fun _ =>
     (A5 v7.1 v7.2).bind fun _ =>
     j10 (v7.1.set ((v7.2).toNat) ((Qw .u8 v16 ((DJ .u8 1 p2.fr))))))
     (j10 v7.1))
   fun j12 =>
   AI ((v11.fg == p2.fm))
    ((Gv N v11).bind fun v14 =>
    j12 v14)
    (j12 false))
   (j7 v7.1)
def Ic (N : Nat) (p0 : Ae) (p1 : Ao) (p2 : Am) : Option (Bool × (List Int) × (List Int)) :=
 Bk (fun (v1 : Bool) =>
  AI v1
   (some (false, p1.fc, p1.ff))
   ((A5 p1.fc p2.fm).bind fun _ =>
   Fs N p0 p2 (fun (v8 : (List Int)) =>
    some (true, p1.fc.set ((p2.fm).toNat) p2.fr, v8)) N (p1.ff, 0)))
 fun j1 =>
 (A5 p1.fc p2.fm).bind fun v2 =>
 AI ((decide (0 ≤ v2)))
  (j1 true)
  ((A5 p1.fe p2.fm).bind fun v4 =>
  j1 (v4 == p2.fr))
def Hg (_ : Nat) (p0 : Ao) (p1 : Int) : Option Int :=
 (A5 p0.fe p1).bind fun v1 =>
 (GZ (0 ≤ v1)).bind fun _ =>
 Bk (fun (v3 : Int) =>
  some v3)
 fun j3 =>
 (A5 p0.fc p1).bind fun v4 =>
 AI ((decide (0 ≤ v4)))
  ((A5 p0.fc p1).bind fun v6 =>
  (GZ (0 ≤ v6)).bind fun _ =>
  j3 (Qw .u8 ((DJ .u8 1 v1)) ((DJ .u8 1 v6))))
  (j3 (DJ .u8 1 v1))
def DA (_ : Nat) (p0 : Int) : Option Int :=
 (L2 ((⟨⟨(zB1 (zB1 [8, 0, 1, 0, 2, 0, 1, 0, 3, 0, 1, 0, 2, 0, 1, 0, 4, 0, 1, 0, 2, 0, 1, 0, 3, 0, 1, 0, 2, 0, 1, 0, 5, 0, 1, 0, 2, 0, 1, 0, 3, 0, 1, 0, 2, 0, 1, 0, 4, 0, 1, 0, 2, 0, 1, 0, 3, 0, 1, 0, 2, 0, 1, 0] [6, 0, 1, 0, 2, 0, 1, 0, 3, 0, 1, 0, 2, 0, 1, 0, 4, 0, 1, 0, 2, 0, 1, 0, 3, 0, 1, 0, 2, 0, 1, 0, 5, 0, 1, 0, 2, 0, 1, 0, 3, 0, 1, 0, 2, 0, 1, 0, 4, 0, 1, 0, 2, 0, 1, 0, 3, 0, 1, 0, 2, 0, 1, 0]) (zB1 [7, 0, 1, 0, 2, 0, 1, 0, 3, 0, 1, 0, 2, 0, 1, 0, 4, 0, 1, 0, 2, 0, 1, 0, 3, 0, 1, 0, 2, 0, 1, 0, 5, 0, 1, 0, 2, 0, 1, 0, 3, 0, 1, 0, 2, 0, 1, 0, 4, 0, 1, 0, 2, 0, 1, 0, 3, 0, 1, 0, 2, 0, 1, 0] [6, 0, 1, 0, 2, 0, 1, 0, 3, 0, 1, 0, 2, 0, 1, 0, 4, 0, 1, 0, 2, 0, 1, 0, 3, 0, 1, 0, 2, 0, 1, 0, 5, 0, 1, 0, 2, 0, 1, 0, 3, 0, 1, 0, 2, 0, 1, 0, 4, 0, 1, 0, 2, 0, 1, 0, 3, 0, 1, 0, 2, 0, 1, 0]))⟩⟩ : ByteArray)) p0).bind fun v1 =>
 some ((wI .i64 v1))
def DP (N : Nat) (p0 : Aw) (p2 : Int) (j1 : Unit → Option Bool) : Nat → Int → Option Bool
 | 0, _ => none
 | n1 + 1, v1 =>
  AI ((v1 != 0))
   ((DA N v1).bind fun v4 =>
   (A5 p0.fh v4).bind fun v5 =>
   (A5 v5 p2).bind fun v6 =>
   AI ((!v6))
    (some false)
    (DP N p0 p2 j1 n1 (Ax .u8 v1 ((wI .u8 (v1 - 1))))))
   (j1 ())
def F7 (N : Nat) (p0 : Aw) (p1 : Int) (p2 : Int) : Option Bool :=
 DP N p0 p2 (fun (_ : Unit) =>
  some true) N p1
def H9 (N : Nat) (p0 : Ae) (p1 : Ao) (p2 : Int) : Option (Bool × (List Int)) :=
 (A5 p0.fb p2).bind fun v1 =>
 (Gv N v1).bind fun v2 =>
 AI ((!v2))
  (some (false, p1.ff))
  ((Hg N p1 v1.fg).bind fun v4 =>
  (A5 p1.ff p2).bind fun v5 =>
  Bk (fun (v6 : Bool) =>
   AI v6
    (some (false, p1.ff))
    ((A5 p1.ff p2).bind fun _ =>
    some (true, p1.ff.set ((p2).toNat) v4)))
  fun j6 =>
  (A5 p1.ff p2).bind fun v7 =>
  AI ((v7 == v4))
   (j6 true)
   (AI ((v1.fd == 4))
    ((A5 p1.fe v1.fg).bind fun v10 =>
    (F7 N v1 ((GV .u8 v5 v4)) v10).bind fun v11 =>
    j6 (!v11))
    (j6 false)))
def G6 (N : Nat) (p0 : Ae) (p1 : Ao) (p2 : Am) : Option (Ao × Bool) :=
 (Hy N p1).bind fun v1 =>
 AI ((p2.fd == 1))
  ((Ic N p0 v1 p2).bind fun v3 =>
  some ((Ao.mk v1.fe v3.2.1 v3.2.2), v3.1))
  (AI ((p2.fd == 3))
   ((H9 N p0 v1 p2.fm).bind fun v5 =>
   some ((Ao.mk v1.fe v1.fc v5.2), v5.1))
   ((A5 v1.fc p2.fm).bind fun v6 =>
   AI ((decide (v6 < 0)))
    (some (v1, false))
    ((A5 v1.fc p2.fm).bind fun _ =>
    Bk (fun (v9 : (List Int)) =>
     some ((Ao.mk v9 (v1.fc.set ((p2.fm).toNat) ((-1))) v1.ff), true))
    fun j9 =>
    AI ((p2.fd == 2))
     ((A5 v1.fe p2.fm).bind fun _ =>
     j9 (v1.fe.set ((p2.fm).toNat) v6))
     (j9 v1.fe))))
def D2 (N : Nat) (p0 : Am) (p1 : List Int) (p2 : List Int) (p3 : List Int) (p4 : List Aw) (p5 : List Int) (p6 : List Int) (p7 : List Int) : Option Bool :=
 (G6 N ((Ae.mk p1 p2 p3 p4)) ((Ao.mk p5 p6 p7)) p0).bind fun v1 =>
 some ((!v1.2))
def Bu (N : Nat) (p0 : List Am) (p1 : Am → Option Bool) (j1 : Unit → Option Int) : Nat → Int → Option Int
 | 0, _ => none
 | n1 + 1, v1 =>
  AI ((decide (v1 < (p0.length : Int))))
   ((A5 p0 v1).bind fun v4 =>
   (p1 v4).bind fun v5 =>
   AI v5
    (some v1)
    (Bu N p0 p1 j1 n1 (wI .i64 (v1 + 1))))
   (j1 ())
def Cj (N : Nat) (p0 : List Am) (p1 : Am → Option Bool) : Option Int :=
 Bu N p0 p1 (fun (_ : Unit) =>
  some ((-1))) N 0
def Bq (N : Nat) (p1 : Am → Option Bool) (j3 : ((List Am) × Int) → Option (Nat × (List Am))) : Nat → ((List Am) × Int × Int) → Option (Nat × (List Am))
 | 0, _ => none
 | n3 + 1, v3 =>
  AI ((decide (v3.2.2 < (v3.1.length : Int))))
   (Bk (fun (v6 : (List Am) × Int) =>
    Bq N p1 j3 n3 (v6.1, v6.2, (wI .i64 (v3.2.2 + 1))))
   fun j6 =>
   (A5 v3.1 v3.2.2).bind fun v7 =>
   (p1 v7).bind fun v8 =>
   AI ((!v8))
    ((A5 v3.1 v3.2.1).bind fun _ =>
    j6 (v3.1.set ((v3.2.1).toNat) v7, (wI .i64 (v3.2.1 + 1))))
    (j6 (v3.1, v3.2.1)))
   (j3 (v3.1, v3.2.1))
def Cf (N : Nat) (p0 : List Am) (p1 : Am → Option Bool) : Option (Nat × (List Am)) :=
 (Cj N p0 p1).bind fun v1 =>
 AI ((v1 == (-1)))
  (some (p0.length, p0))
  (Bq N p1 (fun (v4 : (List Am) × Int) =>
   (GZ ((0 : Int) ≤ v4.2 ∧ (v4.2).toNat ≤ v4.1.length ∧ v4.1.length ≤ v4.1.length)).bind fun _ =>
   (GZ ((0 : Int) ≤ v4.2 ∧ 0 ≤ (v4.2).toNat ∧ (v4.2).toNat ≤ (Iu v4.1 ((v4.2).toNat) (zA6 ((v4.1.length - (v4.2).toNat)) ((Am.mk 0 0 0)))).length)).bind fun _ =>
   some ((v4.2).toNat, Iu v4.1 ((v4.2).toNat) (zA6 ((v4.1.length - (v4.2).toNat)) ((Am.mk 0 0 0))))) N (p0, v1, (wI .i64 (v1 + 1))))
def FW (N : Nat) (p0 : Ae) (p1 : Ao) : Option ((List Am) × Int) :=
 (Fj N p0 p1).bind fun v1 =>
 AI ((v1 != 0))
  (some (([] : List Am), v1))
  ((I7 N p0).bind fun v3 =>
  (Cf N v3 ((fun (x : Am) => D2 N x p0.fa p0.fk p0.fo p0.fb p1.fe p1.fc p1.ff))).bind fun v4 =>
  (GZ (v4.1 ≤ v4.2.length)).bind fun _ =>
  some (v4.2.take v4.1, 0))
def H2 (_ : Nat) (p0 : Am) : Option Bool :=
 Bk (fun (v1 : Bool) =>
  AI v1
   (some false)
   (Bk (fun (v5 : Bool) =>
    some v5)
   fun j5 =>
   AI ((p0.fd == 1))
    (j5 true)
    (j5 (p0.fr == 0))))
 fun j1 =>
 AI ((decide ((Q2 p0.fm p0.fr) < 0)))
  (j1 true)
  (AI ((decide (p0.fd < 1)))
   (j1 true)
   (j1 (decide (4 < p0.fd))))
def HF (_ : Nat) (p0 : Ae) (p1 : Am) : Option Bool :=
 AI ((p1.fd == 3))
  (some ((decide (p1.fm < (p0.fb.length : Int)))))
  (Bk (fun (v2 : Bool) =>
   some v2)
  fun j2 =>
  AI ((decide (p1.fm < (p0.fa.length : Int))))
   (AI ((p1.fd != 1))
    (j2 true)
    ((A5 p0.fa p1.fm).bind fun v5 =>
    j2 (decide (p1.fr < v5))))
   (j2 false))
def H7 (N : Nat) (p0 : Ae) (p1 : Ao) (p2 : Am) : Option (Ao × Int) :=
 (H2 N p2).bind fun v1 =>
 AI ((!v1))
  (some ((Ao.mk (([] : List Int)) (([] : List Int)) (([] : List Int))), 1))
  ((HF N p0 p2).bind fun v3 =>
  AI ((!v3))
   (some ((Ao.mk (([] : List Int)) (([] : List Int)) (([] : List Int))), 4))
   ((G6 N p0 p1 p2).bind fun v5 =>
   AI ((!v5.2))
    (some ((Ao.mk (([] : List Int)) (([] : List Int)) (([] : List Int))), 11))
    (some (v5.1, 0))))
def G1 (N : Nat) (p0 : Ae) (p1 : Ao) (p2 : Am) : Option (Ao × Int) :=
 (Fj N p0 p1).bind fun v1 =>
 AI ((v1 != 0))
  (some ((Ao.mk (([] : List Int)) (([] : List Int)) (([] : List Int))), v1))
  ((H7 N p0 p1 p2).bind fun v3 =>
  some (v3.1, v3.2))
def EZ (N : Nat) (p0 : Ae) (v2 : (List AM) × (List (ByteArray × Int)) × Int) (v6 : (List Am) × Int) (j8 : ((List AM) × (List (ByteArray × Int))) → Option ((List AM) × Int)) : Nat → ((List AM) × (List (ByteArray × Int)) × Int) → Option ((List AM) × Int)
 | 0, _ => none
 | n8 + 1, v8 =>
  AI ((decide (v8.2.2 < (v6.1.length : Int))))
   ((A5 v6.1 v8.2.2).bind fun v11 =>
   (A5 v8.1 v2.2.2).bind fun v12 =>
   (G1 N p0 ((Ao.mk v12.fp.fe v12.fp.fc v12.fp.ff)) v11).bind fun v13 =>
   AI ((v13.2 != 0))
    (some (([] : List AM), v13.2))
    ((HT N v13.1).bind fun v15 =>
    Bk (fun (v16 : (List AM) × (List (ByteArray × Int)) × Int) =>
     Bk (fun (v24 : (List AM)) =>
      AI ((decide (20000 < (v24.length : Int))))
       (some (([] : List AM), 3))
       (EZ N p0 v2 v6 j8 n8 (v24, v16.2.1, (wI .i64 (v8.2.2 + 1)))))
     fun j24 =>
     AI ((decide (0 ≤ v16.2.2)))
      ((A5 v16.1 v2.2.2).bind fun v26 =>
      (GZ (v26.fc.length + (([v16.2.2] : List Int)).length ≤ HH)).bind fun _ =>
      (A5 v16.1 v2.2.2).bind fun v28 =>
      j24 (v16.1.set ((v2.2.2).toNat) ((AM.mk ((Ao.mk v28.fp.fe v28.fp.fc v28.fp.ff)) v28.fg ((Am.mk v28.ft.fd v28.ft.fm v28.ft.fr)) (v26.fc ++ (([v16.2.2] : List Int)))))))
      (j24 v16.1))
    fun j16 =>
    AI ((!((Hh v15 v8.2.1).isSome)))
     (Bk (fun (v18 : (List AM) × Int) =>
      j16 (v18.1, J6 v15 v18.2 v8.2.1, v18.2))
     fun j18 =>
     (Ei N p0 v13.1).bind fun v19 =>
     Bk (fun (v20 : Bool) =>
      AI v20
       (j18 (v8.1, (-1)))
       ((GZ (v8.1.length + (([(AM.mk v13.1 v2.2.2 v11 (([] : List Int)))] : List AM)).length ≤ HH)).bind fun _ =>
       j18 (v8.1 ++ (([(AM.mk v13.1 v2.2.2 v11 (([] : List Int)))] : List AM)), (v8.1.length : Int))))
     fun j20 =>
     AI ((v19.2 != 0))
      (j20 true)
      (j20 (!v19.1)))
     (j16 (v8.1, v8.2.1, ((Hh v15 v8.2.1).getD 0)))))
   (j8 (v8.1, v8.2.1))
def E0 (N : Nat) (p0 : Ae) (j2 : ((List AM)) → Option ((List AM) × Int)) : Nat → ((List AM) × (List (ByteArray × Int)) × Int) → Option ((List AM) × Int)
 | 0, _ => none
 | n2 + 1, v2 =>
  AI ((decide (v2.2.2 < (v2.1.length : Int))))
   ((A5 v2.1 v2.2.2).bind fun v5 =>
   (FW N p0 ((Ao.mk v5.fp.fe v5.fp.fc v5.fp.ff))).bind fun v6 =>
   AI ((v6.2 != 0))
    (some (([] : List AM), v6.2))
    (EZ N p0 v2 v6 (fun (v9 : (List AM) × (List (ByteArray × Int))) =>
     E0 N p0 j2 n2 (v9.1, v9.2, (wI .i64 (v2.2.2 + 1)))) N (v2.1, v2.2.1, 0)))
   (j2 v2.1)
def HL (N : Nat) (p0 : Ae) (p1 : Ao) : Option ((List AM) × Int) :=
 (HT N p1).bind fun v1 =>
 E0 N p0 (fun (v3 : (List AM)) =>
  some (v3, 0)) N (([(AM.mk p1 ((-1)) ((Am.mk 0 0 0)) (([] : List Int)))] : List AM), J6 v1 0 (([] : List (ByteArray × Int))), 0)
def CW (N : Nat) (p0 : List Int) (p1 : List Int) (j2 : Unit → Option Bool) : Nat → Int → Option Bool
 | 0, _ => none
 | n2 + 1, v2 =>
  AI ((decide (v2 < (p0.length : Int))))
   ((A5 p0 v2).bind fun v5 =>
   (A5 p1 v2).bind fun v6 =>
   AI ((v5 != v6))
    (some false)
    (CW N p0 p1 j2 n2 (wI .i64 (v2 + 1))))
   (j2 ())
def Ex (N : Nat) (p0 : List Int) (p1 : List Int) : Option Bool :=
 AI (((p0.length : Int) != (p1.length : Int)))
  (some false)
  (CW N p0 p1 (fun (_ : Unit) =>
   some true) N 0)
def Ck (N : Nat) (p0 : List Int) (p1 : Int → Option Bool) (j1 : Unit → Option Int) : Nat → Int → Option Int
 | 0, _ => none
 | n1 + 1, v1 =>
  AI ((decide (v1 < (p0.length : Int))))
   ((A5 p0 v1).bind fun v4 =>
   (p1 v4).bind fun v5 =>
   AI v5
    (some v1)
    (Ck N p0 p1 j1 n1 (wI .i64 (v1 + 1))))
   (j1 ())
def Dx (N : Nat) (p0 : List Int) (p1 : Int → Option Bool) : Option Int :=
 Ck N p0 p1 (fun (_ : Unit) =>
  some ((-1))) N 0
def Dc (N : Nat) (p0 : List Int) (p1 : Int → Option Bool) : Option Bool :=
 (Dx N p0 p1).bind fun v1 =>
 some ((decide (0 ≤ v1)))
def GX (_ : Nat) (p0 : Int) : Option Bool :=
 some ((decide (0 ≤ p0)))
def H1 (N : Nat) (p0 : Ae) (p1 : Ao) : Option Bool :=
 Bk (fun (v1 : Bool) =>
  some v1)
 fun j1 =>
 (Fj N p0 p1).bind fun v2 =>
 AI ((v2 == 0))
  ((Ex N p1.fe p0.fo).bind fun v4 =>
  AI v4
   ((Dc N p1.fc ((fun (x : Int) => GX N x))).bind fun v6 =>
   j1 (!v6))
   (j1 false))
  (j1 false)
def E6 (N : Nat) (p0 : AM) (p1 : List Int) (p2 : List Int) (p3 : List Int) (p4 : List Aw) : Option Bool :=
 (H1 N ((Ae.mk p1 p2 p3 p4)) ((Ao.mk p0.fp.fe p0.fp.fc p0.fp.ff))).bind fun v1 =>
 some v1
def Bn (N : Nat) (p0 : List AM) (p1 : AM → Option Bool) (j1 : Unit → Option Int) : Nat → Int → Option Int
 | 0, _ => none
 | n1 + 1, v1 =>
  AI ((decide (v1 < (p0.length : Int))))
   ((A5 p0 v1).bind fun v4 =>
   (p1 ((AM.mk ((Ao.mk v4.fp.fe v4.fp.fc v4.fp.ff)) v4.fg ((Am.mk v4.ft.fd v4.ft.fm v4.ft.fr)) v4.fc))).bind fun v5 =>
   AI v5
    (some v1)
    (Bn N p0 p1 j1 n1 (wI .i64 (v1 + 1))))
   (j1 ())
def B9 (N : Nat) (p0 : List AM) (p1 : AM → Option Bool) : Option Int :=
 Bn N p0 p1 (fun (_ : Unit) =>
  some ((-1))) N 0
def BD (N : Nat) (j1 : ((List Am)) → Option ((List Am))) : Nat → ((List Am) × Int × Int) → Option ((List Am))
 | 0, _ => none
 | n1 + 1, v1 =>
  AI ((decide (v1.2.1 < v1.2.2)))
   ((A5 v1.1 v1.2.2).bind fun v4 =>
   (A5 v1.1 v1.2.1).bind fun v5 =>
   (A5 v1.1 v1.2.1).bind fun _ =>
   (A5 (v1.1.set ((v1.2.1).toNat) v4) v1.2.2).bind fun _ =>
   BD N j1 n1 ((v1.1.set ((v1.2.1).toNat) v4).set ((v1.2.2).toNat) v5, (wI .i64 (v1.2.1 + 1)), (wI .i64 (v1.2.2 - 1))))
   (j1 v1.1)
def Cy (N : Nat) (p0 : List Am) : Option ((List Am)) :=
 BD N (fun (v2 : (List Am)) =>
  some v2) N (p0, 0, (wI .i64 ((p0.length : Int) - 1)))
def Gq (N : Nat) (p0 : List AM) (j1 : ((List Am)) → Option ((List Am))) : Nat → (Int × (List Am)) → Option ((List Am))
 | 0, _ => none
 | n1 + 1, v1 =>
  (A5 p0 v1.1).bind fun v3 =>
  AI ((decide (0 ≤ v3.fg)))
   ((A5 p0 v1.1).bind fun v5 =>
   (GZ (v1.2.length + (([(Am.mk v5.ft.fd v5.ft.fm v5.ft.fr)] : List Am)).length ≤ HH)).bind fun _ =>
   (A5 p0 v1.1).bind fun v7 =>
   Gq N p0 j1 n1 (v7.fg, v1.2 ++ (([(Am.mk v5.ft.fd v5.ft.fm v5.ft.fr)] : List Am))))
   (j1 v1.2)
def Jv (N : Nat) (p0 : List AM) (p1 : Int) : Option ((List Am)) :=
 Gq N p0 (fun (v2 : (List Am)) =>
  (Cy N v2).bind fun v8 =>
  some v8) N (p1, ([] : List Am))
def Ix (N : Nat) (p0 : Ae) (p1 : Ao) : Option ((List Am) × Int) :=
 (Ei N p0 p1).bind fun v1 =>
 AI ((v1.2 != 0))
  (some (([] : List Am), v1.2))
  (AI ((!v1.1))
   (some (([] : List Am), 13))
   ((HL N p0 p1).bind fun v4 =>
   AI ((v4.2 != 0))
    (some (([] : List Am), v4.2))
    ((B9 N v4.1 ((fun (x : AM) => E6 N x p0.fa p0.fk p0.fo p0.fb))).bind fun v6 =>
    AI ((decide (v6 < 0)))
     (some (([] : List Am), 14))
     ((Jv N v4.1 v6).bind fun v8 =>
     some (v8, 0)))))
def Iw (N : Nat) (p0 : Ae) : Option ((List Am) × Int) :=
 (Hp N p0).bind fun v1 =>
 AI ((v1.2 != 0))
  (some (([] : List Am), v1.2))
  ((Ix N p0 v1.1).bind fun v3 =>
  some (v3.1, v3.2))
def DI (N : Nat) (p0 : Ae) (p1 : List Int) : Option (Bool × Int) :=
 (Bs N p0).bind fun v1 =>
 AI ((v1 != 0))
  (some (false, v1))
  ((Do N p0 p1).bind fun v3 =>
  AI ((v3.2 != 0))
   (some (false, v3.2))
   ((Iw N v3.1).bind fun v5 =>
   AI ((v5.2 == 0))
    (some (false, 0))
    (AI ((v5.2 == 3))
     (some (false, v5.2))
     (some (true, 0)))))
def Hx (N : Nat) (p0 : Ae) (p1 : Int) : Option (Bool × Int) :=
 (Dt N p1).bind fun v1 =>
 (DI N p0 v1).bind fun v2 =>
 some (v2.1, v2.2)
def Fp (N : Nat) (p0 : Ae) (j4 : ((List Int)) → Option ((List Int) × (List (Int × Bool)) × Int)) : Nat → ((List Int) × Int) → Option ((List Int) × (List (Int × Bool)) × Int)
 | 0, _ => none
 | n4 + 1, v4 =>
  AI ((decide (v4.2 < (DJ .u64 1 ((p0.fa.length : Int))))))
   ((GZ (v4.1.length + (([v4.2] : List Int)).length ≤ HH)).bind fun _ =>
   Fp N p0 j4 n4 (v4.1 ++ (([v4.2] : List Int)), (wI .u64 (v4.2 + 1))))
   (j4 v4.1)
def Fr (N : Nat) (p0 : Ae) (v8 : (List Int)) (j9 : ((List (Int × Bool))) → Option ((List Int) × (List (Int × Bool)) × Int)) : Nat → ((List (Int × Bool)) × Int) → Option ((List Int) × (List (Int × Bool)) × Int)
 | 0, _ => none
 | n9 + 1, v9 =>
  AI ((decide (v9.2 < (v8.length : Int))))
   ((A5 v8 v9.2).bind fun v12 =>
   (Hx N p0 v12).bind fun v13 =>
   AI ((v13.2 != 0))
    (some (([] : List Int), ([] : List (Int × Bool)), v13.2))
    (Fr N p0 v8 j9 n9 (J6 v12 v13.1 v9.1, (wI .i64 (v9.2 + 1)))))
   (j9 v9.1)
def Eb (N : Nat) (p0 : Ae) : Option ((List Int) × (List (Int × Bool)) × Int) :=
 (Bs N p0).bind fun v1 =>
 AI ((v1 != 0))
  (some (([] : List Int), ([] : List (Int × Bool)), v1))
  ((GZ (0 ≤ (p0.fa.length : Int))).bind fun _ =>
  Fp N p0 (fun (v5 : (List Int)) =>
   (Dr N v5 ((fun (x : Int × Int) => FN N x.1 x.2))).bind fun v8 =>
   Fr N p0 v8 (fun (v10 : (List (Int × Bool))) =>
    some (v8, v10, 0)) N (([] : List (Int × Bool)), 0)) N (([] : List Int), 0))
def D1 (_ : Nat) (p0 : Int) (p1 : Int) : Option Bool :=
 some (((GV .u64 p0 p1) == 0))
def B5 (N : Nat) (p0 : List Int) (p1 : Int → Option Bool) (j1 : Unit → Option Int) : Nat → Int → Option Int
 | 0, _ => none
 | n1 + 1, v1 =>
  AI ((decide (v1 < (p0.length : Int))))
   ((A5 p0 v1).bind fun v4 =>
   (p1 v4).bind fun v5 =>
   AI v5
    (some v1)
    (B5 N p0 p1 j1 n1 (wI .i64 (v1 + 1))))
   (j1 ())
def Ct (N : Nat) (p0 : List Int) (p1 : Int → Option Bool) : Option Int :=
 B5 N p0 p1 (fun (_ : Unit) =>
  some ((-1))) N 0
def B6 (N : Nat) (p0 : List Int) (p1 : Int → Option Bool) : Option Bool :=
 (Ct N p0 p1).bind fun v1 =>
 some ((decide (0 ≤ v1)))
def EK (N : Nat) (p0 : List Int) (p1 : List (Int × Bool)) (j1 : ((List Int)) → Option ((List Int))) : Nat → ((List Int) × Int) → Option ((List Int))
 | 0, _ => none
 | n1 + 1, v1 =>
  AI ((decide (v1.2 < (p0.length : Int))))
   (Bk (fun (v4 : (List Int)) =>
    EK N p0 p1 j1 n1 (v4, (wI .i64 (v1.2 + 1))))
   fun j4 =>
   (A5 p0 v1.2).bind fun v5 =>
   Bk (fun (v6 : Bool) =>
    AI v6
     ((GZ (v1.1.length + (([v5] : List Int)).length ≤ HH)).bind fun _ =>
     j4 (v1.1 ++ (([v5] : List Int))))
     (j4 v1.1))
   fun j6 =>
   AI (((Hh v5 p1).getD false))
    ((B6 N v1.1 ((fun (x : Int) => D1 N x v5))).bind fun v8 =>
    j6 (!v8))
    (j6 false))
   (j1 v1.1)
def FV (N : Nat) (p0 : List Int) (p1 : List (Int × Bool)) : Option ((List Int)) :=
 EK N p0 p1 (fun (v2 : (List Int)) =>
  some v2) N (([] : List Int), 0)
def Fi (N : Nat) (p0 : List Int) (j1 : ((List (List Int))) → Option ((List (List Int)))) : Nat → ((List (List Int)) × Int) → Option ((List (List Int)))
 | 0, _ => none
 | n1 + 1, v1 =>
  AI ((decide (v1.2 < (p0.length : Int))))
   ((A5 p0 v1.2).bind fun v4 =>
   (Dt N v4).bind fun v5 =>
   (GZ (v1.1.length + (([v5] : List (List Int))).length ≤ HH)).bind fun _ =>
   Fi N p0 j1 n1 (v1.1 ++ (([v5] : List (List Int))), (wI .i64 (v1.2 + 1))))
   (j1 v1.1)
def G5 (N : Nat) (p0 : List Int) : Option ((List (List Int))) :=
 Fi N p0 (fun (v2 : (List (List Int))) =>
  some v2) N (([] : List (List Int)), 0)
def Fc (N : Nat) (p0 : Ae) : Option ((List (List Int)) × Int) :=
 (Eb N p0).bind fun v1 =>
 AI ((v1.2.2 != 0))
  (some (([] : List (List Int)), v1.2.2))
  ((FV N v1.1 v1.2.1).bind fun v3 =>
  (G5 N v3).bind fun v4 =>
  some (v4, 0))
def DX (_ : Nat) (p0 : List Int) : Option ((List Int)) :=
 (GZ ((([] : List Int)).length + p0.length ≤ HH)).bind fun _ =>
 some ((([] : List Int)) ++ p0)
def Ez (_ : Nat) (p0 : Int) (p1 : List (Int × Bool)) (p2 : Int) : Option Bool :=
 Bk (fun (v1 : Bool) =>
  some v1)
 fun j1 =>
 AI ((!(((Hh p0 p1).getD false))))
  (AI ((p0 != p2))
   (j1 ((GV .u64 p2 p0) == 0))
   (j1 false))
  (j1 false)
def Fh (N : Nat) (p0 : Int) (p1 : List (Int × Bool)) (p2 : List Int) : Option Bool :=
 Bk (fun (v1 : Bool) =>
  some v1)
 fun j1 =>
 AI (((Hh p0 p1).getD false))
  (j1 true)
  ((B6 N p2 ((fun (x : Int) => Ez N x p1 p0))).bind fun v3 =>
  j1 v3)
def B1 (N : Nat) (p1 : Int → Option Bool) (j3 : ((List Int) × Int) → Option (Nat × (List Int))) : Nat → ((List Int) × Int × Int) → Option (Nat × (List Int))
 | 0, _ => none
 | n3 + 1, v3 =>
  AI ((decide (v3.2.2 < (v3.1.length : Int))))
   (Bk (fun (v6 : (List Int) × Int) =>
    B1 N p1 j3 n3 (v6.1, v6.2, (wI .i64 (v3.2.2 + 1))))
   fun j6 =>
   (A5 v3.1 v3.2.2).bind fun v7 =>
   (p1 v7).bind fun v8 =>
   AI ((!v8))
    ((A5 v3.1 v3.2.1).bind fun _ =>
    j6 (v3.1.set ((v3.2.1).toNat) v7, (wI .i64 (v3.2.1 + 1))))
    (j6 (v3.1, v3.2.1)))
   (j3 (v3.1, v3.2.1))
def Db (N : Nat) (p0 : List Int) (p1 : Int → Option Bool) : Option (Nat × (List Int)) :=
 (Ct N p0 p1).bind fun v1 =>
 AI ((v1 == (-1)))
  (some (p0.length, p0))
  (B1 N p1 (fun (v4 : (List Int) × Int) =>
   (GZ ((0 : Int) ≤ v4.2 ∧ (v4.2).toNat ≤ v4.1.length ∧ v4.1.length ≤ v4.1.length)).bind fun _ =>
   (GZ ((0 : Int) ≤ v4.2 ∧ 0 ≤ (v4.2).toNat ∧ (v4.2).toNat ≤ (Iu v4.1 ((v4.2).toNat) (zA6 ((v4.1.length - (v4.2).toNat)) ((0 : Int)))).length)).bind fun _ =>
   some ((v4.2).toNat, Iu v4.1 ((v4.2).toNat) (zA6 ((v4.1.length - (v4.2).toNat)) ((0 : Int))))) N (p0, v1, (wI .i64 (v1 + 1))))
def Fl (N : Nat) (p0 : Ae) : Option ((List (List Int)) × Int) :=
 (Eb N p0).bind fun v1 =>
 AI ((v1.2.2 != 0))
  (some (([] : List (List Int)), v1.2.2))
  ((DX N v1.1).bind fun v3 =>
  (Db N v3 ((fun (x : Int) => Fh N x v1.2.1 v1.1))).bind fun v4 =>
  (GZ (v4.1 ≤ v4.2.length)).bind fun _ =>
  (G5 N (v4.2.take v4.1)).bind fun v7 =>
  some (v7, 0))
def Dw (N : Nat) (p0 : List Int) (p1 : List Int) (j2 : Unit → Option Bool) : Nat → Int → Option Bool
 | 0, _ => none
 | n2 + 1, v2 =>
  AI ((decide (v2 < (p0.length : Int))))
   ((A5 p0 v2).bind fun v5 =>
   (A5 p1 v2).bind fun v6 =>
   AI ((v5 != v6))
    (some false)
    (Dw N p0 p1 j2 n2 (wI .i64 (v2 + 1))))
   (j2 ())
def FA (N : Nat) (p0 : List Int) (p1 : List Int) : Option Bool :=
 AI (((p0.length : Int) != (p1.length : Int)))
  (some false)
  (Dw N p0 p1 (fun (_ : Unit) =>
   some true) N 0)
def Dm (N : Nat) (p0 : List (List Int)) (p1 : List (List Int)) (j2 : Unit → Option Bool) : Nat → Int → Option Bool
 | 0, _ => none
 | n2 + 1, v2 =>
  AI ((decide (v2 < (p0.length : Int))))
   ((A5 p0 v2).bind fun v5 =>
   (A5 p1 v2).bind fun v6 =>
   (FA N v5 v6).bind fun v7 =>
   AI ((!v7))
    (some false)
    (Dm N p0 p1 j2 n2 (wI .i64 (v2 + 1))))
   (j2 ())
def D4 (N : Nat) (p0 : List (List Int)) (p1 : List (List Int)) : Option Bool :=
 AI (((p0.length : Int) != (p1.length : Int)))
  (some false)
  (Dm N p0 p1 (fun (_ : Unit) =>
   some true) N 0)
def Dl (N : Nat) (j1 : Unit → Option Bool) : Nat → Int → Option Bool
 | 0, _ => none
 | n1 + 1, v1 =>
  AI ((decide (v1 < ((([false, true] : List Bool)).length : Int))))
   ((A5 (([false, true] : List Bool)) v1).bind fun v4 =>
   (C1 N v4).bind fun v5 =>
   (Fc N v5).bind fun v6 =>
   (C1 N v4).bind fun v7 =>
   (Fl N v7).bind fun v8 =>
   (C1 N v4).bind fun v9 =>
   (DI N v9 (([0, 2] : List Int))).bind fun v10 =>
   Bk (fun (v11 : Bool) =>
    AI v11
     (some false)
     (Dl N j1 n1 (wI .i64 (v1 + 1))))
   fun j11 =>
   AI ((v6.2 != 0))
    (j11 true)
    (AI ((v8.2 != 0))
     (j11 true)
     (AI ((v10.2 != 0))
      (j11 true)
      (AI v10.1
       (j11 true)
       ((D4 N v6.1 (([([0, 1] : List Int)] : List (List Int)))).bind fun v16 =>
       AI ((!v16))
        (j11 true)
        ((D4 N v8.1 (([([0, 2] : List Int), ([1, 2] : List Int)] : List (List Int)))).bind fun v18 =>
        j11 (!v18)))))))
   (j1 ())
def Df (N : Nat) : Option Bool :=
 Dl N (fun (_ : Unit) =>
  some true) N 0
def BB (N : Nat) (p0 : Ae) (v6 : Int) (j14 : Unit → Option Bool) : Nat → Int → Option Bool
 | 0, _ => none
 | n14 + 1, v14 =>
  (A5 p0.fb v6).bind fun v16 =>
  AI ((decide (v14 < (v16.fi.length : Int))))
   ((A5 p0.fb v6).bind fun v18 =>
   (A5 v18.fi v14).bind fun v19 =>
   AI ((decide (8 < (v19.length : Int))))
    (some false)
    (BB N p0 v6 j14 n14 (wI .i64 (v14 + 1))))
   (j14 ())
def BE (N : Nat) (p0 : Ae) (v6 : Int) (j21 : Unit → Option Bool) : Nat → Int → Option Bool
 | 0, _ => none
 | n21 + 1, v21 =>
  (A5 p0.fb v6).bind fun v23 =>
  AI ((decide (v21 < (v23.fh.length : Int))))
   ((A5 p0.fb v6).bind fun v25 =>
   (A5 v25.fh v21).bind fun v26 =>
   AI ((decide (8 < (v26.length : Int))))
    (some false)
    (BE N p0 v6 j21 n21 (wI .i64 (v21 + 1))))
   (j21 ())
def Cw (N : Nat) (p0 : Ae) (j6 : Unit → Option Bool) : Nat → Int → Option Bool
 | 0, _ => none
 | n6 + 1, v6 =>
  AI ((decide (v6 < (p0.fb.length : Int))))
   (Bk (fun (v9 : Bool) =>
    AI v9
     (some false)
     (BB N p0 v6 (fun (_ : Unit) =>
      BE N p0 v6 (fun (_ : Unit) =>
       Cw N p0 j6 n6 (wI .i64 (v6 + 1))) N 0) N 0))
   fun j9 =>
   (A5 p0.fb v6).bind fun v10 =>
   AI ((decide (8 < (v10.fi.length : Int))))
    (j9 true)
    ((A5 p0.fb v6).bind fun v12 =>
    j9 (decide (8 < (v12.fh.length : Int)))))
   (j6 ())
def DH (N : Nat) (p0 : Ae) : Option Bool :=
 Bk (fun (v1 : Bool) =>
  AI v1
   (some false)
   (Cw N p0 (fun (_ : Unit) =>
    some true) N 0))
 fun j1 =>
 AI ((decide (8 < (p0.fa.length : Int))))
  (j1 true)
  (AI ((decide (8 < (p0.fk.length : Int))))
   (j1 true)
   (AI ((decide (8 < (p0.fo.length : Int))))
    (j1 true)
    (j1 (decide (14 < (p0.fb.length : Int))))))
def FH (N : Nat) (p0 : Ae) : Option ((List Int) × Int) :=
 (Fc N p0).bind fun v1 =>
 AI ((v1.2 != 0))
  (some (([] : List Int), v1.2))
  (AI (((v1.1.length : Int) == 0))
   (some (([] : List Int), 15))
   ((A5 v1.1 0).bind fun v4 =>
   some (v4, 0)))
def Eq (N : Nat) (v3 : (List Int)) (j4 : Int → Option ((List Int) × Int)) : Nat → (Int × Int) → Option ((List Int) × Int)
 | 0, _ => none
 | n4 + 1, v4 =>
  AI ((decide (v4.2 < (v3.length : Int))))
   ((A5 v3 v4.2).bind fun v7 =>
   Eq N v3 j4 n4 ((Qw .u64 v4.1 v7), (wI .i64 (v4.2 + 1))))
   (j4 v4.1)
def Et (N : Nat) (p0 : Ae) : Option ((List Int) × Int) :=
 (Eb N p0).bind fun v1 =>
 AI ((v1.2.2 != 0))
  (some (([] : List Int), v1.2.2))
  ((FV N v1.1 v1.2.1).bind fun v3 =>
  Eq N v3 (fun (v5 : Int) =>
   (Dt N v5).bind fun v8 =>
   some (v8, 0)) N (0, 0))
def D0 (_ : Nat) (p0 : Int) : Option Bool :=
 some ((p0 != p0))
def EL (N : Nat) (p0 : Int) (p1 : Int) : Option Int :=
 (D0 N p0).bind fun v1 =>
 (D0 N p1).bind fun v2 =>
 AI v1
  (AI v2
   (some 0)
   (some ((-1))))
  (AI v2
   (some 1)
   (AI ((decide (p0 < p1)))
    (some ((-1)))
    (AI ((decide (p1 < p0)))
     (some 1)
     (some 0))))
def BL (N : Nat) (p0 : List Int) (p1 : List Int) (j1 : Unit → Option Int) : Nat → Int → Option Int
 | 0, _ => none
 | n1 + 1, v1 =>
  AI ((decide (v1 < (p0.length : Int))))
   ((A5 p0 v1).bind fun v4 =>
   AI ((decide ((p1.length : Int) ≤ v1)))
    (some 1)
    ((A5 p1 v1).bind fun v6 =>
    (EL N v4 v6).bind fun v7 =>
    AI ((v7 != 0))
     (some v7)
     (BL N p0 p1 j1 n1 (wI .i64 (v1 + 1)))))
   (j1 ())
def CR (N : Nat) (p0 : List Int) (p1 : List Int) : Option Int :=
 BL N p0 p1 (fun (_ : Unit) =>
  AI ((decide ((p0.length : Int) < (p1.length : Int))))
   (some ((-1)))
   (some 0)) N 0
def Ft (N : Nat) (p0 : List Int) (j1 : Unit → Option Int) : Nat → Int → Option Int
 | 0, _ => none
 | n1 + 1, v1 =>
  AI ((decide (v1 < (p0.length : Int))))
   ((A5 p0 v1).bind fun v4 =>
   AI ((v4 != 0))
    (some v4)
    (Ft N p0 j1 n1 (wI .i64 (v1 + 1))))
   (j1 ())
def H5 (N : Nat) (p0 : List Int) : Option Int :=
 Ft N p0 (fun (_ : Unit) =>
  some 0) N 0
def Fd (N : Nat) (p0 : Ao) (p1 : Ao) : Option Int :=
 (Cm N p0.fe p1.fe).bind fun v1 =>
 (Cm N p0.fc p1.fc).bind fun v2 =>
 (CR N p0.ff p1.ff).bind fun v3 =>
 (H5 N (([v1, v2, v3] : List Int))).bind fun v4 =>
 some v4
def AP (N : Nat) (p0 : List Ao) (p1 : Ao) (p2 : (Ao × Ao) → Option Int) (j1 : Int → Option (Int × Bool)) : Nat → (Int × Int) → Option (Int × Bool)
 | 0, _ => none
 | n1 + 1, v1 =>
  AI ((decide (v1.1 < v1.2)))
   ((A5 p0 ((wI .i64 ((AL .u64 ((wI .u64 ((wI .i64 (v1.1 + v1.2))))) 1))))).bind fun v4 =>
   (p2 ((v4, p1))).bind fun v5 =>
   AI ((decide (v5 < 0)))
    (AP N p0 p1 p2 j1 n1 ((wI .i64 ((wI .i64 ((AL .u64 ((wI .u64 ((wI .i64 (v1.1 + v1.2))))) 1))) + 1)), v1.2))
    (AP N p0 p1 p2 j1 n1 (v1.1, (wI .i64 ((AL .u64 ((wI .u64 ((wI .i64 (v1.1 + v1.2))))) 1))))))
   (j1 v1.1)
def Br (N : Nat) (p0 : List Ao) (p1 : Ao) (p2 : (Ao × Ao) → Option Int) : Option (Int × Bool) :=
 AP N p0 p1 p2 (fun (v2 : Int) =>
  Bk (fun (v7 : Bool) =>
   some (v2, v7))
  fun j7 =>
  AI ((decide (v2 < (p0.length : Int))))
   ((A5 p0 v2).bind fun v9 =>
   (p2 ((v9, p1))).bind fun v10 =>
   j7 (v10 == 0))
   (j7 false)) N (0, (p0.length : Int))
def Fu (N : Nat) (p0 : List Ao) (p1 : Ao) : Option Bool :=
 (Br N p0 p1 ((fun (x : Ao × Ao) => Fd N x.1 x.2))).bind fun v1 =>
 some v1.2
def EI (N : Nat) (p0 : Ae) (p1 : List Ao) (j5 : Unit → Option Bool) : Nat → Int → Option Bool
 | 0, _ => none
 | n5 + 1, v5 =>
  AI ((decide (v5 < (p1.length : Int))))
   ((A5 p1 v5).bind fun v8 =>
   Bk (fun (v9 : Bool) =>
    AI v9
     (some false)
     ((Ei N p0 v8).bind fun v14 =>
     Bk (fun (v15 : Bool) =>
      AI v15
       (some false)
       (EI N p0 p1 j5 n5 (wI .i64 (v5 + 1))))
     fun j15 =>
     AI ((!v14.1))
      (j15 true)
      (AI ((v14.2 != 0))
       (j15 true)
       ((H1 N p0 v8).bind fun v18 =>
       j15 v18))))
   fun j9 =>
   AI ((decide (0 < v5)))
    ((A5 p1 ((wI .i64 (v5 - 1)))).bind fun v11 =>
    (Fd N v11 v8).bind fun v12 =>
    j9 (decide (0 ≤ v12)))
    (j9 false))
   (j5 ())
def En (N : Nat) (p0 : Ae) (p1 : List Ao) (v25 : Ao) (v26 : (List Am) × Int) (j27 : Unit → Option Bool) : Nat → Int → Option Bool
 | 0, _ => none
 | n27 + 1, v27 =>
  AI ((decide (v27 < (v26.1.length : Int))))
   ((A5 v26.1 v27).bind fun v30 =>
   (G1 N p0 v25 v30).bind fun v31 =>
   (Ei N p0 v31.1).bind fun v32 =>
   Bk (fun (v33 : Bool) =>
    AI v33
     (some false)
     (En N p0 p1 v25 v26 j27 n27 (wI .i64 (v27 + 1))))
   fun j33 =>
   AI v32.1
    ((Fu N p1 v31.1).bind fun v35 =>
    j33 (!v35))
    (j33 false))
   (j27 ())
def Eo (N : Nat) (p0 : Ae) (p1 : List Ao) (j22 : Unit → Option Bool) : Nat → Int → Option Bool
 | 0, _ => none
 | n22 + 1, v22 =>
  AI ((decide (v22 < (p1.length : Int))))
   ((A5 p1 v22).bind fun v25 =>
   (FW N p0 v25).bind fun v26 =>
   En N p0 p1 v25 v26 (fun (_ : Unit) =>
    Eo N p0 p1 j22 n22 (wI .i64 (v22 + 1))) N 0)
   (j22 ())
def Hb (N : Nat) (p0 : Ae) (p1 : List Ao) : Option Bool :=
 (Hp N p0).bind fun v1 =>
 AI ((v1.2 != 0))
  (some false)
  ((Ei N p0 v1.1).bind fun v3 =>
  AI ((!v3.1))
   (some (((p1.length : Int) == 0)))
   (EI N p0 p1 (fun (_ : Unit) =>
    (Fu N p1 v1.1).bind fun v20 =>
    AI ((!v20))
     (some false)
     (Eo N p0 p1 (fun (_ : Unit) =>
      some true) N 0)) N 0))
def FF (N : Nat) (p0 : Ae) (p1 : List Int) (p2 : List Ao) : Option Bool :=
 (Do N p0 p1).bind fun v1 =>
 Bk (fun (v2 : Bool) =>
  some v2)
 fun j2 =>
 AI ((v1.2 == 0))
  ((Hb N v1.1 p2).bind fun v4 =>
  j2 v4)
  (j2 false)
def Cn (N : Nat) (p0 : Ae) : Option Bool :=
 (B7 N p0).bind fun v1 =>
 Bk (fun (v2 : Bool) =>
  AI v2
   ((Df N).bind fun v8 =>
   some v8)
   ((DI N p0 (([] : List Int))).bind fun v9 =>
   (FH N p0).bind fun v10 =>
   (Fc N p0).bind fun v11 =>
   (Et N p0).bind fun v12 =>
   (Fl N p0).bind fun v13 =>
   Bk (fun (v14 : Bool) =>
    some v14)
   fun j14 =>
   AI ((v9.2 == v1))
    (AI ((v10.2 == v1))
     (AI ((v11.2 == v1))
      (AI ((v12.2 == v1))
       (AI ((v13.2 == v1))
        (AI ((!v9.1))
         (AI (((wI .i64 ((wI .i64 ((wI .i64 ((v10.1.length : Int) + (v11.1.length : Int))) + (v12.1.length : Int))) + (v13.1.length : Int))) == 0))
          ((FF N p0 (([] : List Int)) (([] : List Ao))).bind fun v22 =>
          j14 (!v22))
          (j14 false))
         (j14 false))
        (j14 false))
       (j14 false))
      (j14 false))
     (j14 false))
    (j14 false)))
 fun j2 =>
 (Df N).bind fun v3 =>
 AI ((!v3))
  (j2 true)
  (AI ((v1 == 0))
   (j2 true)
   ((DH N p0).bind fun v6 =>
   j2 (!v6)))
def Pl {α : Type} (w : α → Prop) (xs : List α) : Prop := ∀ x, x ∈ xs → w x
def Nk (n : Int) : Prop := (Lit.int .i64 n).wf = true
def Kw (x : Aw) : Prop := Nk x.fd ∧ Nk x.fg ∧ Nk x.fj ∧ (fun _ => True) x.fq ∧ (Pl (Pl (fun _ => True))) x.fi ∧ (Pl (Pl (fun _ => True))) x.fh ∧ True
def Ju (x : Ae) : Prop := (Pl Nk) x.fa ∧ (Pl Nk) x.fk ∧ (Pl Nk) x.fo ∧ (Pl Kw) x.fb ∧ True
open Go.RowKit
open Go.Proofs
abbrev BH (x : Aw) : List C := [iC x.fd, iC x.fg, iC x.fj, .pure (.val (.bool x.fq)), sC (x.fi.map (GD eB)), sC (x.fh.map (GD eB))]
abbrev Ai (x : Ae) : List C := [sC (x.fa.map Aq), sC (x.fk.map Aq), sC (x.fo.map Aq), sC (x.fb.map AO)]
abbrev AR (x : Ao) : List C := [sC (x.fe.map Aq), sC (x.fc.map Aq), sC (x.ff.map EC)]
abbrev J0 (x : AH) : List C := [iC x.fu, iC x.fv, iC x.fw]
abbrev D9 (x : Am) : List C := [iC x.fd, iC x.fm, iC x.fr]
abbrev Pb (x : AM) : List C := [sC (x.fp.fe.map Aq), sC (x.fp.fc.map Aq), sC (x.fp.ff.map EC), iC x.fg, iC x.ft.fd, iC x.ft.fm, iC x.ft.fr, sC (x.fc.map Aq)]
theorem Ap : Tryz.prog.follows .mixedOrders = true := by kernel_rfl
theorem wq {X : Hd} {y : Code} {id : Nat} {ops : Array Oper} {dr : Bool} {Q : Exit → St → Prop} {st : St} {n : Nat} (hn : ops.size = n) (h : AY zA0 X ops dr (fun st' => W zA0 X y Q st') n 0 st []) : W zA0 X (.seq (.region id ops dr) y) Q st := Vd Ap hn h
theorem wp {X : Hd} {y z : Code} {id : Nat} {ops : Array Oper} {dr : Bool} {Q : Exit → St → Prop} {st : St} {n : Nat} (hn : ops.size = n) (h : AY zA0 X ops dr (fun st' => W zA0 X y (Mr (W zA0 X z Q) Q) st') n 0 st []) : W zA0 X (.seq (.seq (.region id ops dr) y) z) Q st := Ay (Vd Ap hn h)
theorem Kd : EW zA0 120 false = true := by kernel_rfl
theorem To : EW zA0 136 true = true := by kernel_rfl
theorem ON : EW zA0 149 true = true := by kernel_rfl
theorem Lu : EW zA0 197 false = true := by kernel_rfl
theorem Bx : EW zA0 26 false = true := by kernel_rfl
theorem Hr : EW zA0 27 false = true := by kernel_rfl
theorem CS : EW zA0 29 true = true := by kernel_rfl
theorem C2 : EW zA0 3 false = true := by kernel_rfl
theorem QC : EW zA0 4 false = true := by kernel_rfl
theorem JP : EW zA0 47 false = true := by kernel_rfl
theorem Co : EW zA0 49 true = true := by kernel_rfl
theorem L4 : EW zA0 61 false = true := by kernel_rfl
theorem SN : EW zA0 66 false = true := by kernel_rfl
theorem Ul : EW zA0 67 false = true := by kernel_rfl
theorem Ch : EW zA0 71 false = true := by kernel_rfl
theorem GF : EW zA0 82 false = true := by kernel_rfl
theorem Iq : EW zA0 84 true = true := by kernel_rfl
theorem I1 : EW zA0 94 true = true := by kernel_rfl
theorem SZ : MM zA0 22 = true := by kernel_rfl
theorem P7 : DV zA0 120 1 = true := by kernel_rfl
theorem R8 : DV zA0 136 128 = true := by kernel_rfl
theorem Qp : DV zA0 149 24 = true := by kernel_rfl
theorem Ub : DV zA0 26 24 = true := by kernel_rfl
theorem Ns : DV zA0 3 8 = true := by kernel_rfl
theorem Va : DV zA0 4 1 = true := by kernel_rfl
theorem Tb : DV zA0 49 72 = true := by kernel_rfl
theorem Sf : DV zA0 5 1 = true := by kernel_rfl
theorem Tt : DV zA0 61 24 = true := by kernel_rfl
theorem PX : DV zA0 71 8 = true := by kernel_rfl
theorem SU : DV zA0 84 80 = true := by kernel_rfl
theorem OJ : DV zA0 94 24 = true := by kernel_rfl
theorem LE : C7 zA0 136 0 0 = true := by kernel_rfl
theorem NN : C7 zA0 136 1 3 = true := by kernel_rfl
theorem PV : C7 zA0 136 2 4 = true := by kernel_rfl
theorem NP : C7 zA0 136 3 7 = true := by kernel_rfl
theorem B4 : C7 zA0 29 0 0 = true := by kernel_rfl
theorem FU : C7 zA0 29 1 1 = true := by kernel_rfl
theorem GY : C7 zA0 29 2 2 = true := by kernel_rfl
theorem CC : C7 zA0 29 3 3 = true := by kernel_rfl
theorem DZ : C7 zA0 49 0 0 = true := by kernel_rfl
theorem Dn : C7 zA0 49 1 1 = true := by kernel_rfl
theorem EP : C7 zA0 49 2 2 = true := by kernel_rfl
theorem zFS : C7 zA0 84 0 0 = true := by kernel_rfl
theorem Es : C7 zA0 84 1 1 = true := by kernel_rfl
theorem HU : C7 zA0 84 2 2 = true := by kernel_rfl
theorem K9 : C7 zA0 84 3 3 = true := by kernel_rfl
theorem FT : C7 zA0 84 4 4 = true := by kernel_rfl
theorem DN : C7 zA0 84 5 5 = true := by kernel_rfl
theorem Iy : C7 zA0 94 0 0 = true := by kernel_rfl
theorem FP : C7 zA0 94 1 1 = true := by kernel_rfl
theorem JC : C7 zA0 94 2 2 = true := by kernel_rfl
theorem SM : Ar zA0 100 = true := by kernel_rfl
theorem Rv : Ar zA0 101 = true := by kernel_rfl
theorem RJ : Ar zA0 102 = true := by kernel_rfl
theorem RC : Ar zA0 103 = true := by kernel_rfl
theorem T7 : Ar zA0 104 = true := by kernel_rfl
theorem Qs : Ar zA0 105 = true := by kernel_rfl
theorem S3 : Ar zA0 106 = true := by kernel_rfl
theorem S5 : Ar zA0 107 = true := by kernel_rfl
theorem SX : Ar zA0 108 = true := by kernel_rfl
theorem Un : Ar zA0 109 = true := by kernel_rfl
theorem TV : Ar zA0 11 = true := by kernel_rfl
theorem PB : Ar zA0 111 = true := by kernel_rfl
theorem Rx : Ar zA0 112 = true := by kernel_rfl
theorem RE : Ar zA0 113 = true := by kernel_rfl
theorem PL : Ar zA0 114 = true := by kernel_rfl
theorem TU : Ar zA0 117 = true := by kernel_rfl
theorem Ue : Ar zA0 118 = true := by kernel_rfl
theorem TH : Ar zA0 119 = true := by kernel_rfl
theorem Sc : Ar zA0 12 = true := by kernel_rfl
theorem OH : Ar zA0 120 = true := by kernel_rfl
theorem TJ : Ar zA0 121 = true := by kernel_rfl
theorem Tv : Ar zA0 122 = true := by kernel_rfl
theorem TD : Ar zA0 123 = true := by kernel_rfl
theorem TL : Ar zA0 124 = true := by kernel_rfl
theorem T1 : Ar zA0 125 = true := by kernel_rfl
theorem T0 : Ar zA0 126 = true := by kernel_rfl
theorem Rt : Ar zA0 127 = true := by kernel_rfl
theorem SW : Ar zA0 128 = true := by kernel_rfl
theorem PC : Ar zA0 13 = true := by kernel_rfl
theorem TI : Ar zA0 135 = true := by kernel_rfl
theorem T2 : Ar zA0 136 = true := by kernel_rfl
theorem TQ : Ar zA0 137 = true := by kernel_rfl
theorem Ru : Ar zA0 138 = true := by kernel_rfl
theorem TW : Ar zA0 139 = true := by kernel_rfl
theorem Tq : Ar zA0 140 = true := by kernel_rfl
theorem TF : Ar zA0 141 = true := by kernel_rfl
theorem Tw : Ar zA0 142 = true := by kernel_rfl
theorem Ut : Ar zA0 143 = true := by kernel_rfl
theorem Uk : Ar zA0 144 = true := by kernel_rfl
theorem S4 : Ar zA0 145 = true := by kernel_rfl
theorem S7 : Ar zA0 146 = true := by kernel_rfl
theorem SI : Ar zA0 147 = true := by kernel_rfl
theorem Th : Ar zA0 148 = true := by kernel_rfl
theorem SO : Ar zA0 149 = true := by kernel_rfl
theorem TA : Ar zA0 15 = true := by kernel_rfl
theorem ST : Ar zA0 150 = true := by kernel_rfl
theorem T5 : Ar zA0 151 = true := by kernel_rfl
theorem SQ : Ar zA0 152 = true := by kernel_rfl
theorem Uu : Ar zA0 153 = true := by kernel_rfl
theorem Ty : Ar zA0 154 = true := by kernel_rfl
theorem TX : Ar zA0 155 = true := by kernel_rfl
theorem Qq : Ar zA0 156 = true := by kernel_rfl
theorem T9 : Ar zA0 157 = true := by kernel_rfl
theorem S9 : Ar zA0 158 = true := by kernel_rfl
theorem Tp : Ar zA0 159 = true := by kernel_rfl
theorem SS : Ar zA0 160 = true := by kernel_rfl
theorem Ud : Ar zA0 161 = true := by kernel_rfl
theorem Uc : Ar zA0 162 = true := by kernel_rfl
theorem S6 : Ar zA0 163 = true := by kernel_rfl
theorem TB : Ar zA0 165 = true := by kernel_rfl
theorem SK : Ar zA0 166 = true := by kernel_rfl
theorem TO : Ar zA0 167 = true := by kernel_rfl
theorem RG : Ar zA0 168 = true := by kernel_rfl
theorem TT : Ar zA0 169 = true := by kernel_rfl
theorem Tf : Ar zA0 17 = true := by kernel_rfl
theorem TM : Ar zA0 170 = true := by kernel_rfl
theorem Qt : Ar zA0 171 = true := by kernel_rfl
theorem Rs : Ar zA0 172 = true := by kernel_rfl
theorem RH : Ar zA0 173 = true := by kernel_rfl
theorem Rz : Ar zA0 174 = true := by kernel_rfl
theorem Rn : Ar zA0 175 = true := by kernel_rfl
theorem RM : Ar zA0 176 = true := by kernel_rfl
theorem Tz : Ar zA0 177 = true := by kernel_rfl
theorem T8 : Ar zA0 178 = true := by kernel_rfl
theorem Pt : Ar zA0 179 = true := by kernel_rfl
theorem R3 : Ar zA0 18 = true := by kernel_rfl
theorem TY : Ar zA0 180 = true := by kernel_rfl
theorem UI : Ar zA0 21 = true := by kernel_rfl
theorem U6 : Ar zA0 23 = true := by kernel_rfl
theorem U5 : Ar zA0 25 = true := by kernel_rfl
theorem UZ : Ar zA0 27 = true := by kernel_rfl
theorem UH : Ar zA0 33 = true := by kernel_rfl
theorem Vb : Ar zA0 34 = true := by kernel_rfl
theorem RV : Ar zA0 37 = true := by kernel_rfl
theorem Qf : Ar zA0 38 = true := by kernel_rfl
theorem Uf : Ar zA0 39 = true := by kernel_rfl
theorem UT : Ar zA0 40 = true := by kernel_rfl
theorem R7 : Ar zA0 42 = true := by kernel_rfl
theorem U0 : Ar zA0 43 = true := by kernel_rfl
theorem UN : Ar zA0 44 = true := by kernel_rfl
theorem Uz : Ar zA0 45 = true := by kernel_rfl
theorem T3 : Ar zA0 46 = true := by kernel_rfl
theorem UV : Ar zA0 47 = true := by kernel_rfl
theorem TP : Ar zA0 48 = true := by kernel_rfl
theorem UW : Ar zA0 50 = true := by kernel_rfl
theorem TS : Ar zA0 51 = true := by kernel_rfl
theorem PJ : Ar zA0 52 = true := by kernel_rfl
theorem UL : Ar zA0 53 = true := by kernel_rfl
theorem UR : Ar zA0 64 = true := by kernel_rfl
theorem UQ : Ar zA0 66 = true := by kernel_rfl
theorem Ua : Ar zA0 69 = true := by kernel_rfl
theorem Qj : Ar zA0 70 = true := by kernel_rfl
theorem UP : Ar zA0 71 = true := by kernel_rfl
theorem TC : Ar zA0 72 = true := by kernel_rfl
theorem UJ : Ar zA0 73 = true := by kernel_rfl
theorem Ui : Ar zA0 74 = true := by kernel_rfl
theorem U2 : Ar zA0 75 = true := by kernel_rfl
theorem U9 : Ar zA0 77 = true := by kernel_rfl
theorem UE : Ar zA0 78 = true := by kernel_rfl
theorem US : Ar zA0 79 = true := by kernel_rfl
theorem S8 : Ar zA0 80 = true := by kernel_rfl
theorem UF : Ar zA0 81 = true := by kernel_rfl
theorem U3 : Ar zA0 82 = true := by kernel_rfl
theorem PU : Ar zA0 83 = true := by kernel_rfl
theorem Tx : Ar zA0 84 = true := by kernel_rfl
theorem SV : Ar zA0 85 = true := by kernel_rfl
theorem Tm : Ar zA0 86 = true := by kernel_rfl
theorem Uo : Ar zA0 87 = true := by kernel_rfl
theorem SP : Ar zA0 88 = true := by kernel_rfl
theorem Tj : Ar zA0 98 = true := by kernel_rfl
theorem Mu : LK zA0 145 .u32 = true := by kernel_rfl
theorem Rj : LK zA0 147 .u64 = true := by kernel_rfl
theorem SJ : LK zA0 197 .u64 = true := by kernel_rfl
theorem RA : LK zA0 3 .i64 = true := by kernel_rfl
theorem Ux : LK zA0 5 .u8 = true := by kernel_rfl
theorem Or : LK zA0 71 .u64 = true := by kernel_rfl
theorem OU : Tryz.prog.underlying 71 = some (.int .u64) := by kernel_rfl
theorem Sn : Tryz.prog.underlying 9 = some .string := by kernel_rfl
theorem MS : Tryz.prog.underlying 170 = some (.map 9 3) := by kernel_rfl
theorem KM : Tryz.prog.underlying 67 = some (.map 71 4) := by kernel_rfl
theorem RI : Hv zA0 136 = some [(0, 3), (3, 1), (4, 3), (7, 1)] := by kernel_rfl
theorem OF : Hv zA0 149 = some [(0, 1), (1, 1), (2, 1)] := by kernel_rfl
theorem QT : Hv zA0 29 = some [(0, 1), (1, 1), (2, 1), (3, 1)] := by kernel_rfl
theorem L0 : Hv zA0 49 = some [(0, 1), (1, 1), (2, 1)] := by kernel_rfl
theorem Td : Hv zA0 84 = some [(0, 1), (1, 1), (2, 1), (3, 1), (4, 1), (5, 1)] := by kernel_rfl
theorem Si : Hv zA0 94 = some [(0, 1), (1, 1), (2, 1)] := by kernel_rfl
theorem Fz : sliceB zA0 131 136 = true := by kernel_rfl
theorem Jl : sliceB zA0 162 149 = true := by kernel_rfl
theorem LC : sliceB zA0 22 5 = true := by kernel_rfl
theorem AC : sliceB zA0 26 3 = true := by kernel_rfl
theorem Dv : sliceB zA0 27 84 = true := by kernel_rfl
theorem HS : sliceB zA0 38 26 = true := by kernel_rfl
theorem HZ : sliceB zA0 46 49 = true := by kernel_rfl
theorem E2 : sliceB zA0 47 120 = true := by kernel_rfl
theorem GK : sliceB zA0 61 4 = true := by kernel_rfl
theorem D3 : sliceB zA0 63 94 = true := by kernel_rfl
theorem AK : sliceB zA0 66 71 = true := by kernel_rfl
theorem DD : sliceB zA0 82 61 = true := by kernel_rfl
theorem Nq : (Tryz.prog.underlying 145).isSome = true := by kernel_rfl
theorem OX : (Tryz.prog.underlying 147).isSome = true := by kernel_rfl
theorem Ry : (Tryz.prog.underlying 3).isSome = true := by kernel_rfl
theorem Uw : (Tryz.prog.underlying 5).isSome = true := by kernel_rfl
theorem Oc : (Tryz.prog.underlying 71).isSome = true := by kernel_rfl
theorem Nl : ME zA0 9 = true := by kernel_rfl
theorem GN : GE zA0 120 1 = true := by kernel_rfl
theorem IW : GE zA0 136 8 = true := by kernel_rfl
theorem Im : GE zA0 149 3 = true := by kernel_rfl
theorem OW : GE zA0 197 1 = true := by kernel_rfl
theorem LO : GE zA0 26 1 = true := by kernel_rfl
theorem UK : GE zA0 27 1 = true := by kernel_rfl
theorem Cq : GE zA0 29 4 = true := by kernel_rfl
theorem DS : GE zA0 3 1 = true := by kernel_rfl
theorem Qu : GE zA0 4 1 = true := by kernel_rfl
theorem Bh : GE zA0 49 3 = true := by kernel_rfl
theorem Ur : GE zA0 5 1 = true := by kernel_rfl
theorem I8 : GE zA0 61 1 = true := by kernel_rfl
theorem U4 : GE zA0 66 1 = true := by kernel_rfl
theorem UB : GE zA0 67 1 = true := by kernel_rfl
theorem AS : GE zA0 71 1 = true := by kernel_rfl
theorem TE : GE zA0 82 1 = true := by kernel_rfl
theorem DT : GE zA0 84 6 = true := by kernel_rfl
theorem Eh : GE zA0 94 3 = true := by kernel_rfl
theorem P3 : CL zA0 120 = some (.int .u8 0) := by kernel_rfl
theorem Np : CL zA0 136 = some (.agg #[.slice none 0 0, .slice none 0 0, .slice none 0 0, .int .i64 0, .int .i64 0, .int .i64 0, .int .i64 0, .slice none 0 0]) := by kernel_rfl
theorem JG : CL zA0 149 = some (.agg #[.int .i64 0, .int .i64 0, .int .i64 0]) := by kernel_rfl
theorem T6 : CL zA0 197 = some (.int .u64 0) := by kernel_rfl
theorem Rc : CL zA0 26 = some (.slice none 0 0) := by kernel_rfl
theorem M6 : CL zA0 29 = some (.agg #[.slice none 0 0, .slice none 0 0, .slice none 0 0, .slice none 0 0]) := by kernel_rfl
theorem KL : CL zA0 3 = some (.int .i64 0) := by kernel_rfl
theorem RD : CL zA0 4 = some (.bool false) := by kernel_rfl
theorem F1 : CL zA0 49 = some (.agg #[.slice none 0 0, .slice none 0 0, .slice none 0 0]) := by kernel_rfl
theorem Uj : CL zA0 5 = some (.int .u8 0) := by kernel_rfl
theorem Sd : CL zA0 61 = some (.slice none 0 0) := by kernel_rfl
theorem Vc : CL zA0 66 = some (.slice none 0 0) := by kernel_rfl
theorem U8 : CL zA0 67 = some (.map none) := by kernel_rfl
theorem NQ : CL zA0 71 = some (.int .u64 0) := by kernel_rfl
theorem KA : CL zA0 84 = some (.agg #[.int .i64 0, .int .i64 0, .int .i64 0, .bool false, .slice none 0 0, .slice none 0 0]) := by kernel_rfl
theorem JT : CL zA0 94 = some (.agg #[.int .i64 0, .int .i64 0, .int .i64 0]) := by kernel_rfl
set_option maxRecDepth 10000
theorem Jc (N : Nat) (p0 : Aw) (r : Bool) (h : C9 N p0 = some r) : Ak zA0 66 [.e (.agg (BH p0))] [] (bD r) := by
 unfold C9 at h
 refine cw (n := 11) (rs := [.tmp 2]) Tryz.func66 fun w0 S0 => ?_
 refine wq rfl (qb rfl (qe rfl ?_))
 refine AG h (fun v1 => mk [(2, bD v1)] []) (fun j1 h => ?_) (fun v1 h => ?_)
 ·refine Ad Ap rfl (qf zFS rfl (ql C2 rfl (BW rfl (qm rfl ?_))))
  refine DE 6 h rfl (fun h => ?_) fun h => ?_
  ·refine qw 3 rfl (qp rfl (qe rfl ?_))
   exact sn [] h
  ·refine qf zFS rfl (ql C2 rfl (BW rfl (qp rfl (qe rfl ?_))))
   exact sn [] h
 ·obtain rfl := sj h
  refine Ac (sm [] [(2, bD v1)] [] rfl rfl) (Al ?_)
  exact ⟨⟨[_], tm, rfl⟩, tv⟩
theorem G9 (N : Nat) (p0 : List (List Bool)) (p1 : Int) (p2 : Int) (r : Bool) (h : Cv N p0 p1 p2 = some r) : Ak zA0 98 [pD (.sl (p0.map (GD eB))), iD p1, iD p2] [] (bD r) := by
 unfold Cv at h
 refine cw (n := 24) (rs := [.tmp 6]) Tryz.func98 fun w0 S0 => ?_
 refine wq rfl (qa rfl (Aa (wp rfl (qm rfl (AD DD rfl (qm rfl (BJ rfl (Aa ?_))))))))
 refine A0 h (fun h => ?_) fun h => ?_
 ·refine wq rfl (qe rfl ?_)
  obtain rfl := sj h
  refine Ac (sm [] [(6, bD false)] [] rfl rfl) (Al ?_)
  exact ⟨⟨[_], tm, rfl⟩, tv⟩
 ·refine Ag (wp rfl (qe rfl ?_))
  refine Av (L := BF N p0 p1 p2) h (fun v2 => mk [(0, pD (.sl (p0.map (GD eB)))), (1, iD p1), (2, iD p2), (7, iD v2)] []) (fun v3 => mk [] []) (fun _ _ => rfl) (sm [] _ _ rfl rfl) (fun j2 n2 v2 h => ?_) (fun v3 s h hs => ?_)
  ·unfold BF at h
   refine wp rfl (qw 2 rfl (AN rfl (Aa ?_)))
   refine A0 h (fun h => ?_) fun h => ?_
   ·refine Ag (Ay (AA (wq rfl (qw 2 rfl ?_))))
    refine A8 h fun v5 a5 b5 h => qi DD I8 a5 (Ab b5) rfl (qk L4 rfl (AD GK rfl (qm rfl (BJ rfl (Aa ?_)))))
    refine A0 h (fun h => ?_) fun h => ?_
    ·refine wq rfl (qe rfl ?_)
     obtain rfl := sj h
     refine Ac (sm [] [(6, bD false)] [] rfl rfl) (Al ?_)
     exact ⟨⟨[_], tm, rfl⟩, tv⟩
    ·refine Ag (Ad Ap rfl (qm rfl (AE rfl (qe rfl ?_))))
     exact sn [] h
   ·refine AJ ?_
    exact sn [] h
  ·refine Ac hs (wq rfl (qe rfl ?_))
   obtain rfl := sj h
   refine Ac (sm [] [(6, bD true)] [] rfl rfl) (Al ?_)
   exact ⟨⟨[_], tm, rfl⟩, tv⟩
theorem JE (N : Nat) (p0 : Ae) (p1 : Aw) (r : Int) (h : Dh N p0 p1 = some r) : Ak zA0 64 [.e (.agg (Ai p0)), .e (.agg (BH p1))] [] (iD r) := by
 unfold Dh at h
 refine cw (n := 101) (rs := [.tmp 4]) Tryz.func64 fun w0 S0 => ?_
 refine wq rfl (qb rfl (qb rfl (qa rfl (Aa (Ay ?_)))))
 refine AG h (fun v1 => mk [(2, oD (.ptr 2 0)), (3, oD (.ptr 3 0)), (22, bD v1)] [(2, .box (Ai p0)), (3, .box (BH p1))]) (fun j1 h => ?_) (fun v1 h => ?_)
 ·refine Ad Ap rfl (qf zFS rfl (ql C2 rfl (AN rfl (qm rfl ?_))))
  refine DE 10 h rfl (fun h => ?_) fun h => ?_
  ·refine qw 3 rfl (qp rfl (qw 4 rfl (qu rfl (qu rfl (qn rfl (qp rfl (Aa ?_)))))))
   exact sn [] h
  ·refine qf zFS rfl (ql C2 rfl (DK rfl (qp rfl (qm rfl ?_))))
   refine DE 15 h rfl (fun h => ?_) fun h => ?_
   ·refine qw 3 rfl (qu rfl (qu rfl (qn rfl (qp rfl (Aa ?_)))))
    exact sn [] h
   ·refine qf K9 rfl (ql QC rfl (qm rfl ?_))
    refine DE 18 h rfl (fun h => ?_) fun h => ?_
    ·refine qL Iq DT rfl ?_
     refine Bg h fun v5 a5 h => As [] (Jc N p1 v5 a5) UQ rfl (qp rfl (qp rfl (Aa ?_)))
     exact sn [] h
    ·refine qw 2 rfl (qp rfl (qp rfl (Aa ?_)))
     exact sn [] h
 ·refine A0 h (fun h => ?_) fun h => ?_
  ·refine wq rfl (qe rfl ?_)
   obtain rfl := sj h
   refine Ac (sm [] [(4, iD 1)] [] rfl rfl) (Al ?_)
   exact ⟨⟨[_], tm, rfl⟩, tv⟩
  ·refine Ag (wq rfl (qf B4 rfl (ql Bx rfl (AD AC rfl (qa rfl (Aa (Ay ?_)))))))
   refine AG h (fun v7 => mk [(2, oD (.ptr 2 0)), (3, oD (.ptr 3 0)), (45, bD v7)] [(2, .box (Ai p0)), (3, .box (BH p1))]) (fun j7 h => ?_) (fun v7 h => ?_)
   ·refine Ad Ap rfl (qf Es rfl (ql C2 rfl (AN rfl (qm rfl ?_))))
    refine DE 29 h rfl (fun h => ?_) fun h => ?_
    ·refine qw 4 rfl (qp rfl (qw 4 rfl (qp rfl (qw 5 rfl (qp rfl (Aa ?_))))))
     exact sn [] h
    ·refine qf Es rfl (ql C2 rfl (qm rfl (CT rfl (qp rfl (qm rfl ?_)))))
     refine DE 35 h rfl (fun h => ?_) fun h => ?_
     ·refine qw 3 rfl (qp rfl (qw 5 rfl (qp rfl (Aa ?_))))
      exact sn [] h
     ·refine qf HU rfl (ql C2 rfl (AN rfl (qp rfl (qm rfl ?_))))
      refine DE 40 h rfl (fun h => ?_) fun h => ?_
      ·refine qw 4 rfl (qp rfl (Aa ?_))
       exact sn [] h
      ·refine qf HU rfl (ql C2 rfl (qm rfl (CT rfl (qp rfl (Aa ?_)))))
       exact sn [] h
   ·refine A0 h (fun h => ?_) fun h => ?_
    ·refine wq rfl (qe rfl ?_)
     obtain rfl := sj h
     refine Ac (sm [] [(4, iD 4)] [] rfl rfl) (Al ?_)
     exact ⟨⟨[_], tm, rfl⟩, tv⟩
    ·refine Ag (wp rfl (qf FT rfl (ql GF rfl (qf B4 rfl (ql Bx rfl (qf Es rfl (ql C2 rfl ?_)))))))
     refine A8 h fun v12 a12 b12 h => qi AC DS a12 (Ab b12) rfl (qk C2 rfl (qf B4 rfl (ql Bx rfl (qf HU rfl (ql C2 rfl ?_)))))
     refine A8 h fun v13 a13 b13 h => qi AC DS a13 (Ab b13) rfl (qk C2 rfl ?_)
     refine Bg h fun v14 a14 h => As [] (G9 N p1.fi v12 v13 v14 a14) Tj rfl (BN rfl (AF (by kernel_rfl) ?_))
     refine A0 h (fun h => ?_) fun h => ?_
     ·refine wq rfl (qe rfl ?_)
      obtain rfl := sj h
      refine Ac (sm [] [(4, iD 6)] [] rfl rfl) (Al ?_)
      exact ⟨⟨[_], tm, rfl⟩, tv⟩
     ·refine Ag (wp rfl (qf zFS rfl (ql C2 rfl (BJ rfl (Aa ?_)))))
      refine A0 h (fun h => ?_) fun h => ?_
      ·refine wp rfl (qf DN rfl (ql GF rfl (AD DD rfl (BJ rfl (Aa ?_)))))
       refine A0 h (fun h => ?_) fun h => ?_
       ·refine wq rfl (qe rfl ?_)
        obtain rfl := sj h
        refine Ac (sm [] [(4, iD 6)] [] rfl rfl) (Al ?_)
        exact ⟨⟨[_], tm, rfl⟩, tv⟩
       ·refine Ag (wq rfl (qe rfl ?_))
        obtain rfl := sj h
        refine Ac (sm [] [(4, iD 0)] [] rfl rfl) (Al ?_)
        exact ⟨⟨[_], tm, rfl⟩, tv⟩
      ·refine Ag (wp rfl (qf DN rfl (ql GF rfl (qf B4 rfl (ql Bx rfl (qf Es rfl (ql C2 rfl ?_)))))))
       refine A8 h fun v18 a18 b18 h => qi AC DS a18 (Ab b18) rfl (qk C2 rfl (qf B4 rfl (ql Bx rfl (qf Es rfl (ql C2 rfl ?_)))))
       refine A8 h fun v19 a19 b19 h => qi AC DS a19 (Ab b19) rfl (qk C2 rfl ?_)
       refine Bg h fun v20 a20 h => As [] (G9 N p1.fh v18 v19 v20 a20) Tj rfl (BN rfl (AF (by kernel_rfl) ?_))
       refine A0 h (fun h => ?_) fun h => ?_
       ·refine wq rfl (qe rfl ?_)
        obtain rfl := sj h
        refine Ac (sm [] [(4, iD 6)] [] rfl rfl) (Al ?_)
        exact ⟨⟨[_], tm, rfl⟩, tv⟩
       ·refine Ag (wp rfl (qe rfl ?_))
        refine Av (L := Bo N p1) h (fun v22 => mk [(3, oD (.ptr 3 0)), (6, iD v22)] [(3, .box (BH p1))]) (fun v23 => mk [] []) (fun _ _ => rfl) (sm [] _ _ rfl rfl) (fun j22 n22 v22 h => ?_) (fun v23 s h hs => ?_)
        ·unfold Bo at h
         refine wp rfl (qm rfl (qf DN rfl (ql GF rfl (AD DD rfl (AN rfl (Aa ?_))))))
         refine A0 h (fun h => ?_) fun h => ?_
         ·refine Ag (Ay (AA (wq rfl (qf DN rfl (ql GF rfl (qm rfl ?_))))))
          refine A8 h fun v25 a25 b25 h => qi DD I8 a25 (Ab b25) rfl (qk L4 rfl (qm rfl ?_))
          refine A8 h fun v26 a26 b26 h => qi GK Qu a26 (Ab b26) rfl (qk QC rfl (BN rfl (Aa ?_)))
          refine A0 h (fun h => ?_) fun h => ?_
          ·refine wq rfl (qe rfl ?_)
           obtain rfl := sj h
           refine Ac (sm [] [(4, iD 1)] [] rfl rfl) (Al ?_)
           exact ⟨⟨[_], tm, rfl⟩, tv⟩
          ·refine Ag (Ad Ap rfl (qm rfl (AE rfl (qe rfl ?_))))
           exact sn [] h
         ·refine AJ ?_
          exact sn [] h
        ·refine Ac hs (wq rfl (qe rfl ?_))
         obtain rfl := sj h
         refine Ac (sm [] [(4, iD 0)] [] rfl rfl) (Al ?_)
         exact ⟨⟨[_], tm, rfl⟩, tv⟩
theorem HM (N : Nat) (p0 : Ae) (r : Int) (h : B7 N p0 = some r) : Ak zA0 33 [.e (.agg (Ai p0))] [] (iD r) := by
 unfold B7 at h
 refine cw (n := 102) (rs := [.tmp 2]) Tryz.func33 fun w0 S0 => ?_
 refine wq rfl (qb rfl (qa rfl (Aa (Ay ?_))))
 refine AG h (fun v1 => mk [(1, oD (.ptr 1 0)), (16, bD v1)] [(1, .box (Ai p0))]) (fun j1 h => ?_) (fun v1 h => ?_)
 ·refine Ad Ap rfl (qf B4 rfl (ql Bx rfl (AD AC rfl (DK rfl (qm rfl ?_)))))
  refine DE 11 h rfl (fun h => ?_) fun h => ?_
  ·refine qw 4 rfl (qp rfl (Aa ?_))
   exact sn [] h
  ·refine qf CC rfl (ql Hr rfl (AD Dv rfl (DK rfl (qp rfl (Aa ?_)))))
   exact sn [] h
 ·refine A0 h (fun h => ?_) fun h => ?_
  ·refine wq rfl (qe rfl ?_)
   obtain rfl := sj h
   refine Ac (sm [] [(2, iD 3)] [] rfl rfl) (Al ?_)
   exact ⟨⟨[_], tm, rfl⟩, tv⟩
  ·refine Ag (Ay ?_)
   refine AG h (fun v4 => mk [(1, oD (.ptr 1 0)), (32, bD v4)] [(1, .box (Ai p0))]) (fun j4 h => ?_) (fun v4 h => ?_)
   ·refine Ad Ap rfl (qf FU rfl (ql Bx rfl (AD AC rfl (qf B4 rfl (ql Bx rfl (AD AC rfl (BJ rfl (qm rfl ?_))))))))
    refine DE 24 h rfl (fun h => ?_) fun h => ?_
    ·refine qw 7 rfl (qp rfl (Aa ?_))
     exact sn [] h
    ·refine qf GY rfl (ql Bx rfl (AD AC rfl (qf B4 rfl (ql Bx rfl (AD AC rfl (BJ rfl (qp rfl (Aa ?_))))))))
     exact sn [] h
   ·refine A0 h (fun h => ?_) fun h => ?_
    ·refine wq rfl (qe rfl ?_)
     obtain rfl := sj h
     refine Ac (sm [] [(2, iD 6)] [] rfl rfl) (Al ?_)
     exact ⟨⟨[_], tm, rfl⟩, tv⟩
    ·refine Ag (wp rfl (qe rfl ?_))
     refine Av (L := AZ N p0) h (fun v7 => mk [(1, oD (.ptr 1 0)), (3, iD v7)] [(1, .box (Ai p0))]) (fun v8 => mk [(1, oD (.ptr 1 0))] [(1, .box (Ai p0))]) (fun _ _ => rfl) (sm [] _ _ rfl rfl) (fun j7 n7 v7 h => ?_) (fun v8 s h hs => ?_)
     ·unfold AZ at h
      refine wp rfl (qm rfl (qf B4 rfl (ql Bx rfl (AD AC rfl (AN rfl (Aa ?_))))))
      refine A0 h (fun h => ?_) fun h => ?_
      ·refine Ag (Ay (AA (wq rfl (qf B4 rfl (ql Bx rfl (qm rfl ?_))))))
       refine A8 h fun v10 a10 b10 h => qi AC DS a10 (Ab b10) rfl (qk C2 rfl (qe rfl ?_))
       refine AG h (fun v11 => mk [(1, oD (.ptr 1 0)), (3, iD v7), (84, bD v11)] [(1, .box (Ai p0))]) (fun j11 h => ?_) (fun v11 h => ?_)
       ·refine Ad Ap rfl (qm rfl (AN rfl (qm rfl ?_)))
        refine DE 47 h rfl (fun h => ?_) fun h => ?_
        ·refine qw 2 rfl (qp rfl (qw 7 rfl (qp rfl (qw 8 rfl (qp rfl (qw 7 rfl (qp rfl (qw 8 rfl (qp rfl (Aa ?_))))))))))
         exact sn [] h
        ·refine qm rfl (DK rfl (qp rfl (qm rfl ?_)))
         refine DE 51 h rfl (fun h => ?_) fun h => ?_
         ·refine qw 6 rfl (qp rfl (qw 8 rfl (qp rfl (qw 7 rfl (qp rfl (qw 8 rfl (qp rfl (Aa ?_))))))))
          exact sn [] h
         ·refine qf FU rfl (ql Bx rfl (qm rfl ?_))
          refine A8 h fun v14 a14 b14 h => qi AC DS a14 (Ab b14) rfl (qk C2 rfl (AN rfl (qp rfl (qm rfl ?_))))
          refine DE 59 h rfl (fun h => ?_) fun h => ?_
          ·refine qw 7 rfl (qp rfl (qw 7 rfl (qp rfl (qw 8 rfl (qp rfl (Aa ?_))))))
           exact sn [] h
          ·refine qf FU rfl (ql Bx rfl (qm rfl ?_))
           refine A8 h fun v16 a16 b16 h => qi AC DS a16 (Ab b16) rfl (qk C2 rfl (qm rfl (CT rfl (qp rfl (qm rfl ?_)))))
           refine DE 68 h rfl (fun h => ?_) fun h => ?_
           ·refine qw 6 rfl (qp rfl (qw 8 rfl (qp rfl (Aa ?_))))
            exact sn [] h
           ·refine qf GY rfl (ql Bx rfl (qm rfl ?_))
            refine A8 h fun v18 a18 b18 h => qi AC DS a18 (Ab b18) rfl (qk C2 rfl (AN rfl (qp rfl (qm rfl ?_))))
            refine DE 76 h rfl (fun h => ?_) fun h => ?_
            ·refine qw 7 rfl (qp rfl (Aa ?_))
             exact sn [] h
            ·refine qf GY rfl (ql Bx rfl (qm rfl ?_))
             refine A8 h fun v20 a20 b20 h => qi AC DS a20 (Ab b20) rfl (qk C2 rfl (qm rfl (CT rfl (qp rfl (Aa ?_)))))
             exact sn [] h
       ·refine A0 h (fun h => ?_) fun h => ?_
        ·refine wq rfl (qe rfl ?_)
         obtain rfl := sj h
         refine Ac (sm [] [(2, iD 7)] [] rfl rfl) (Al ?_)
         exact ⟨⟨[_], tm, rfl⟩, tv⟩
        ·refine Ag (Ad Ap rfl (qm rfl (AE rfl (qe rfl ?_))))
         exact sn [] h
      ·refine AJ ?_
       exact sn [] h
     ·refine Ac hs (wp rfl (qe rfl ?_))
      refine Av (L := AW N p0) h (fun v22 => mk [(1, oD (.ptr 1 0)), (5, iD v22)] [(1, .box (Ai p0))]) (fun v23 => mk [] []) (fun _ _ => rfl) (sm [] _ _ rfl rfl) (fun j22 n22 v22 h => ?_) (fun v23 s h hs => ?_)
      ·unfold AW at h
       refine wp rfl (qm rfl (qf CC rfl (ql Hr rfl (AD Dv rfl (AN rfl (Aa ?_))))))
       refine A0 h (fun h => ?_) fun h => ?_
       ·refine Ag (Ay (AA (wq rfl (qL CS Cq rfl (qf CC rfl (ql Hr rfl (qm rfl ?_)))))))
        refine A8 h fun v25 a25 b25 h => qi Dv DT a25 (Ab b25) rfl (qK Iq DT rfl ?_)
        refine Bg h fun v26 a26 h => As [] (JE N p0 v25 v26 a26) UR rfl (qa rfl (AF (by kernel_rfl) (wq rfl (qm rfl (BJ rfl (Aa ?_))))))
        refine A0 h (fun h => ?_) fun h => ?_
        ·refine wq rfl (qm rfl (qe rfl ?_))
         obtain rfl := sj h
         refine Ac (sm [] [(2, iD v26)] [] rfl rfl) (Al ?_)
         exact ⟨⟨[_], tm, rfl⟩, tv⟩
        ·refine Ag (Ad Ap rfl (qm rfl (AE rfl (qe rfl ?_))))
         exact sn [] h
       ·refine AJ ?_
        exact sn [] h
      ·refine Ac hs (wq rfl (qe rfl ?_))
       obtain rfl := sj h
       refine Ac (sm [] [(2, iD 0)] [] rfl rfl) (Al ?_)
       exact ⟨⟨[_], tm, rfl⟩, tv⟩
theorem Gd (N : Nat) (r : (List (List Bool))) (h : De N = some r) : Ak zA0 69 [] [(1, r.map (GD eB))] (oD (.own 0)) := by
 unfold De at h
 refine cw (n := 4) (rs := [.tmp 0]) Tryz.func69 fun w0 S0 => ?_
 refine wq rfl (qa rfl (Aa (wq rfl (ED GK Qu RD rfl (ED GK Qu RD rfl (C3 (BQ 1 _ _ rfl rfl) (C3 (BQ 2 _ _ rfl rfl) (ED DD I8 Sd rfl (qe rfl ?_)))))))))
 obtain rfl := sj h
 refine Ac (sm [(1000, 3)] [(0, oD (.own 1000))] [(1000, .vec 1 ((([([true, false] : List Bool), ([false, true] : List Bool)] : List (List Bool))).map (GD eB)))] rfl rfl) (Al ?_)
 exact ⟨⟨[_], tm, rfl⟩, ⟨rfl, tv⟩⟩
theorem EY (N : Nat) (p0 : Bool) (r : Ae) (h : C1 N p0 = some r) : Ak zA0 37 [bD p0] [(1, r.fa.map Aq), (1, r.fk.map Aq), (1, r.fo.map Aq), (6, r.fb.map AO)] (.e (.agg [.own 0, .own 1, .own 2, .own 3])) := by
 unfold C1 at h
 refine cw (n := 17) (rs := [.cell 2 29]) Tryz.func37 fun w0 S0 => ?_
 refine wq rfl (qz M6 rfl (Aa (wq rfl (qa rfl (Aa (wq rfl (ED AC DS KL rfl (ED AC DS KL rfl (ED AC DS KL rfl (qw 2 rfl ?_))))))))))
 refine Bg h fun v1 a1 h => OQ (ds0 := []) [2001] (Gd N v1 a1) (.p rfl) rfl Ua rfl tv rfl rfl rfl (AU rfl) ⟨rfl, tv⟩ rfl ?_
 refine CD KA Td rfl (qw 2 rfl ?_)
 refine Bg h fun v2 a2 h => OQ (ds0 := []) [2002] (Gd N v2 a2) (.p rfl) rfl Ua rfl tv rfl rfl rfl (AU rfl) ⟨rfl, tv⟩ rfl ?_
 refine CD KA Td rfl (C3 (BQ 2001 _ _ rfl rfl) (C3 (BQ 2002 _ _ rfl rfl) (ED Dv DT KA rfl (CD M6 QT rfl (qs Cq rfl (Aa ?_))))))
 obtain rfl := sj h
 refine Ac (sm [(1000, 4), (1001, 5), (1002, 6), (1003, 15)] [(2, oD (.ptr 2 0))] [(2, .box [.own 1000, .own 1001, .own 1002, .own 1003]), (1000, .vec 1 ((([2, 2, 2] : List Int)).map Aq)), (1001, .vec 1 ((([0, 0, 0] : List Int)).map Aq)), (1002, .vec 1 ((([1, 1, 1] : List Int)).map Aq)), (1003, .vec 6 ((([(Aw.mk 1 0 1 p0 v1 (([] : List (List Bool)))), (Aw.mk 1 1 0 p0 v2 (([] : List (List Bool))))] : List Aw)).map AO))] rfl rfl) (Al ?_)
 exact ⟨⟨[_], ⟨.cellN _ _ _ _ _ _ _ rfl rfl CS Cq rfl rfl (K2 rfl), tv⟩, rfl⟩, ⟨rfl, rfl, rfl, rfl, tv⟩⟩
theorem Fe (N : Nat) (p0 : Int) (p1 : Int) (r : Bool) (h : CG N p0 p1 = some r) : Ak zA0 70 [iD p0, iD p1] [] (bD r) := by
 unfold CG at h
 refine cw (n := 12) (rs := [.tmp 4]) Tryz.func70 fun w0 S0 => ?_
 refine wq rfl (qe rfl ?_)
 refine AG h (fun v1 => mk [(4, bD v1)] []) (fun j1 h => ?_) (fun v1 h => ?_)
 ·refine Ad Ap rfl (qm rfl (CT rfl (qm rfl ?_)))
  refine DE 7 h rfl (fun h => ?_) fun h => ?_
  ·refine qw 2 rfl (AN rfl (qp rfl (qe rfl ?_)))
   exact sn [] h
  ·refine qw 3 rfl (qp rfl (qe rfl ?_))
   exact sn [] h
 ·obtain rfl := sj h
  refine Ac (sm [] [(4, bD v1)] [] rfl rfl) (Al ?_)
  exact ⟨⟨[_], tm, rfl⟩, tv⟩
theorem M2 (N : Nat) (p0 : Int) (p1 : Bool) (r : Bool) (h : FJ N p0 p1 = some r) : Ak zA0 100 [iD p0, bD p1] [] (bD r) := by
 unfold FJ at h
 refine cw (n := 23) (rs := [.tmp 4]) Tryz.func100 fun w0 S0 => ?_
 refine wq rfl (qe rfl ?_)
 refine AG h (fun v1 => mk [(4, bD v1)] []) (fun j1 h => ?_) (fun v1 h => ?_)
 ·refine Ad Ap rfl (qm rfl (BW rfl (qm rfl ?_)))
  refine DE 7 h rfl (fun h => ?_) fun h => ?_
  ·refine qw 2 rfl (qp rfl (qw 4 rfl (qu rfl (qu rfl (qw 2 rfl (qu rfl (qu rfl (qn rfl (qp rfl (qe rfl ?_))))))))))
   exact sn [] h
  ·refine qm rfl (BW rfl (qp rfl (qm rfl ?_)))
   refine DE 11 h rfl (fun h => ?_) fun h => ?_
   ·refine qw 3 rfl (qu rfl (qu rfl (qw 2 rfl (qu rfl (qu rfl (qn rfl (qp rfl (qe rfl ?_))))))))
    exact sn [] h
   ·refine qm rfl (BW rfl (qm rfl ?_))
    refine DE 14 h rfl (fun h => ?_) fun h => ?_
    ·refine qw 2 rfl (qp rfl (qw 2 rfl (BN rfl (qp rfl (qp rfl (qe rfl ?_))))))
     exact sn [] h
    ·refine qm rfl (BW rfl (qp rfl (qm rfl ?_)))
     refine DE 18 h rfl (fun h => ?_) fun h => ?_
     ·refine qm rfl (BN rfl (qp rfl (qp rfl (qe rfl ?_))))
      exact sn [] h
     ·refine qw 2 rfl (qp rfl (qp rfl (qe rfl ?_)))
      exact sn [] h
 ·obtain rfl := sj h
  refine Ac (sm [] [(4, bD v1)] [] rfl rfl) (Al ?_)
  exact ⟨⟨[_], tm, rfl⟩, tv⟩
theorem KB (N : Nat) (p0 : List Bool) (p1 : Int) (r : Bool) (h : CY N p0 p1 = some r) : Ak zA0 136 [pD (.sl (p0.map eB)), oD (.rop [.val (.int .i64 p1)])] [] (bD r) := by
 unfold CY at h
 refine cw (n := 8) (rs := [.tmp 3]) Tryz.func136 fun w0 S0 => ?_
 refine wq rfl (qa rfl (Aa (wq rfl (qm rfl (AD GK rfl (qk C2 rfl (BJ rfl (qe rfl ?_))))))))
 obtain rfl := sj h
 refine Ac (sm [] [(3, bD (((p0.length : Int) != p1)))] [] rfl rfl) (Al ?_)
 exact ⟨⟨[_], tm, rfl⟩, tv⟩
theorem He (N : Nat) (p0 : List (List Bool)) (p1 : (List Bool) → Option Bool) (r : Int) (h : Cu N p0 p1 = some r) : Ak zA0 165 [pD (.sl (p0.map (GD eB))), oD (.clo (A9 (I0 false (GD eB)) tB p1))] [] (iD r) := by
 unfold Cu at h
 refine cw (n := 19) (rs := [.tmp 4]) Tryz.func165 fun w0 S0 => ?_
 refine wq rfl (qa rfl (Aa (wp rfl (qm rfl (AD DD rfl (qm rfl (Aa ?_)))))))
 refine Av (L := A1 N p0 p1) h (fun v1 => mk [(0, pD (.sl (p0.map (GD eB)))), (1, oD (.clo (A9 (I0 false (GD eB)) tB p1))), (7, iD ((p0.length : Int))), (8, iD v1)] []) (fun v2 => mk [] []) (fun _ _ => rfl) (sm [] _ _ rfl rfl) (fun j1 n1 v1 h => ?_) (fun v2 s h hs => ?_)
 ·unfold A1 at h
  refine wq rfl (AN rfl (Aa (Ay ?_)))
  refine A0 h (fun h => ?_) fun h => ?_
  ·refine Ag (Ay (AA (wq rfl (qm rfl (qa rfl (Aa (wq rfl (qw 3 rfl ?_))))))))
   refine A8 h fun v4 a4 b4 h => qi DD I8 a4 (Ab b4) rfl (qk L4 rfl ?_)
   refine Bg h fun v5 a5 h => CV (ds0 := [_]) (ar := (I0 false (GD eB)) v4) (.p rfl) rfl rfl ⟨rfl, tv⟩ rfl rfl rfl (C0 (IE _ _ (Te U1)) a5) ?_
   refine Aa ?_
   refine A0 h (fun h => ?_) fun h => ?_
   ·refine wq rfl (qm rfl (qe rfl ?_))
    obtain rfl := sj h
    refine Ac (sm [] [(4, iD v1)] [] rfl rfl) (Al ?_)
    exact ⟨⟨[_], tm, rfl⟩, tv⟩
   ·refine Ag (Ad Ap rfl (AE rfl (qm rfl (Aa ?_))))
    exact sn [] h
  ·refine AJ ?_
   exact sn [] h
 ·refine Ac hs (wq rfl (qe rfl ?_))
  obtain rfl := sj h
  refine Ac (sm [] [(4, iD ((-1)))] [] rfl rfl) (Al ?_)
  exact ⟨⟨[_], tm, rfl⟩, tv⟩
theorem GH (N : Nat) (p0 : List (List Bool)) (p1 : (List Bool) → Option Bool) (r : Bool) (h : B8 N p0 p1 = some r) : Ak zA0 135 [pD (.sl (p0.map (GD eB))), oD (.clo (A9 (I0 false (GD eB)) tB p1))] [] (bD r) := by
 unfold B8 at h
 refine cw (n := 9) (rs := [.tmp 4]) Tryz.func135 fun w0 S0 => ?_
 refine wq rfl (qa rfl (Aa (wq rfl (qw 2 rfl ?_))))
 refine Bg h fun v1 a1 h => As [] (He N p0 p1 v1 a1) TB rfl (CT rfl (qe rfl ?_))
 obtain rfl := sj h
 refine Ac (sm [] [(4, bD ((decide (0 ≤ v1))))] [] rfl rfl) (Al ?_)
 exact ⟨⟨[_], tm, rfl⟩, tv⟩
theorem Je (N : Nat) (p0 : List (List Bool)) (p1 : Int) (p2 : Int) (r : Bool) (h : DY N p0 p1 p2 = some r) : Ak zA0 101 [pD (.sl (p0.map (GD eB))), iD p1, iD p2] [] (bD r) := by
 unfold DY at h
 refine cw (n := 17) (rs := [.tmp 6]) Tryz.func101 fun w0 S0 => ?_
 refine wq rfl (qb rfl (qe rfl ?_))
 refine AG h (fun v1 => mk [(6, bD v1)] []) (fun j1 h => ?_) (fun v1 h => ?_)
 ·refine Ad Ap rfl (qm rfl (AD DD rfl (qm rfl (BW rfl (qm rfl ?_)))))
  refine DE 11 h rfl (fun h => ?_) fun h => ?_
  ·refine qm rfl (C3 (GC 5 [.val (.int .i64 p2)] rfl rfl) ?_)
   refine GP (capD := [_]) (A9 (I0 false (GD eB)) tB ((fun (x : List Bool) => CY N x p2))) (.g rfl rfl) T2 rfl ⟨rfl, tv⟩ rfl (fun ar t ht => by obtain ⟨x, r, rfl, hq, rfl⟩ := Fn ht; exact KB N x p2 r hq) ?_
   refine Bg h fun v3 a3 h => As [] (GH N p0 ((fun (x : List Bool) => CY N x p2)) v3 a3) TI rfl (BN rfl (qp rfl (qe rfl ?_)))
   exact sn [] h
  ·refine qw 4 rfl (qp rfl (qe rfl ?_))
   exact sn [] h
 ·obtain rfl := sj h
  refine Ac (sm [] [(6, bD v1)] [] rfl rfl) (Al ?_)
  exact ⟨⟨[_], tm, rfl⟩, tv⟩
theorem LY (N : Nat) (p0 : Ae) (p1 : Aw) (r : Int) (h : Fa N p0 p1 = some r) : Ak zA0 71 [.e (.agg (Ai p0)), .e (.agg (BH p1))] [] (iD r) := by
 unfold Fa at h
 refine cw (n := 87) (rs := [.tmp 4]) Tryz.func71 fun w0 S0 => ?_
 refine wq rfl (qb rfl (qb rfl (qa rfl (Aa (wp rfl (qf zFS rfl (ql C2 rfl (qf K9 rfl (ql QC rfl ?_)))))))))
 refine Bg h fun v1 a1 h => As [] (M2 N p1.fd p1.fq v1 a1) SM rfl (BN rfl (Aa ?_))
 refine A0 h (fun h => ?_) fun h => ?_
 ·refine wq rfl (qe rfl ?_)
  obtain rfl := sj h
  refine Ac (sm [] [(4, iD 1)] [] rfl rfl) (Al ?_)
  exact ⟨⟨[_], tm, rfl⟩, tv⟩
 ·refine Ag (Ay ?_)
  refine AG h (fun v3 => mk [(2, oD (.ptr 2 0)), (3, oD (.ptr 3 0)), (29, bD v3)] [(2, .box (Ai p0)), (3, .box (BH p1))]) (fun j3 h => ?_) (fun v3 h => ?_)
  ·refine Ad Ap rfl (qf Es rfl (ql C2 rfl (qf B4 rfl (ql Bx rfl (AD AC rfl ?_)))))
   refine Bg h fun v4 a4 h => As [] (Fe N p1.fg ((p0.fa.length : Int)) v4 a4) Qj rfl (BN rfl (qm rfl ?_))
   refine DE 21 h rfl (fun h => ?_) fun h => ?_
   ·refine qw 7 rfl (qp rfl (Aa ?_))
    exact sn [] h
   ·refine qf HU rfl (ql C2 rfl (qf B4 rfl (ql Bx rfl (AD AC rfl ?_))))
    refine Bg h fun v6 a6 h => As [] (Fe N p1.fj ((p0.fa.length : Int)) v6 a6) Qj rfl (BN rfl (qp rfl (Aa ?_)))
    exact sn [] h
  ·refine A0 h (fun h => ?_) fun h => ?_
   ·refine wq rfl (qe rfl ?_)
    obtain rfl := sj h
    refine Ac (sm [] [(4, iD 4)] [] rfl rfl) (Al ?_)
    exact ⟨⟨[_], tm, rfl⟩, tv⟩
   ·refine Ag (wq rfl (qf B4 rfl (ql Bx rfl (qf Es rfl (ql C2 rfl ?_)))))
    refine A8 h fun v8 a8 b8 h => qi AC DS a8 (Ab b8) rfl (qk C2 rfl (qa rfl (Aa (wq rfl (qf zFS rfl (ql C2 rfl (BW rfl (qa rfl (Aa (Ay ?_))))))))))
    refine AG h (fun v9 => mk [(3, oD (.ptr 3 0)), (70, bD v9)] [(3, .box (BH p1))]) (fun j9 h => ?_) (fun v9 h => ?_)
    ·refine Ad Ap rfl (qf FT rfl (ql GF rfl (qm rfl (qf B4 rfl (ql Bx rfl (qf HU rfl (ql C2 rfl ?_)))))))
     refine A8 h fun v10 a10 b10 h => qi AC DS a10 (Ab b10) rfl (qk C2 rfl ?_)
     refine Bg h fun v11 a11 h => As [] (Je N p1.fi v8 v10 v11 a11) Rv rfl (BN rfl (qm rfl ?_))
     refine DE 50 h rfl (fun h => ?_) fun h => ?_
     ·refine qw 2 rfl (qu rfl (qu rfl (qu rfl (qu rfl (qu rfl (qu rfl (qn rfl (qp rfl (qw 4 rfl (qu rfl (qu rfl (qu rfl (qu rfl (qn rfl (qp rfl (AF (by kernel_rfl) ?_))))))))))))))))
      exact sn [] h
     ·refine qw 2 rfl ?_
      refine DE 52 h rfl (fun h => ?_) fun h => ?_
      ·refine qf DN rfl (ql GF rfl (qw 2 rfl ?_))
       refine Bg h fun v14 a14 h => As [] (Je N p1.fh v8 v8 v14 a14) Rv rfl (BN rfl (qp rfl (qp rfl (qm rfl ?_))))
       refine DE 61 h rfl (fun h => ?_) fun h => ?_
       ·refine qw 3 rfl (qu rfl (qu rfl (qu rfl (qu rfl (qn rfl (qp rfl (AF (by kernel_rfl) ?_)))))))
        exact sn [] h
       ·refine qm rfl (BN rfl (qm rfl ?_))
        refine DE 64 h rfl (fun h => ?_) fun h => ?_
        ·refine qf DN rfl (ql GF rfl (AD DD rfl (DK rfl (qp rfl (qp rfl (AF (by kernel_rfl) ?_))))))
         exact sn [] h
        ·refine qw 4 rfl (qp rfl (qp rfl (AF (by kernel_rfl) ?_)))
         exact sn [] h
      ·refine qw 6 rfl (qp rfl (qp rfl (qw 2 rfl (BN rfl (qm rfl ?_)))))
       refine DE 64 h rfl (fun h => ?_) fun h => ?_
       ·refine qf DN rfl (ql GF rfl (AD DD rfl (DK rfl (qp rfl (qp rfl (AF (by kernel_rfl) ?_))))))
        exact sn [] h
       ·refine qw 4 rfl (qp rfl (qp rfl (AF (by kernel_rfl) ?_)))
        exact sn [] h
    ·refine A0 h (fun h => ?_) fun h => ?_
     ·refine wq rfl (qe rfl ?_)
      obtain rfl := sj h
      refine Ac (sm [] [(4, iD 6)] [] rfl rfl) (Al ?_)
      exact ⟨⟨[_], tm, rfl⟩, tv⟩
     ·refine Ag (wp rfl (qf DN rfl (ql GF rfl (AD DD rfl (qm rfl (Aa ?_))))))
      refine Av (L := Cg N p1) h (fun v19 => mk [(3, oD (.ptr 3 0)), (73, iD ((p1.fh.length : Int))), (74, iD v19)] [(3, .box (BH p1))]) (fun v20 => mk [] []) (fun _ _ => rfl) (sm [] _ _ rfl rfl) (fun j19 n19 v19 h => ?_) (fun v20 s h hs => ?_)
      ·unfold Cg at h
       refine wq rfl (AN rfl (Aa (Ay ?_)))
       refine A0 h (fun h => ?_) fun h => ?_
       ·refine Ag (Ay (AA (wq rfl (qm rfl (qa rfl (Aa (wq rfl (qf DN rfl (ql GF rfl (qm rfl ?_))))))))))
        refine A8 h fun v22 a22 b22 h => qi DD I8 a22 (Ab b22) rfl (qk L4 rfl (qm rfl ?_))
        refine A8 h fun v23 a23 b23 h => qi GK Qu a23 (Ab b23) rfl (qk QC rfl (BN rfl (Aa ?_)))
        refine A0 h (fun h => ?_) fun h => ?_
        ·refine wq rfl (qe rfl ?_)
         obtain rfl := sj h
         refine Ac (sm [] [(4, iD 1)] [] rfl rfl) (Al ?_)
         exact ⟨⟨[_], tm, rfl⟩, tv⟩
        ·refine Ag (Ad Ap rfl (AE rfl (qm rfl (Aa ?_))))
         exact sn [] h
       ·refine AJ ?_
        exact sn [] h
      ·refine Ac hs (wq rfl (qe rfl ?_))
       obtain rfl := sj h
       refine Ac (sm [] [(4, iD 0)] [] rfl rfl) (Al ?_)
       exact ⟨⟨[_], tm, rfl⟩, tv⟩
theorem Dg (N : Nat) (p0 : Ae) (r : Int) (h : Bs N p0 = some r) : Ak zA0 38 [.e (.agg (Ai p0))] [] (iD r) := by
 unfold Bs at h
 refine cw (n := 81) (rs := [.tmp 2]) Tryz.func38 fun w0 S0 => ?_
 refine wq rfl (qb rfl (qa rfl (Aa (wq rfl (qf B4 rfl (ql Bx rfl (AD AC rfl (qa rfl (Aa (Ay ?_))))))))))
 refine AG h (fun v1 => mk [(1, oD (.ptr 1 0)), (3, iD ((p0.fa.length : Int))), (19, bD v1)] [(1, .box (Ai p0))]) (fun j1 h => ?_) (fun v1 h => ?_)
 ·refine Ad Ap rfl (qm rfl (DK rfl (qm rfl ?_)))
  refine DE 14 h rfl (fun h => ?_) fun h => ?_
  ·refine qw 4 rfl (qp rfl (Aa ?_))
   exact sn [] h
  ·refine qf CC rfl (ql Hr rfl (AD Dv rfl (DK rfl (qp rfl (Aa ?_)))))
   exact sn [] h
 ·refine A0 h (fun h => ?_) fun h => ?_
  ·refine wq rfl (qe rfl ?_)
   obtain rfl := sj h
   refine Ac (sm [] [(2, iD 3)] [] rfl rfl) (Al ?_)
   exact ⟨⟨[_], tm, rfl⟩, tv⟩
  ·refine Ag (Ay ?_)
   refine AG h (fun v4 => mk [(1, oD (.ptr 1 0)), (31, bD v4)] [(1, .box (Ai p0))]) (fun j4 h => ?_) (fun v4 h => ?_)
   ·refine Ad Ap rfl (qf FU rfl (ql Bx rfl (AD AC rfl (qm rfl (BJ rfl (qm rfl ?_))))))
    refine DE 25 h rfl (fun h => ?_) fun h => ?_
    ·refine qw 5 rfl (qp rfl (Aa ?_))
     exact sn [] h
    ·refine qf GY rfl (ql Bx rfl (AD AC rfl (qm rfl (BJ rfl (qp rfl (Aa ?_))))))
     exact sn [] h
   ·refine A0 h (fun h => ?_) fun h => ?_
    ·refine wq rfl (qe rfl ?_)
     obtain rfl := sj h
     refine Ac (sm [] [(2, iD 6)] [] rfl rfl) (Al ?_)
     exact ⟨⟨[_], tm, rfl⟩, tv⟩
    ·refine Ag (wp rfl (qf B4 rfl (ql Bx rfl (AD AC rfl (qm rfl (Aa ?_))))))
     refine Av (L := Bp N p0) h (fun v7 => mk [(1, oD (.ptr 1 0)), (33, pD (.sl (p0.fa.map Aq))), (34, iD ((p0.fa.length : Int))), (35, iD v7)] [(1, .box (Ai p0))]) (fun v8 => mk [(1, oD (.ptr 1 0))] [(1, .box (Ai p0))]) (fun _ _ => rfl) (sm [] _ _ rfl rfl) (fun j7 n7 v7 h => ?_) (fun v8 s h hs => ?_)
     ·unfold Bp at h
      refine wq rfl (AN rfl (Aa (Ay ?_)))
      refine A0 h (fun h => ?_) fun h => ?_
      ·refine Ag (Ay (AA (wq rfl (qm rfl ?_))))
       refine A8 h fun v10 a10 b10 h => qi AC DS a10 (Ab b10) rfl (qk C2 rfl (qa rfl (qe rfl ?_)))
       refine AG h (fun v11 => mk [(1, oD (.ptr 1 0)), (33, pD (.sl (p0.fa.map Aq))), (34, iD ((p0.fa.length : Int))), (35, iD v7), (65, bD v11)] [(1, .box (Ai p0))]) (fun j11 h => ?_) (fun v11 h => ?_)
       ·refine Ad Ap rfl (qm rfl (AN rfl (qm rfl ?_)))
        refine DE 42 h rfl (fun h => ?_) fun h => ?_
        ·refine qw 2 rfl (qp rfl (qw 9 rfl (qp rfl (qw 9 rfl (qp rfl (Aa ?_))))))
         exact sn [] h
        ·refine qm rfl (DK rfl (qp rfl (qm rfl ?_)))
         refine DE 46 h rfl (fun h => ?_) fun h => ?_
         ·refine qw 8 rfl (qp rfl (qw 9 rfl (qp rfl (Aa ?_))))
          exact sn [] h
         ·refine qf FU rfl (ql Bx rfl (qm rfl ?_))
          refine A8 h fun v14 a14 b14 h => qi AC DS a14 (Ab b14) rfl (qk C2 rfl (qm rfl ?_))
          refine Bg h fun v15 a15 h => As [] (Fe N v14 v10 v15 a15) Qj rfl (BN rfl (qp rfl (qm rfl ?_)))
          refine DE 56 h rfl (fun h => ?_) fun h => ?_
          ·refine qw 8 rfl (qp rfl (Aa ?_))
           exact sn [] h
          ·refine qf GY rfl (ql Bx rfl (qm rfl ?_))
           refine A8 h fun v17 a17 b17 h => qi AC DS a17 (Ab b17) rfl (qk C2 rfl (qm rfl ?_))
           refine Bg h fun v18 a18 h => As [] (Fe N v17 v10 v18 a18) Qj rfl (BN rfl (qp rfl (Aa ?_)))
           exact sn [] h
       ·refine A0 h (fun h => ?_) fun h => ?_
        ·refine wq rfl (qe rfl ?_)
         obtain rfl := sj h
         refine Ac (sm [] [(2, iD 7)] [] rfl rfl) (Al ?_)
         exact ⟨⟨[_], tm, rfl⟩, tv⟩
        ·refine Ag (Ad Ap rfl (AE rfl (qm rfl (Aa ?_))))
         exact sn [] h
      ·refine AJ ?_
       exact sn [] h
     ·refine Ac hs (wp rfl (qf CC rfl (ql Hr rfl (AD Dv rfl (qm rfl (Aa ?_))))))
      refine Av (L := Bl N p0) h (fun v20 => mk [(1, oD (.ptr 1 0)), (68, pD (.sl (p0.fb.map AO))), (69, iD ((p0.fb.length : Int))), (70, iD v20)] [(1, .box (Ai p0))]) (fun v21 => mk [] []) (fun _ _ => rfl) (sm [] _ _ rfl rfl) (fun j20 n20 v20 h => ?_) (fun v21 s h hs => ?_)
      ·unfold Bl at h
       refine wq rfl (AN rfl (Aa (Ay ?_)))
       refine A0 h (fun h => ?_) fun h => ?_
       ·refine Ag (Ay (AA (wq rfl ?_)))
        refine A8 h fun v23 a23 b23 h => qi Dv DT a23 (Ab b23) rfl (qK Iq DT rfl (qz KA rfl (qs DT rfl (Aa (wq rfl (qL CS Cq rfl (qL Iq DT rfl ?_)))))))
        refine Bg h fun v24 a24 h => As [] (LY N p0 v23 v24 a24) UP rfl (qa rfl (Aa (wq rfl (qm rfl (BJ rfl (Aa ?_))))))
        refine A0 h (fun h => ?_) fun h => ?_
        ·refine wq rfl (qm rfl (qe rfl ?_))
         obtain rfl := sj h
         refine Ac (sm [] [(2, iD v24)] [] rfl rfl) (Al ?_)
         exact ⟨⟨[_], tm, rfl⟩, tv⟩
        ·refine Ag (Ad Ap rfl (AE rfl (qm rfl (Aa ?_))))
         exact sn [] h
       ·refine AJ ?_
        exact sn [] h
      ·refine Ac hs (wq rfl (qe rfl ?_))
       obtain rfl := sj h
       refine Ac (sm [] [(2, iD 0)] [] rfl rfl) (Al ?_)
       exact ⟨⟨[_], tm, rfl⟩, tv⟩
theorem J8 (N : Nat) (p0 : Int) (r : Int) (h : F6 N p0 = some r) : Ak zA0 148 [pD (.val (.int .u32 p0))] [] (iD r) := by
 unfold F6 at h
 refine cw (n := 19) (rs := [.tmp 2]) Tryz.func148 fun w0 S0 => ?_
 refine wq rfl (qe rfl ?_)
 refine AG h (fun v1 => mk [(0, pD (.val (.int .u32 v1.1))), (2, iD v1.2)] []) (fun j1 h => ?_) (fun v1 h => ?_)
 ·refine wq rfl (qm rfl (CT rfl (Aa ?_)))
  refine A0 h (fun h => ?_) fun h => ?_
  ·refine wq rfl (qm rfl (ES rfl (by decide) (qa rfl (Aa (Ad Ap rfl (qe rfl ?_))))))
   exact sn [] h
  ·refine Ag ?_
   exact sn [] h
 ·refine AG h (fun v3 => mk [(0, pD (.val (.int .u32 v3.1))), (2, iD v3.2)] []) (fun j3 h => ?_) (fun v3 h => ?_)
  ·refine wq rfl (qm rfl (CT rfl (Aa ?_)))
   refine A0 h (fun h => ?_) fun h => ?_
   ·refine wq rfl (qm rfl (ES rfl (by decide) (qa rfl (Aa (Ad Ap rfl (qm rfl (AE rfl (qe rfl ?_))))))))
    exact sn [] h
   ·refine Ag ?_
    exact sn [] h
  ·refine wq rfl (qw 2 rfl (GG Nq Ux rfl ?_))
   refine Bg h fun v5 a5 h => GS (.p rfl) rfl rfl Nl a5 ?_
   refine GG Uw RA rfl (AE rfl (qe rfl ?_))
   obtain rfl := sj h
   refine Ac (sm [] [(2, iD ((wI .i64 (v3.2 + (wI .i64 v5)))))] [] rfl rfl) (Al ?_)
   exact ⟨⟨[_], tm, rfl⟩, tv⟩
theorem Km (N : Nat) (p0 : Int) (r : Int) (h : F3 N p0 = some r) : Ak zA0 149 [pD (.val (.int .u64 p0))] [] (iD r) := by
 unfold F3 at h
 refine cw (n := 25) (rs := [.tmp 2]) Tryz.func149 fun w0 S0 => ?_
 refine wq rfl (qe rfl ?_)
 refine AG h (fun v1 => mk [(0, pD (.val (.int .u64 v1.1))), (2, iD v1.2)] []) (fun j1 h => ?_) (fun v1 h => ?_)
 ·refine wq rfl (qm rfl (CT rfl (Aa ?_)))
  refine A0 h (fun h => ?_) fun h => ?_
  ·refine wq rfl (qm rfl (ES rfl (by decide) (qa rfl (Aa (Ad Ap rfl (qe rfl ?_))))))
   exact sn [] h
  ·refine Ag ?_
   exact sn [] h
 ·refine AG h (fun v3 => mk [(0, pD (.val (.int .u64 v3.1))), (2, iD v3.2)] []) (fun j3 h => ?_) (fun v3 h => ?_)
  ·refine wq rfl (qm rfl (CT rfl (Aa ?_)))
   refine A0 h (fun h => ?_) fun h => ?_
   ·refine wq rfl (qm rfl (ES rfl (by decide) (qa rfl (Aa (Ad Ap rfl (qm rfl (AE rfl (qe rfl ?_))))))))
    exact sn [] h
   ·refine Ag ?_
    exact sn [] h
  ·refine AG h (fun v5 => mk [(0, pD (.val (.int .u64 v5.1))), (2, iD v5.2)] []) (fun j5 h => ?_) (fun v5 h => ?_)
   ·refine wq rfl (qm rfl (CT rfl (Aa ?_)))
    refine A0 h (fun h => ?_) fun h => ?_
    ·refine wq rfl (qm rfl (ES rfl (by decide) (qa rfl (Aa (Ad Ap rfl (qm rfl (AE rfl (qe rfl ?_))))))))
     exact sn [] h
    ·refine Ag ?_
     exact sn [] h
   ·refine wq rfl (qw 2 rfl (GG OX Ux rfl ?_))
    refine Bg h fun v7 a7 h => GS (.p rfl) rfl rfl Nl a7 ?_
    refine GG Uw RA rfl (AE rfl (qe rfl ?_))
    obtain rfl := sj h
    refine Ac (sm [] [(2, iD ((wI .i64 (v5.2 + (wI .i64 v7)))))] [] rfl rfl) (Al ?_)
    exact ⟨⟨[_], tm, rfl⟩, tv⟩
theorem IU (N : Nat) (p0 : Int) (r : Int) (h : Fx N p0 = some r) : Ak zA0 112 [pD (.val (.int .u64 p0))] [] (iD r) := by
 unfold Fx at h
 refine cw (n := 8) (rs := [.tmp 2]) Tryz.func112 fun w0 S0 => ?_
 refine wq rfl (qa rfl (Aa (Ay ?_)))
 refine A0 h (fun h => ?_) fun h => ?_
 ·refine wq rfl (qm rfl (GG Oc Mu rfl ?_))
  refine Bg h fun v2 a2 h => As [] (J8 N ((wI .u32 p0)) v2 a2) Th rfl (qe rfl ?_)
  obtain rfl := sj h
  refine Ac (sm [] [(2, iD v2)] [] rfl rfl) (Al ?_)
  exact ⟨⟨[_], tm, rfl⟩, tv⟩
 ·refine Ag (wq rfl (qm rfl ?_))
  refine Bg h fun v3 a3 h => As [] (Km N p0 v3 a3) SO rfl (qe rfl ?_)
  obtain rfl := sj h
  refine Ac (sm [] [(2, iD v3)] [] rfl rfl) (Al ?_)
  exact ⟨⟨[_], tm, rfl⟩, tv⟩
theorem F8 (N : Nat) (p0 : List Int) (p1 : Int) (p2 : Int) (p3 : (Int × Int) → Option Int) (r : (List Int)) (h : Cz N p0 p1 p2 p3 = some r) : Bi zA0 140 [oD (.own 90000), iD p1, iD p2, oD (.clo (A9 (Dz false Aj false Aj) By p3))] [(.vec 1 (p0.map Aj), .vec 1 (r.map Aj))] [] (.tup []) := by
 unfold Cz at h
 refine A3 (n := 53) (rs := []) Tryz.func140 rfl rfl rfl (CH rfl) (CH rfl) rfl rfl (CH rfl) rfl (CH rfl) fun w0 S0 GL => KV ?_
 refine Ac (sm [] [(0, oD (.own 90000)), (1, iD p1), (2, iD p2), (3, oD (.clo (A9 (Dz false Aj false Aj) By p3)))] [(90000, .vec 1 (p0.map Aj))] rfl rfl) (wq rfl (qm rfl (AE rfl (qe rfl ?_))))
 refine Av (L := BA N p1 p2 p3) h (fun v1 => mk [(0, oD (.own 90000)), (1, iD p1), (2, iD p2), (3, oD (.clo (A9 (Dz false Aj false Aj) By p3))), (8, iD v1.2)] [(90000, .vec 1 (v1.1.map Aj))]) (fun v2 => mk [] [(90000, .vec 1 (v2.map Aj))]) (fun _ _ => rfl) (sm [] _ _ rfl rfl) (fun j1 n1 v1 h => ?_) (fun v2 s h hs => ?_)
 ·unfold BA at h
  refine wp rfl (qw 2 rfl (AN rfl (Aa ?_)))
  refine A0 h (fun h => ?_) fun h => ?_
  ·refine Ag (Ay (AA (wq rfl (qm rfl (qe rfl ?_)))))
   refine Av (L := Bz N p1 p3) h (fun v4 => mk [(0, oD (.own 90000)), (1, iD p1), (2, iD p2), (3, oD (.clo (A9 (Dz false Aj false Aj) By p3))), (8, iD v1.2), (9, iD v4.2)] [(90000, .vec 1 (v4.1.map Aj))]) (fun v5 => mk [(0, oD (.own 90000)), (1, iD p1), (2, iD p2), (3, oD (.clo (A9 (Dz false Aj false Aj) By p3))), (8, iD v1.2)] [(90000, .vec 1 (v5.map Aj))]) (fun _ _ => rfl) (sm [] _ _ rfl rfl) (fun j4 n4 v4 h => ?_) (fun v5 s h hs => ?_)
   ·unfold Bz at h
    refine Ay ?_
    refine AG h (fun v6 => mk [(0, oD (.own 90000)), (1, iD p1), (2, iD p2), (3, oD (.clo (A9 (Dz false Aj false Aj) By p3))), (8, iD v1.2), (9, iD v4.2), (34, bD v6)] [(90000, .vec 1 (v4.1.map Aj))]) (fun j6 h => ?_) (fun v6 h => ?_)
    ·refine Ad Ap rfl (qw 2 rfl (DK rfl (qm rfl ?_)))
     refine DE 21 h rfl (fun h => ?_) fun h => ?_
     ·refine qw 3 rfl ?_
      refine A8 h fun v8 a8 b8 h => qI AK AS a8 (Ab b8) rfl (qj Ch (Ab b8) rfl (qw 2 rfl (BP rfl ?_)))
      refine A8 h fun v9 a9 b9 h => qI AK AS a9 (Ab b9) rfl (qj Ch (Ab b9) rfl ?_)
      refine Bg h fun v10 a10 h => CV (ds0 := [_, _]) (ar := (Dz false Aj false Aj) ((v8, v9))) (.g rfl rfl) rfl rfl ⟨rfl, rfl, tv⟩ rfl rfl rfl (C0 (Ep _ _ _ _ CP CP) a10) ?_
      refine AN rfl (qp rfl (AF (by kernel_rfl) ?_))
      exact sn [] h
     ·refine qw 12 rfl (qp rfl (AF (by kernel_rfl) ?_))
      exact sn [] h
    ·refine A0 h (fun h => ?_) fun h => ?_
     ·refine Ag (Ay (AA (Ad Ap rfl (qw 4 rfl (BP rfl (qw 2 rfl (BP rfl ?_)))))))
      refine A8 h fun v12 a12 b12 h => qI AK AS a12 (Ab b12) rfl (qj Ch (Ab b12) rfl (qw 2 rfl ?_))
      refine A8 h fun v13 a13 b13 h => qI AK AS a13 (Ab b13) rfl (qj Ch (Ab b13) rfl ?_)
      refine A8 h fun v14 a14 b14 h => qI AK AS a14 (Ab b14) rfl ?_
      refine AV rfl rfl rfl rfl (Ab b14) rfl AS rfl (CH rfl) (AT Aj v4.1 _ v12) ?_
      refine A8 h fun v15 a15 b15 h => qI AK AS a15 (Ab b15) rfl ?_
      refine AV rfl rfl rfl rfl (Ab b15) rfl AS rfl (CH rfl) (AT Aj (v4.1.set ((v4.2).toNat) v12) _ v13) ?_
      refine AF (by kernel_rfl) (Ad Ap rfl (qm rfl (BP rfl (qe rfl ?_))))
      exact sn [] h
     ·refine AJ ?_
      exact sn [] h
   ·refine Ac hs (Ad Ap rfl (qm rfl (AE rfl (qe rfl ?_))))
    exact sn [] h
  ·refine AJ ?_
   exact sn [] h
 ·obtain rfl := sj h
  refine ⟨_, hs.trans (sm [] [] [(90000, .vec 1 (v2.map Aj))] rfl rfl), ?_⟩
  exact ⟨⟨[], tv, rfl⟩, ⟨rfl, tv⟩, tv⟩
theorem EG (N : Nat) (p0 : List Int) (p1 : Int) (p2 : Int) (p3 : Int) (p4 : (Int × Int) → Option Int) (r : (List Int)) (h : Ci N p0 p1 p2 p3 p4 = some r) : Bi zA0 168 [oD (.own 90000), iD p1, iD p2, iD p3, oD (.clo (A9 (Dz false Aj false Aj) By p4))] [(.vec 1 (p0.map Aj), .vec 1 (r.map Aj))] [] (.tup []) := by
 unfold Ci at h
 refine A3 (n := 82) (rs := []) Tryz.func168 rfl rfl rfl (CH rfl) (CH rfl) rfl rfl (CH rfl) rfl (CH rfl) fun w0 S0 GL => KV ?_
 refine Ac (sm [] [(0, oD (.own 90000)), (1, iD p1), (2, iD p2), (3, iD p3), (4, oD (.clo (A9 (Dz false Aj false Aj) By p4)))] [(90000, .vec 1 (p0.map Aj))] rfl rfl) (wq rfl (qm rfl (qe rfl ?_)))
 refine Av (L := B3 N p2 p3 p4) h (fun v1 => mk [(0, oD (.own 90000)), (2, iD p2), (3, iD p3), (4, oD (.clo (A9 (Dz false Aj false Aj) By p4))), (10, iD v1.2)] [(90000, .vec 1 (v1.1.map Aj))]) (fun v2 => mk [] [(90000, .vec 1 (v2.map Aj))]) (fun _ _ => rfl) (sm [] _ _ rfl rfl) (fun j1 n1 v1 h => ?_) (fun v2 s h hs => ?_)
 ·unfold B3 at h
  refine AA (wq rfl (qm rfl (Iv rfl (AE rfl (qa rfl (Aa (wp rfl (qw 2 rfl (CT rfl (Aa ?_))))))))))
  refine A0 h (fun h => ?_) fun h => ?_
  ·refine AJ ?_
   exact sn [] h
  ·refine Ag ?_
   refine AG h (fun v4 => mk [(0, oD (.own 90000)), (2, iD p2), (3, iD p3), (4, oD (.clo (A9 (Dz false Aj false Aj) By p4))), (10, iD v1.2), (11, iD v4)] [(90000, .vec 1 (v1.1.map Aj))]) (fun j4 h => ?_) (fun v4 h => ?_)
   ·refine AG h (fun v5 => mk [(0, oD (.own 90000)), (2, iD p2), (3, iD p3), (4, oD (.clo (A9 (Dz false Aj false Aj) By p4))), (10, iD v1.2), (11, iD ((wI .i64 ((wI .i64 (2 * v1.2)) + 1)))), (40, bD v5)] [(90000, .vec 1 (v1.1.map Aj))]) (fun j5 h => ?_) (fun v5 h => ?_)
    ·refine Ad Ap rfl (qm rfl (AE rfl (qm rfl (AN rfl (qm rfl ?_)))))
     refine DE 23 h rfl (fun h => ?_) fun h => ?_
     ·refine qw 4 rfl (AE rfl ?_)
      refine A8 h fun v7 a7 b7 h => qI AK AS a7 (Ab b7) rfl (qj Ch (Ab b7) rfl (qw 3 rfl (AE rfl (AE rfl ?_))))
      refine A8 h fun v8 a8 b8 h => qI AK AS a8 (Ab b8) rfl (qj Ch (Ab b8) rfl ?_)
      refine Bg h fun v9 a9 h => CV (ds0 := [_, _]) (ar := (Dz false Aj false Aj) ((v7, v8))) (.g rfl rfl) rfl rfl ⟨rfl, rfl, tv⟩ rfl rfl rfl (C0 (Ep _ _ _ _ CP CP) a9) ?_
      refine AN rfl (qp rfl (AF (by kernel_rfl) ?_))
      exact sn [] h
     ·refine qw 16 rfl (qp rfl (AF (by kernel_rfl) ?_))
      exact sn [] h
    ·refine A0 h (fun h => ?_) fun h => ?_
     ·refine Ad Ap rfl (qm rfl (AE rfl (qe rfl ?_)))
      exact sn [] h
     ·refine Ag ?_
      exact sn [] h
   ·refine wp rfl (qw 4 rfl (AE rfl ?_))
    refine A8 h fun v11 a11 b11 h => qI AK AS a11 (Ab b11) rfl (qj Ch (Ab b11) rfl (qw 3 rfl (AE rfl ?_)))
    refine A8 h fun v12 a12 b12 h => qI AK AS a12 (Ab b12) rfl (qj Ch (Ab b12) rfl ?_)
    refine Bg h fun v13 a13 h => CV (ds0 := [_, _]) (ar := (Dz false Aj false Aj) ((v11, v12))) (.p rfl) rfl rfl ⟨rfl, rfl, tv⟩ rfl rfl rfl (C0 (Ep _ _ _ _ CP CP) a13) ?_
    refine AN rfl (BN rfl (AF (by kernel_rfl) ?_))
    refine A0 h (fun h => ?_) fun h => ?_
    ·obtain rfl := sj h
     refine Al ⟨_, (sm [] [] [(90000, .vec 1 (v1.1.map Aj))] rfl rfl), ?_⟩
     exact ⟨⟨[], tv, rfl⟩, ⟨rfl, tv⟩, tv⟩
    ·refine Ag (wq rfl (qw 3 rfl (AE rfl (qw 3 rfl (AE rfl (qw 3 rfl (AE rfl ?_)))))))
     refine A8 h fun v15 a15 b15 h => qI AK AS a15 (Ab b15) rfl (qj Ch (Ab b15) rfl (qw 3 rfl (AE rfl ?_)))
     refine A8 h fun v16 a16 b16 h => qI AK AS a16 (Ab b16) rfl (qj Ch (Ab b16) rfl ?_)
     refine A8 h fun v17 a17 b17 h => qI AK AS a17 (Ab b17) rfl ?_
     refine AV rfl rfl rfl rfl (Ab b17) rfl AS rfl (CH rfl) (AT Aj v1.1 _ v15) ?_
     refine A8 h fun v18 a18 b18 h => qI AK AS a18 (Ab b18) rfl ?_
     refine AV rfl rfl rfl rfl (Ab b18) rfl AS rfl (CH rfl) (AT Aj (v1.1.set (((wI .i64 (p3 + v1.2))).toNat) v15) _ v16) ?_
     refine AF (by kernel_rfl) (Ad Ap rfl (qm rfl (qe rfl ?_)))
     exact sn [] h
 ·obtain rfl := sj h
  refine ⟨_, hs.trans (sm [] [] [(90000, .vec 1 (v2.map Aj))] rfl rfl), ?_⟩
  exact ⟨⟨[], tv, rfl⟩, ⟨rfl, tv⟩, tv⟩
theorem G7 (N : Nat) (p0 : List Int) (p1 : Int) (p2 : Int) (p3 : (Int × Int) → Option Int) (r : (List Int)) (h : Da N p0 p1 p2 p3 = some r) : Bi zA0 141 [oD (.own 90000), iD p1, iD p2, oD (.clo (A9 (Dz false Aj false Aj) By p3))] [(.vec 1 (p0.map Aj), .vec 1 (r.map Aj))] [] (.tup []) := by
 unfold Da at h
 refine A3 (n := 60) (rs := []) Tryz.func141 rfl rfl rfl (CH rfl) (CH rfl) rfl rfl (CH rfl) rfl (CH rfl) fun w0 S0 GL => KV ?_
 refine Ac (sm [] [(0, oD (.own 90000)), (1, iD p1), (2, iD p2), (3, oD (.clo (A9 (Dz false Aj false Aj) By p3)))] [(90000, .vec 1 (p0.map Aj))] rfl rfl) (wq rfl (qm rfl (qa rfl (Aa (wq rfl (qa rfl (Aa (wq rfl (qw 2 rfl (BP rfl (qa rfl (Aa (wp rfl (qm rfl (BP rfl (Lk rfl (by decide) (qe rfl ?_)))))))))))))))))
 refine Av (L := B2 N p1 p2 p3) h (fun v1 => mk [(0, oD (.own 90000)), (3, oD (.clo (A9 (Dz false Aj false Aj) By p3))), (8, iD p1), (9, iD 0), (10, iD ((wI .i64 (p2 - p1)))), (11, iD v1.2)] [(90000, .vec 1 (v1.1.map Aj))]) (fun v2 => mk [(0, oD (.own 90000)), (3, oD (.clo (A9 (Dz false Aj false Aj) By p3))), (8, iD p1), (9, iD 0), (10, iD ((wI .i64 (p2 - p1))))] [(90000, .vec 1 (v2.map Aj))]) (fun _ _ => rfl) (sm [] _ _ rfl rfl) (fun j1 n1 v1 h => ?_) (fun v2 s h hs => ?_)
 ·unfold B2 at h
  refine wp rfl (qm rfl (CT rfl (Aa ?_)))
  refine A0 h (fun h => ?_) fun h => ?_
  ·refine Ag (Ay (AA (Ad Ap rfl (qw 5 rfl ?_))))
   refine Bg h fun v4 a4 h => Cl (ds0 := [_, _, _, _, _]) [90000] [] [true] (EG N v1.1 v1.2 ((wI .i64 (p2 - p1))) p1 p3 v4 a4) (.p rfl) RG rfl ⟨rfl, rfl, rfl, rfl, rfl, tv⟩ rfl rfl (by decide) ⟨rfl, tv⟩ rfl (AU rfl) tv ⟨(fun h => by cases h), tv⟩ rfl rfl rfl ?_
   refine Aa (Ad Ap rfl (qm rfl (BP rfl (qe rfl ?_))))
   exact sn [] h
  ·refine AJ ?_
   exact sn [] h
 ·refine Ac hs (wq rfl (qm rfl (BP rfl (qe rfl ?_))))
  refine Av (L := B0 N p1 p3) h (fun v5 => mk [(0, oD (.own 90000)), (3, oD (.clo (A9 (Dz false Aj false Aj) By p3))), (8, iD p1), (9, iD 0), (12, iD v5.2)] [(90000, .vec 1 (v5.1.map Aj))]) (fun v6 => mk [] [(90000, .vec 1 (v6.map Aj))]) (fun _ _ => rfl) (sm [] _ _ rfl rfl) (fun j5 n5 v5 h => ?_) (fun v6 s h hs => ?_)
  ·unfold B0 at h
   refine wp rfl (qm rfl (CT rfl (Aa ?_)))
   refine A0 h (fun h => ?_) fun h => ?_
   ·refine Ag (Ay (AA (wq rfl (qw 5 rfl (AE rfl (qw 3 rfl (AE rfl ?_)))))))
    refine A8 h fun v8 a8 b8 h => qI AK AS a8 (Ab b8) rfl (qj Ch (Ab b8) rfl (qw 2 rfl ?_))
    refine A8 h fun v9 a9 b9 h => qI AK AS a9 (Ab b9) rfl (qj Ch (Ab b9) rfl ?_)
    refine A8 h fun v10 a10 b10 h => qI AK AS a10 (Ab b10) rfl ?_
    refine AV rfl rfl rfl rfl (Ab b10) rfl AS rfl (CH rfl) (AT Aj v5.1 _ v8) ?_
    refine A8 h fun v11 a11 b11 h => qI AK AS a11 (Ab b11) rfl ?_
    refine AV rfl rfl rfl rfl (Ab b11) rfl AS rfl (CH rfl) (AT Aj (v5.1.set ((p1).toNat) v8) _ v9) ?_
    refine AF (by kernel_rfl) (Ad Ap rfl (qw 5 rfl ?_))
    refine Bg h fun v12 a12 h => Cl (ds0 := [_, _, _, _, _]) [90000] [] [true] (EG N ((v5.1.set ((p1).toNat) v8).set (((wI .i64 (p1 + v5.2))).toNat) v9) 0 v5.2 p1 p3 v12 a12) (.p rfl) RG rfl ⟨rfl, rfl, rfl, rfl, rfl, tv⟩ rfl rfl (by decide) ⟨rfl, tv⟩ rfl (AU rfl) tv ⟨(fun h => by cases h), tv⟩ rfl rfl rfl ?_
    refine Aa (Ad Ap rfl (qm rfl (BP rfl (qe rfl ?_))))
    exact sn [] h
   ·refine AJ ?_
    exact sn [] h
  ·obtain rfl := sj h
   refine ⟨_, hs.trans (sm [] [] [(90000, .vec 1 (v6.map Aj))] rfl rfl), ?_⟩
   exact ⟨⟨[], tv, rfl⟩, ⟨rfl, tv⟩, tv⟩
theorem Ir (N : Nat) (p0 : Int) (r : Int) (h : Ef N p0 = some r) : Ak zA0 169 [iD p0] [] (pD (.val (.int .u64 r))) := by
 unfold Ef at h
 refine cw (n := 7) (rs := [.tmp 2]) Tryz.func169 fun w0 S0 => ?_
 refine wq rfl (qa rfl (Aa (wq rfl (qm rfl (GG Ry Or rfl ?_)))))
 refine Bg h fun v1 a1 h => As [] (IU N ((wI .u64 p0)) v1 a1) Rx rfl ?_
 refine Il h fun c2 h => IT rfl c2 (qe rfl ?_)
 obtain rfl := sj h
 refine Ac (sm [] [(2, pD (.val (.int .u64 ((DJ .u64 1 v1)))))] [] rfl rfl) (Al ?_)
 exact ⟨⟨[_], tm, rfl⟩, tv⟩
theorem IR (N : Nat) (p0 : Int) (r : Int × Int) (h : EB N p0 = some r) : Bi zA0 170 [oD (.ptr 90000 0)] [(.box [.pure (.val (.int .u64 p0))], .box [.pure (.val (.int .u64 r.2))])] [] (pD (.val (.int .u64 r.1))) := by
 unfold EB at h
 refine A3 (n := 33) (rs := [.tmp 2]) Tryz.func170 rfl rfl rfl (CH rfl) (CH rfl) rfl rfl (CH rfl) rfl (CH rfl) fun w0 S0 GL => ?_
 refine Ac (sm [] [(0, oD (.ptr 90000 0))] [(90000, .box [.pure (.val (.int .u64 p0))])] rfl rfl) (wq rfl (qa rfl (Aa (wq rfl (qm rfl (L3 rfl (ql Lu rfl (qm rfl (L3 rfl (ql Lu rfl (IT rfl (by decide) (Pu rfl (L3 rfl (qs OW rfl (AF (by kernel_rfl) (wq rfl (qm rfl (L3 rfl (ql Lu rfl (qm rfl (L3 rfl (ql Lu rfl (ES rfl (by decide) (Pu rfl (L3 rfl (qs OW rfl (AF (by kernel_rfl) (wq rfl (qm rfl (L3 rfl (ql Lu rfl (qm rfl (L3 rfl (ql Lu rfl (IT rfl (by decide) ?_)))))))))))))))))))))))))))))))))))
 refine Pu rfl (L3 rfl (qs OW rfl (AF (by kernel_rfl) (wq rfl (qm rfl (L3 rfl (ql Lu rfl (qe rfl ?_))))))))
 obtain rfl := sj h
 refine Ac (sm [] [(2, pD (.val (.int .u64 ((F5 .u64 ((F5 .u64 ((F5 .u64 p0 ((DJ .u64 p0 13)))) ((AL .u64 ((F5 .u64 p0 ((DJ .u64 p0 13)))) 7)))) ((DJ .u64 ((F5 .u64 ((F5 .u64 p0 ((DJ .u64 p0 13)))) ((AL .u64 ((F5 .u64 p0 ((DJ .u64 p0 13)))) 7)))) 17)))))))] [(90000, .box [.pure (.val (.int .u64 ((F5 .u64 ((F5 .u64 ((F5 .u64 p0 ((DJ .u64 p0 13)))) ((AL .u64 ((F5 .u64 p0 ((DJ .u64 p0 13)))) 7)))) ((DJ .u64 ((F5 .u64 ((F5 .u64 p0 ((DJ .u64 p0 13)))) ((AL .u64 ((F5 .u64 p0 ((DJ .u64 p0 13)))) 7)))) 17))))))])] rfl rfl) (Al ?_)
 exact ⟨⟨[_], tm, rfl⟩, ⟨rfl, tv⟩, tv⟩
theorem F0 (N : Nat) (p0 : List Int) (p1 : Int) (p2 : Int) (p3 : (Int × Int) → Option Int) (r : (List Int)) (h : CA N p0 p1 p2 p3 = some r) : Bi zA0 142 [oD (.own 90000), iD p1, iD p2, oD (.clo (A9 (Dz false Aj false Aj) By p3))] [(.vec 1 (p0.map Aj), .vec 1 (r.map Aj))] [] (.tup []) := by
 unfold CA at h
 refine A3 (n := 67) (rs := []) Tryz.func142 rfl rfl rfl (CH rfl) (CH rfl) rfl rfl (CH rfl) rfl (CH rfl) fun w0 S0 GL => KV ?_
 refine Ac (sm [] [(0, oD (.own 90000)), (1, iD p1), (2, iD p2), (3, oD (.clo (A9 (Dz false Aj false Aj) By p3)))] [(90000, .vec 1 (p0.map Aj))] rfl rfl) (wq rfl (qw 2 rfl (BP rfl (qa rfl (Aa (wq rfl (qm rfl (CT rfl (Aa ?_)))))))))
 refine A0 h (fun h => ?_) fun h => ?_
 ·refine wq rfl (qm rfl (GG Ry SJ rfl (qz T6 rfl (qs OW rfl (Aa (wq rfl (qm rfl ?_)))))))
  refine Bg h fun v2 a2 h => As [] (Ir N ((wI .i64 (p2 - p1))) v2 a2) TT rfl (qa rfl (Aa (wq rfl (qw 2 rfl (Lk rfl (by decide) (Iv rfl (AE rfl (BP rfl (qe rfl ?_)))))))))
  refine Av (L := BC N p1 p2 v2) h (fun v3 => mk [(0, oD (.own 90000)), (1, iD p1), (8, iD ((wI .i64 (p2 - p1)))), (9, oD (.ptr 9 0)), (10, pD (.val (.int .u64 v2))), (11, iD v3.2.2)] [(9, .box [.pure (.val (.int .u64 v3.2.1))]), (90000, .vec 1 (v3.1.map Aj))]) (fun v4 => mk [] [(90000, .vec 1 (v4.map Aj))]) (fun _ _ => rfl) (sm [] _ _ rfl rfl) (fun j3 n3 v3 h => ?_) (fun v4 s h hs => ?_)
  ·unfold BC at h
   refine wp rfl (qw 3 rfl (Lk rfl (by decide) (Iv rfl (AE rfl (AE rfl (Ka rfl (Aa ?_)))))))
   refine A0 h (fun h => ?_) fun h => ?_
   ·refine Ag (Ay (AA (wq rfl ?_)))
    refine Bg h fun v6 a6 h => Cl (ds0 := [_]) [9] [] [true] (IR N v3.2.1 v6 a6) (.p rfl) TM rfl ⟨rfl, tv⟩ rfl rfl (by decide) ⟨rfl, tv⟩ rfl (AU rfl) tv ⟨(fun h => by cases h), tv⟩ rfl rfl rfl ?_
    refine qm rfl (BP rfl (GJ rfl (GG Oc RA rfl (qe rfl ?_))))
    refine AG h (fun v7 => mk [(0, oD (.own 90000)), (1, iD p1), (8, iD ((wI .i64 (p2 - p1)))), (9, oD (.ptr 9 0)), (10, pD (.val (.int .u64 v2))), (11, iD v3.2.2), (12, iD v7)] [(9, .box [.pure (.val (.int .u64 v6.2))]), (90000, .vec 1 (v3.1.map Aj))]) (fun j7 h => ?_) (fun v7 h => ?_)
    ·refine wq rfl (qw 2 rfl (CT rfl (Aa ?_)))
     refine A0 h (fun h => ?_) fun h => ?_
     ·refine Ad Ap rfl (qw 2 rfl (BP rfl (qe rfl ?_)))
      exact sn [] h
     ·refine Ag ?_
      exact sn [] h
    ·refine Ad Ap rfl (qw 5 rfl (AE rfl (qw 3 rfl (AE rfl ?_))))
     refine A8 h fun v9 a9 b9 h => qI AK AS a9 (Ab b9) rfl (qj Ch (Ab b9) rfl (qw 2 rfl ?_))
     refine A8 h fun v10 a10 b10 h => qI AK AS a10 (Ab b10) rfl (qj Ch (Ab b10) rfl ?_)
     refine A8 h fun v11 a11 b11 h => qI AK AS a11 (Ab b11) rfl ?_
     refine AV rfl rfl rfl rfl (Ab b11) rfl AS rfl (CH rfl) (AT Aj v3.1 _ v9) ?_
     refine A8 h fun v12 a12 b12 h => qI AK AS a12 (Ab b12) rfl ?_
     refine AV rfl rfl rfl rfl (Ab b12) rfl AS rfl (CH rfl) (AT Aj (v3.1.set ((v3.2.2).toNat) v9) _ v10) ?_
     refine AF (by kernel_rfl) (Ad Ap rfl (qm rfl (AE rfl (qe rfl ?_))))
     exact sn [] h
   ·refine AJ ?_
    exact sn [] h
  ·obtain rfl := sj h
   refine ⟨_, hs.trans (sm [] [] [(90000, .vec 1 (v4.map Aj))] rfl rfl), ?_⟩
   exact ⟨⟨[], tv, rfl⟩, ⟨rfl, tv⟩, tv⟩
 ·refine Ag ?_
  obtain rfl := sj h
  refine ⟨_, (sm [] [] [(90000, .vec 1 (p0.map Aj))] rfl rfl), ?_⟩
  exact ⟨⟨[], tv, rfl⟩, ⟨rfl, tv⟩, tv⟩
theorem Dy (N : Nat) (p0 : List Int) (p1 : Int) (p2 : Int) (p3 : Int) (p4 : (Int × Int) → Option Int) (r : Int × Int × Int) (h : BZ N p0 p1 p2 p3 p4 = some r) : Bi zA0 179 [pD (.sl (p0.map Aj)), iD p1, iD p2, oD (.ptr 90000 0), oD (.clo (A9 (Dz false Aj false Aj) By p4))] [(.box [iC p3], .box [iC r.2.2])] [] (.tup [.one (iC r.1), .one (iC r.2.1)]) := by
 unfold BZ at h
 refine A3 (n := 32) (rs := [.tmp 10, .tmp 11]) Tryz.func179 rfl rfl rfl (CH rfl) (CH rfl) rfl rfl (CH rfl) rfl (CH rfl) fun w0 S0 GL => ?_
 refine Ac (sm [] [(0, pD (.sl (p0.map Aj))), (1, iD p1), (2, iD p2), (3, oD (.ptr 90000 0)), (4, oD (.clo (A9 (Dz false Aj false Aj) By p4)))] [(90000, .box [iC p3])] rfl rfl) (wq rfl (qa rfl (qa rfl (Aa (wp rfl (qw 3 rfl ?_))))))
 refine A8 h fun v1 a1 b1 h => qi AK AS a1 (Ab b1) rfl (qk Ch rfl (qw 2 rfl ?_))
 refine A8 h fun v2 a2 b2 h => qi AK AS a2 (Ab b2) rfl (qk Ch rfl ?_)
 refine Bg h fun v3 a3 h => CV (ds0 := [_, _]) (ar := (Dz false Aj false Aj) ((v1, v2))) (.p rfl) rfl rfl ⟨rfl, rfl, tv⟩ rfl rfl rfl (C0 (Ep _ _ _ _ CP CP) a3) ?_
 refine AN rfl (AF (by kernel_rfl) ?_)
 refine A0 h (fun h => ?_) fun h => ?_
 ·refine wq rfl (qm rfl (L3 rfl (ql C2 rfl (AE rfl (L3 rfl (qs DS rfl (Aa (wq rfl (qw 2 rfl (qa rfl (qe rfl ?_)))))))))))
  obtain rfl := sj h
  refine Ac (sm [] [(10, iD p2), (11, iD p1)] [(90000, .box [iC ((wI .i64 (p3 + 1)))])] rfl rfl) (Al ?_)
  exact ⟨⟨[_, _], ⟨.tmp _ _ rfl, tm⟩, rfl⟩, ⟨rfl, tv⟩, tv⟩
 ·refine Ag (wq rfl (qw 2 rfl (qa rfl (qe rfl ?_))))
  obtain rfl := sj h
  refine Ac (sm [] [(10, iD p1), (11, iD p2)] [(90000, .box [iC p3])] rfl rfl) (Al ?_)
  exact ⟨⟨[_, _], ⟨.tmp _ _ rfl, tm⟩, rfl⟩, ⟨rfl, tv⟩, tv⟩
theorem E4 (N : Nat) (p0 : List Int) (p1 : Int) (p2 : Int) (p3 : Int) (p4 : Int) (p5 : (Int × Int) → Option Int) (r : Int × Int) (h : CE N p0 p1 p2 p3 p4 p5 = some r) : Bi zA0 172 [pD (.sl (p0.map Aj)), iD p1, iD p2, iD p3, oD (.ptr 90000 0), oD (.clo (A9 (Dz false Aj false Aj) By p5))] [(.box [iC p4], .box [iC r.2])] [] (iD r.1) := by
 unfold CE at h
 refine A3 (n := 41) (rs := [.tmp 12]) Tryz.func172 rfl rfl rfl (CH rfl) (CH rfl) rfl rfl (CH rfl) rfl (CH rfl) fun w0 S0 GL => ?_
 refine Ac (sm [] [(0, pD (.sl (p0.map Aj))), (1, iD p1), (2, iD p2), (3, iD p3), (4, oD (.ptr 90000 0)), (5, oD (.clo (A9 (Dz false Aj false Aj) By p5)))] [(90000, .box [iC p4])] rfl rfl) (wq rfl (qa rfl (Aa (wq rfl (qw 5 rfl ?_)))))
 refine Bg h fun v1 a1 h => Cl (ds0 := [_, _, _, _, _]) [90000] [] [true] (Dy N p0 p1 p2 p4 p5 v1 a1) (.p rfl) Pt rfl ⟨rfl, rfl, rfl, rfl, rfl, tv⟩ rfl rfl (by decide) ⟨rfl, tv⟩ rfl (AU rfl) tv ⟨(fun h => by cases h), tv⟩ rfl rfl rfl ?_
 refine qm rfl (qx rfl (qx rfl (qa rfl (qa rfl (Aa (wq rfl (qw 5 rfl ?_)))))))
 refine Bg h fun v2 a2 h => Cl (ds0 := [_, _, _, _, _]) [90000] [] [true] (Dy N p0 v1.2.1 p3 v1.2.2 p5 v2 a2) (.p rfl) Pt rfl ⟨rfl, rfl, rfl, rfl, rfl, tv⟩ rfl rfl (by decide) ⟨rfl, tv⟩ rfl (AU rfl) tv ⟨(fun h => by cases h), tv⟩ rfl rfl rfl ?_
 refine qm rfl (qx rfl (qx rfl (qa rfl (qa rfl (Aa (wq rfl (qw 5 rfl ?_)))))))
 refine Bg h fun v3 a3 h => Cl (ds0 := [_, _, _, _, _]) [90000] [] [true] (Dy N p0 v1.1 v2.1 v2.2.2 p5 v3 a3) (.p rfl) Pt rfl ⟨rfl, rfl, rfl, rfl, rfl, tv⟩ rfl rfl (by decide) ⟨rfl, tv⟩ rfl (AU rfl) tv ⟨(fun h => by cases h), tv⟩ rfl rfl rfl ?_
 refine qm rfl (qx rfl (qx rfl (qa rfl (qa rfl (Aa (wq rfl (qm rfl (qe rfl ?_))))))))
 obtain rfl := sj h
 refine Ac (sm [] [(12, iD v3.2.1)] [(90000, .box [iC v3.2.2])] rfl rfl) (Al ?_)
 exact ⟨⟨[_], tm, rfl⟩, ⟨rfl, tv⟩, tv⟩
theorem Cx (N : Nat) (p0 : List Int) (p1 : Int) (p2 : Int) (p3 : (Int × Int) → Option Int) (r : Int × Int) (h : Bm N p0 p1 p2 p3 = some r) : Bi zA0 171 [pD (.sl (p0.map Aj)), iD p1, oD (.ptr 90000 0), oD (.clo (A9 (Dz false Aj false Aj) By p3))] [(.box [iC p2], .box [iC r.2])] [] (iD r.1) := by
 unfold Bm at h
 refine A3 (n := 18) (rs := [.tmp 8]) Tryz.func171 rfl rfl rfl (CH rfl) (CH rfl) rfl rfl (CH rfl) rfl (CH rfl) fun w0 S0 GL => ?_
 refine Ac (sm [] [(0, pD (.sl (p0.map Aj))), (1, iD p1), (2, oD (.ptr 90000 0)), (3, oD (.clo (A9 (Dz false Aj false Aj) By p3)))] [(90000, .box [iC p2])] rfl rfl) (wq rfl (qa rfl (Aa (wq rfl (qw 2 rfl (BP rfl (qw 2 rfl (AE rfl (qw 2 rfl ?_)))))))))
 refine Bg h fun v1 a1 h => Cl (ds0 := [_, _, _, _, _, _]) [90000] [] [true] (E4 N p0 ((wI .i64 (p1 - 1))) p1 ((wI .i64 (p1 + 1))) p2 p3 v1 a1) (.p rfl) Rs rfl ⟨rfl, rfl, rfl, rfl, rfl, rfl, tv⟩ rfl rfl (by decide) ⟨rfl, tv⟩ rfl (AU rfl) tv ⟨(fun h => by cases h), tv⟩ rfl rfl rfl ?_
 refine qa rfl (Aa ?_)
 obtain rfl := sj h
 refine Ac (sm [] [(8, iD v1.1)] [(90000, .box [iC v1.2])] rfl rfl) (Al ?_)
 exact ⟨⟨[_], tm, rfl⟩, ⟨rfl, tv⟩, tv⟩
theorem Gx (N : Nat) (p0 : List Int) (p1 : Int) (p2 : Int) (p3 : (Int × Int) → Option Int) (r : Int × Int) (h : CQ N p0 p1 p2 p3 = some r) : Ak zA0 143 [pD (.sl (p0.map Aj)), iD p1, iD p2, oD (.clo (A9 (Dz false Aj false Aj) By p3))] [] (.tup [.one (iC r.1), .one (iC r.2)]) := by
 unfold CQ at h
 refine cw (n := 63) (rs := [.tmp 8, .tmp 9]) Tryz.func143 fun w0 S0 => ?_
 refine wq rfl (qa rfl (qa rfl (Aa (wq rfl (qw 2 rfl (BP rfl (qa rfl (Aa (wq rfl (qz KL rfl (Aa (wq rfl (qw 2 rfl (Lk rfl (by decide) (Iv rfl (AE rfl (qa rfl (Aa (wq rfl (qw 2 rfl (Lk rfl (by decide) (Iv rfl (AE rfl (qa rfl (Aa (wq rfl (qw 2 rfl (Lk rfl (by decide) (Iv rfl ?_)))))))))))))))))))))))))))))
 refine AE rfl (qe rfl ?_)
 refine AG h (fun v1 => mk [(11, oD (.ptr 11 0)), (13, iD v1.2)] [(11, .box [iC v1.1])]) (fun j1 h => ?_) (fun v1 h => ?_)
 ·refine wq rfl (qm rfl (CT rfl (Aa ?_)))
  refine A0 h (fun h => ?_) fun h => ?_
  ·refine AG h (fun v3 => mk [(0, pD (.sl (p0.map Aj))), (3, oD (.clo (A9 (Dz false Aj false Aj) By p3))), (11, oD (.ptr 11 0)), (12, iD v3.2.1), (13, iD v3.2.2.1), (14, iD v3.2.2.2)] [(11, .box [iC v3.1])]) (fun j3 h => ?_) (fun v3 h => ?_)
   ·refine wq rfl (qm rfl (CT rfl (Aa ?_)))
    refine A0 h (fun h => ?_) fun h => ?_
    ·refine wq rfl (qw 3 rfl ?_)
     refine Bg h fun v5 a5 h => Cl (ds0 := [_, _, _, _]) [11] [] [true] (Cx N p0 ((wI .i64 (p1 + (wI .i64 ((wI .i64 (zD0 ((wI .i64 (p2 - p1))) 4)) * 1))))) 0 p3 v5 a5) (.p rfl) Qt rfl ⟨rfl, rfl, rfl, rfl, tv⟩ rfl rfl (by decide) ⟨rfl, tv⟩ rfl (AU rfl) tv ⟨(fun h => by cases h), tv⟩ rfl rfl rfl ?_
     refine qa rfl (Aa (wq rfl (qw 3 rfl ?_)))
     refine Bg h fun v6 a6 h => Cl (ds0 := [_, _, _, _]) [11] [] [true] (Cx N p0 ((wI .i64 (p1 + (wI .i64 ((wI .i64 (zD0 ((wI .i64 (p2 - p1))) 4)) * 2))))) v5.2 p3 v6 a6) (.p rfl) Qt rfl ⟨rfl, rfl, rfl, rfl, tv⟩ rfl rfl (by decide) ⟨rfl, tv⟩ rfl (AU rfl) tv ⟨(fun h => by cases h), tv⟩ rfl rfl rfl ?_
     refine qa rfl (Aa (Ad Ap rfl (qw 3 rfl ?_)))
     refine Bg h fun v7 a7 h => Cl (ds0 := [_, _, _, _]) [11] [] [true] (Cx N p0 ((wI .i64 (p1 + (wI .i64 ((wI .i64 (zD0 ((wI .i64 (p2 - p1))) 4)) * 3))))) v6.2 p3 v7 a7) (.p rfl) Qt rfl ⟨rfl, rfl, rfl, rfl, tv⟩ rfl rfl (by decide) ⟨rfl, tv⟩ rfl (AU rfl) tv ⟨(fun h => by cases h), tv⟩ rfl rfl rfl ?_
     refine qa rfl (Aa ?_)
     exact sn [] h
    ·refine Ag ?_
     exact sn [] h
   ·refine Ad Ap rfl (qw 5 rfl ?_)
    refine Bg h fun v8 a8 h => Cl (ds0 := [_, _, _, _, _, _]) [11] [] [true] (E4 N p0 v3.2.1 v3.2.2.1 v3.2.2.2 v3.1 p3 v8 a8) (.p rfl) Rs rfl ⟨rfl, rfl, rfl, rfl, rfl, rfl, tv⟩ rfl rfl (by decide) ⟨rfl, tv⟩ rfl (AU rfl) tv ⟨(fun h => by cases h), tv⟩ rfl rfl rfl ?_
    refine qa rfl (Aa ?_)
    exact sn [] h
  ·refine Ag ?_
   exact sn [] h
 ·refine wq rfl (ql C2 rfl (Aa (AA (wq rfl (BW rfl (qe rfl ?_))))))
  refine A0 h (fun h => ?_) fun h => ?_
  ·refine wq rfl (qm rfl (qa rfl (qe rfl ?_)))
   obtain rfl := sj h
   refine Ac (sm [] [(8, iD v1.2), (9, iD 1)] [] rfl rfl) (Al ?_)
   exact ⟨⟨[_, _], ⟨.tmp _ _ rfl, tm⟩, rfl⟩, tv⟩
  ·refine wq rfl (BW rfl (qe rfl ?_))
   refine A0 h (fun h => ?_) fun h => ?_
   ·refine wq rfl (qm rfl (qa rfl (qe rfl ?_)))
    obtain rfl := sj h
    refine Ac (sm [] [(8, iD v1.2), (9, iD 2)] [] rfl rfl) (Al ?_)
    exact ⟨⟨[_, _], ⟨.tmp _ _ rfl, tm⟩, rfl⟩, tv⟩
   ·refine wq rfl (qm rfl (qa rfl (qe rfl ?_)))
    obtain rfl := sj h
    refine Ac (sm [] [(8, iD v1.2), (9, iD 0)] [] rfl rfl) (Al ?_)
    exact ⟨⟨[_, _], ⟨.tmp _ _ rfl, tm⟩, rfl⟩, tv⟩
theorem Gi (N : Nat) (p0 : List Int) (p1 : Int) (p2 : Int) (p3 : (Int × Int) → Option Int) (r : (List Int)) (h : CI N p0 p1 p2 p3 = some r) : Bi zA0 144 [oD (.own 90000), iD p1, iD p2, oD (.clo (A9 (Dz false Aj false Aj) By p3))] [(.vec 1 (p0.map Aj), .vec 1 (r.map Aj))] [] (.tup []) := by
 unfold CI at h
 refine A3 (n := 34) (rs := []) Tryz.func144 rfl rfl rfl (CH rfl) (CH rfl) rfl rfl (CH rfl) rfl (CH rfl) fun w0 S0 GL => KV ?_
 refine Ac (sm [] [(0, oD (.own 90000)), (1, iD p1), (2, iD p2), (3, oD (.clo (A9 (Dz false Aj false Aj) By p3)))] [(90000, .vec 1 (p0.map Aj))] rfl rfl) (wq rfl (qm rfl (qa rfl (Aa (wq rfl (qm rfl (BP rfl (qe rfl ?_))))))))
 refine Av (L := BI N) h (fun v1 => mk [(0, oD (.own 90000)), (8, iD v1.2.1), (9, iD v1.2.2)] [(90000, .vec 1 (v1.1.map Aj))]) (fun v2 => mk [] [(90000, .vec 1 (v2.map Aj))]) (fun _ _ => rfl) (sm [] _ _ rfl rfl) (fun j1 n1 v1 h => ?_) (fun v2 s h hs => ?_)
 ·unfold BI at h
  refine wp rfl (qw 2 rfl (AN rfl (Aa ?_)))
  refine A0 h (fun h => ?_) fun h => ?_
  ·refine Ag (AA (wq rfl (qw 6 rfl ?_)))
   refine A8 h fun v4 a4 b4 h => qI AK AS a4 (Ab b4) rfl (qj Ch (Ab b4) rfl (qw 2 rfl ?_))
   refine A8 h fun v5 a5 b5 h => qI AK AS a5 (Ab b5) rfl (qj Ch (Ab b5) rfl ?_)
   refine A8 h fun v6 a6 b6 h => qI AK AS a6 (Ab b6) rfl ?_
   refine AV rfl rfl rfl rfl (Ab b6) rfl AS rfl (CH rfl) (AT Aj v1.1 _ v4) ?_
   refine A8 h fun v7 a7 b7 h => qI AK AS a7 (Ab b7) rfl ?_
   refine AV rfl rfl rfl rfl (Ab b7) rfl AS rfl (CH rfl) (AT Aj (v1.1.set ((v1.2.1).toNat) v4) _ v5) ?_
   refine AF (by kernel_rfl) (wq rfl (qm rfl (AE rfl (qa rfl (Aa (Ad Ap rfl (qm rfl (BP rfl (qe rfl ?_)))))))))
   exact sn [] h
  ·refine AJ ?_
   exact sn [] h
 ·obtain rfl := sj h
  refine ⟨_, hs.trans (sm [] [] [(90000, .vec 1 (v2.map Aj))] rfl rfl), ?_⟩
  exact ⟨⟨[], tv, rfl⟩, ⟨rfl, tv⟩, tv⟩
theorem EU (N : Nat) (p0 : List Int) (p1 : Int) (p2 : Int) (p3 : (Int × Int) → Option Int) (r : Bool × (List Int)) (h : BX N p0 p1 p2 p3 = some r) : Bi zA0 145 [oD (.own 90000), iD p1, iD p2, oD (.clo (A9 (Dz false Aj false Aj) By p3))] [(.vec 1 (p0.map Aj), .vec 1 (r.2.map Aj))] [] (bD r.1) := by
 unfold BX at h
 refine A3 (n := 141) (rs := [.tmp 8]) Tryz.func145 rfl rfl rfl (CH rfl) (CH rfl) rfl rfl (CH rfl) rfl (CH rfl) fun w0 S0 GL => ?_
 refine Ac (sm [] [(0, oD (.own 90000)), (1, iD p1), (2, iD p2), (3, oD (.clo (A9 (Dz false Aj false Aj) By p3)))] [(90000, .vec 1 (p0.map Aj))] rfl rfl) (wq rfl (qa rfl (Aa (wq rfl (qm rfl (AE rfl (qa rfl (Aa (wp rfl (qe rfl ?_))))))))))
 refine Av (L := Be N p1 p2 p3) h (fun v1 => mk [(0, oD (.own 90000)), (1, iD p1), (2, iD p2), (3, oD (.clo (A9 (Dz false Aj false Aj) By p3))), (9, iD v1.2.1), (10, iD v1.2.2)] [(90000, .vec 1 (v1.1.map Aj))]) (fun v2 => mk [] [(90000, .vec 1 (v2.map Aj))]) (fun _ _ => rfl) (sm [] _ _ rfl rfl) (fun j1 n1 v1 h => ?_) (fun v2 s h hs => ?_)
 ·unfold Be at h
  refine wp rfl (qm rfl (AN rfl (Aa ?_)))
  refine A0 h (fun h => ?_) fun h => ?_
  ·refine Ag ?_
   refine AG h (fun v4 => mk [(0, oD (.own 90000)), (1, iD p1), (2, iD p2), (3, oD (.clo (A9 (Dz false Aj false Aj) By p3))), (9, iD v4.2), (10, iD v1.2.2)] [(90000, .vec 1 (v4.1.map Aj))]) (fun j4 h => ?_) (fun v4 h => ?_)
   ·refine AA (Ay ?_)
    refine Av (L := Bf N p2 p3 v1) h (fun v5 => mk [(0, oD (.own 90000)), (1, iD p1), (2, iD p2), (3, oD (.clo (A9 (Dz false Aj false Aj) By p3))), (9, iD v5), (10, iD v1.2.2)] [(90000, .vec 1 (v1.1.map Aj))]) (fun v6 => mk [(0, oD (.own 90000)), (1, iD p1), (2, iD p2), (3, oD (.clo (A9 (Dz false Aj false Aj) By p3))), (9, iD v6), (10, iD v1.2.2)] [(90000, .vec 1 (v1.1.map Aj))]) (fun _ _ => rfl) (sm [] _ _ rfl rfl) (fun j5 n5 v5 h => ?_) (fun v6 s h hs => ?_)
    ·unfold Bf at h
     refine Ay ?_
     refine AG h (fun v7 => mk [(0, oD (.own 90000)), (1, iD p1), (2, iD p2), (3, oD (.clo (A9 (Dz false Aj false Aj) By p3))), (9, iD v5), (10, iD v1.2.2), (36, bD v7)] [(90000, .vec 1 (v1.1.map Aj))]) (fun j7 h => ?_) (fun v7 h => ?_)
     ·refine Ad Ap rfl (qw 2 rfl (AN rfl (qm rfl ?_)))
      refine DE 22 h rfl (fun h => ?_) fun h => ?_
      ·refine qw 3 rfl ?_
       refine A8 h fun v9 a9 b9 h => qI AK AS a9 (Ab b9) rfl (qj Ch (Ab b9) rfl (qw 2 rfl (BP rfl ?_)))
       refine A8 h fun v10 a10 b10 h => qI AK AS a10 (Ab b10) rfl (qj Ch (Ab b10) rfl ?_)
       refine Bg h fun v11 a11 h => CV (ds0 := [_, _]) (ar := (Dz false Aj false Aj) ((v9, v10))) (.g rfl rfl) rfl rfl ⟨rfl, rfl, tv⟩ rfl rfl rfl (C0 (Ep _ _ _ _ CP CP) a11) ?_
       refine AN rfl (BN rfl (qp rfl (AF (by kernel_rfl) ?_)))
       exact sn [] h
      ·refine qw 13 rfl (qp rfl (AF (by kernel_rfl) ?_))
       exact sn [] h
     ·refine A0 h (fun h => ?_) fun h => ?_
      ·refine Ag (AA (Ad Ap rfl (qm rfl (AE rfl (qe rfl ?_)))))
       exact sn [] h
      ·refine AJ ?_
       exact sn [] h
    ·refine Ac hs (wp rfl (qw 2 rfl (BW rfl (Aa ?_))))
     refine A0 h (fun h => ?_) fun h => ?_
     ·refine wq rfl (qe rfl ?_)
      obtain rfl := sj h
      refine Ac (sm [] [(8, bD true)] [(90000, .vec 1 (v1.1.map Aj))] rfl rfl) (Al ?_)
      exact ⟨⟨[_], tm, rfl⟩, ⟨rfl, tv⟩, tv⟩
     ·refine Ag (wp rfl (qw 2 rfl (BP rfl (AN rfl (Aa ?_)))))
      refine A0 h (fun h => ?_) fun h => ?_
      ·refine wq rfl (qe rfl ?_)
       obtain rfl := sj h
       refine Ac (sm [] [(8, bD false)] [(90000, .vec 1 (v1.1.map Aj))] rfl rfl) (Al ?_)
       exact ⟨⟨[_], tm, rfl⟩, ⟨rfl, tv⟩, tv⟩
      ·refine Ag (wq rfl (qw 4 rfl (BP rfl (qw 2 rfl (BP rfl ?_)))))
       refine A8 h fun v15 a15 b15 h => qI AK AS a15 (Ab b15) rfl (qj Ch (Ab b15) rfl (qw 2 rfl ?_))
       refine A8 h fun v16 a16 b16 h => qI AK AS a16 (Ab b16) rfl (qj Ch (Ab b16) rfl ?_)
       refine A8 h fun v17 a17 b17 h => qI AK AS a17 (Ab b17) rfl ?_
       refine AV rfl rfl rfl rfl (Ab b17) rfl AS rfl (CH rfl) (AT Aj v1.1 _ v15) ?_
       refine A8 h fun v18 a18 b18 h => qI AK AS a18 (Ab b18) rfl ?_
       refine AV rfl rfl rfl rfl (Ab b18) rfl AS rfl (CH rfl) (AT Aj (v1.1.set ((v6).toNat) v15) _ v16) ?_
       refine AF (by kernel_rfl) ?_
       refine AG h (fun v19 => mk [(0, oD (.own 90000)), (1, iD p1), (2, iD p2), (3, oD (.clo (A9 (Dz false Aj false Aj) By p3))), (9, iD v6), (10, iD v1.2.2)] [(90000, .vec 1 (v19.map Aj))]) (fun j19 h => ?_) (fun v19 h => ?_)
       ·refine wq rfl (qw 2 rfl (BP rfl (CT rfl (Aa ?_))))
        refine A0 h (fun h => ?_) fun h => ?_
        ·refine wq rfl (qm rfl (BP rfl (qe rfl ?_)))
         refine Av (L := Bb N p3) h (fun v21 => mk [(0, oD (.own 90000)), (1, iD p1), (2, iD p2), (3, oD (.clo (A9 (Dz false Aj false Aj) By p3))), (9, iD v6), (10, iD v1.2.2), (11, iD v21.2)] [(90000, .vec 1 (v21.1.map Aj))]) (fun v22 => mk [(0, oD (.own 90000)), (1, iD p1), (2, iD p2), (3, oD (.clo (A9 (Dz false Aj false Aj) By p3))), (9, iD v6), (10, iD v1.2.2)] [(90000, .vec 1 (v22.map Aj))]) (fun _ _ => rfl) (sm [] _ _ rfl rfl) (fun j21 n21 v21 h => ?_) (fun v22 s h hs => ?_)
         ·unfold Bb at h
          refine wp rfl (qm rfl (CT rfl (Aa ?_)))
          refine A0 h (fun h => ?_) fun h => ?_
          ·refine Ag (Ay (AA (wp rfl (qw 3 rfl ?_))))
           refine A8 h fun v24 a24 b24 h => qI AK AS a24 (Ab b24) rfl (qj Ch (Ab b24) rfl (qw 2 rfl (BP rfl ?_)))
           refine A8 h fun v25 a25 b25 h => qI AK AS a25 (Ab b25) rfl (qj Ch (Ab b25) rfl ?_)
           refine Bg h fun v26 a26 h => CV (ds0 := [_, _]) (ar := (Dz false Aj false Aj) ((v24, v25))) (.p rfl) rfl rfl ⟨rfl, rfl, tv⟩ rfl rfl rfl (C0 (Ep _ _ _ _ CP CP) a26) ?_
           refine AN rfl (BN rfl (AF (by kernel_rfl) ?_))
           refine A0 h (fun h => ?_) fun h => ?_
           ·refine AJ ?_
            exact sn [] h
           ·refine Ag (Ad Ap rfl (qw 4 rfl (BP rfl (qw 2 rfl (BP rfl ?_)))))
            refine A8 h fun v28 a28 b28 h => qI AK AS a28 (Ab b28) rfl (qj Ch (Ab b28) rfl (qw 2 rfl ?_))
            refine A8 h fun v29 a29 b29 h => qI AK AS a29 (Ab b29) rfl (qj Ch (Ab b29) rfl ?_)
            refine A8 h fun v30 a30 b30 h => qI AK AS a30 (Ab b30) rfl ?_
            refine AV rfl rfl rfl rfl (Ab b30) rfl AS rfl (CH rfl) (AT Aj v21.1 _ v28) ?_
            refine A8 h fun v31 a31 b31 h => qI AK AS a31 (Ab b31) rfl ?_
            refine AV rfl rfl rfl rfl (Ab b31) rfl AS rfl (CH rfl) (AT Aj (v21.1.set ((v21.2).toNat) v28) _ v29) ?_
            refine AF (by kernel_rfl) (Ad Ap rfl (qm rfl (BP rfl (qe rfl ?_))))
            exact sn [] h
          ·refine AJ ?_
           exact sn [] h
         ·exact Sy _ h (hs.trans (sm [] _ _ rfl rfl))
        ·refine Ag ?_
         exact sn [] h
       ·refine wq rfl (qw 2 rfl (BP rfl (CT rfl (Aa ?_))))
        refine A0 h (fun h => ?_) fun h => ?_
        ·refine wq rfl (qm rfl (AE rfl (qe rfl ?_)))
         refine Av (L := Ba N p2 p3) h (fun v33 => mk [(0, oD (.own 90000)), (1, iD p1), (2, iD p2), (3, oD (.clo (A9 (Dz false Aj false Aj) By p3))), (9, iD v6), (10, iD v1.2.2), (12, iD v33.2)] [(90000, .vec 1 (v33.1.map Aj))]) (fun v34 => mk [(0, oD (.own 90000)), (1, iD p1), (2, iD p2), (3, oD (.clo (A9 (Dz false Aj false Aj) By p3))), (9, iD v6), (10, iD v1.2.2)] [(90000, .vec 1 (v34.map Aj))]) (fun _ _ => rfl) (sm [] _ _ rfl rfl) (fun j33 n33 v33 h => ?_) (fun v34 s h hs => ?_)
         ·unfold Ba at h
          refine wp rfl (qw 2 rfl (AN rfl (Aa ?_)))
          refine A0 h (fun h => ?_) fun h => ?_
          ·refine Ag (Ay (AA (wp rfl (qw 3 rfl ?_))))
           refine A8 h fun v36 a36 b36 h => qI AK AS a36 (Ab b36) rfl (qj Ch (Ab b36) rfl (qw 2 rfl (BP rfl ?_)))
           refine A8 h fun v37 a37 b37 h => qI AK AS a37 (Ab b37) rfl (qj Ch (Ab b37) rfl ?_)
           refine Bg h fun v38 a38 h => CV (ds0 := [_, _]) (ar := (Dz false Aj false Aj) ((v36, v37))) (.p rfl) rfl rfl ⟨rfl, rfl, tv⟩ rfl rfl rfl (C0 (Ep _ _ _ _ CP CP) a38) ?_
           refine AN rfl (BN rfl (AF (by kernel_rfl) ?_))
           refine A0 h (fun h => ?_) fun h => ?_
           ·refine AJ ?_
            exact sn [] h
           ·refine Ag (Ad Ap rfl (qw 4 rfl (BP rfl (qw 2 rfl (BP rfl ?_)))))
            refine A8 h fun v40 a40 b40 h => qI AK AS a40 (Ab b40) rfl (qj Ch (Ab b40) rfl (qw 2 rfl ?_))
            refine A8 h fun v41 a41 b41 h => qI AK AS a41 (Ab b41) rfl (qj Ch (Ab b41) rfl ?_)
            refine A8 h fun v42 a42 b42 h => qI AK AS a42 (Ab b42) rfl ?_
            refine AV rfl rfl rfl rfl (Ab b42) rfl AS rfl (CH rfl) (AT Aj v33.1 _ v40) ?_
            refine A8 h fun v43 a43 b43 h => qI AK AS a43 (Ab b43) rfl ?_
            refine AV rfl rfl rfl rfl (Ab b43) rfl AS rfl (CH rfl) (AT Aj (v33.1.set ((v33.2).toNat) v40) _ v41) ?_
            refine AF (by kernel_rfl) (Ad Ap rfl (qm rfl (AE rfl (qe rfl ?_))))
            exact sn [] h
          ·refine AJ ?_
           exact sn [] h
         ·exact Sy _ h (hs.trans (sm [] _ _ rfl rfl))
        ·refine Ag ?_
         exact sn [] h
   ·refine Ad Ap rfl (qm rfl (AE rfl (qe rfl ?_)))
    exact sn [] h
  ·refine AJ ?_
   exact sn [] h
 ·refine Ac hs (wq rfl (qe rfl ?_))
  obtain rfl := sj h
  refine Ac (sm [] [(8, bD false)] [(90000, .vec 1 (v2.map Aj))] rfl rfl) (Al ?_)
  exact ⟨⟨[_], tm, rfl⟩, ⟨rfl, tv⟩, tv⟩
theorem FG (N : Nat) (p0 : List Int) (p1 : Int) (p2 : Int) (p3 : Int) (p4 : (Int × Int) → Option Int) (r : Int × (List Int)) (h : Cr N p0 p1 p2 p3 p4 = some r) : Bi zA0 146 [oD (.own 90000), iD p1, iD p2, iD p3, oD (.clo (A9 (Dz false Aj false Aj) By p4))] [(.vec 1 (p0.map Aj), .vec 1 (r.2.map Aj))] [] (iD r.1) := by
 unfold Cr at h
 refine A3 (n := 90) (rs := [.tmp 10]) Tryz.func146 rfl rfl rfl (CH rfl) (CH rfl) rfl rfl (CH rfl) rfl (CH rfl) fun w0 S0 GL => ?_
 refine Ac (sm [] [(0, oD (.own 90000)), (1, iD p1), (2, iD p2), (3, iD p3), (4, oD (.clo (A9 (Dz false Aj false Aj) By p4)))] [(90000, .vec 1 (p0.map Aj))] rfl rfl) (wq rfl (qa rfl (Aa (wq rfl (qw 6 rfl ?_)))))
 refine A8 h fun v1 a1 b1 h => qI AK AS a1 (Ab b1) rfl (qj Ch (Ab b1) rfl (qw 2 rfl ?_))
 refine A8 h fun v2 a2 b2 h => qI AK AS a2 (Ab b2) rfl (qj Ch (Ab b2) rfl ?_)
 refine A8 h fun v3 a3 b3 h => qI AK AS a3 (Ab b3) rfl ?_
 refine AV rfl rfl rfl rfl (Ab b3) rfl AS rfl (CH rfl) (AT Aj p0 _ v1) ?_
 refine A8 h fun v4 a4 b4 h => qI AK AS a4 (Ab b4) rfl ?_
 refine AV rfl rfl rfl rfl (Ab b4) rfl AS rfl (CH rfl) (AT Aj (p0.set ((p1).toNat) v1) _ v2) ?_
 refine AF (by kernel_rfl) (wq rfl (qm rfl (AE rfl (qm rfl (BP rfl (qa rfl (qa rfl (Aa (Ay ?_)))))))))
 refine Av (L := Bv N p1 p4) h (fun v5 => mk [(0, oD (.own 90000)), (1, iD p1), (4, oD (.clo (A9 (Dz false Aj false Aj) By p4))), (11, iD v5.2.1), (12, iD v5.2.2)] [(90000, .vec 1 (v5.1.map Aj))]) (fun v6 => mk [(11, iD v6.2)] [(90000, .vec 1 (v6.1.map Aj))]) (fun _ _ => rfl) (sm [] _ _ rfl rfl) (fun j5 n5 v5 h => ?_) (fun v6 s h hs => ?_)
 ·unfold Bv at h
  refine AA (Ay ?_)
  refine Av (L := Bw N p1 p4 v5) h (fun v7 => mk [(0, oD (.own 90000)), (1, iD p1), (4, oD (.clo (A9 (Dz false Aj false Aj) By p4))), (11, iD v7), (12, iD v5.2.2)] [(90000, .vec 1 (v5.1.map Aj))]) (fun v8 => mk [(0, oD (.own 90000)), (1, iD p1), (4, oD (.clo (A9 (Dz false Aj false Aj) By p4))), (11, iD v8), (12, iD v5.2.2)] [(90000, .vec 1 (v5.1.map Aj))]) (fun _ _ => rfl) (sm [] _ _ rfl rfl) (fun j7 n7 v7 h => ?_) (fun v8 s h hs => ?_)
  ·unfold Bw at h
   refine Ay ?_
   refine AG h (fun v9 => mk [(0, oD (.own 90000)), (1, iD p1), (4, oD (.clo (A9 (Dz false Aj false Aj) By p4))), (11, iD v7), (12, iD v5.2.2), (47, bD v9)] [(90000, .vec 1 (v5.1.map Aj))]) (fun j9 h => ?_) (fun v9 h => ?_)
   ·refine Ad Ap rfl (qw 2 rfl (Ka rfl (qm rfl ?_)))
    refine DE 34 h rfl (fun h => ?_) fun h => ?_
    ·refine qw 3 rfl ?_
     refine A8 h fun v11 a11 b11 h => qI AK AS a11 (Ab b11) rfl (qj Ch (Ab b11) rfl (qw 2 rfl ?_))
     refine A8 h fun v12 a12 b12 h => qI AK AS a12 (Ab b12) rfl (qj Ch (Ab b12) rfl ?_)
     refine Bg h fun v13 a13 h => CV (ds0 := [_, _]) (ar := (Dz false Aj false Aj) ((v11, v12))) (.g rfl rfl) rfl rfl ⟨rfl, rfl, tv⟩ rfl rfl rfl (C0 (Ep _ _ _ _ CP CP) a13) ?_
     refine AN rfl (BN rfl (qp rfl (AF (by kernel_rfl) ?_)))
     exact sn [] h
    ·refine qw 12 rfl (qp rfl (AF (by kernel_rfl) ?_))
     exact sn [] h
   ·refine A0 h (fun h => ?_) fun h => ?_
    ·refine Ag (AA (Ad Ap rfl (qm rfl (AE rfl (qe rfl ?_)))))
     exact sn [] h
    ·refine AJ ?_
     exact sn [] h
  ·refine Ac hs (Ay ?_)
   refine Av (L := Bt N p1 p4 v5 v8) h (fun v15 => mk [(0, oD (.own 90000)), (1, iD p1), (4, oD (.clo (A9 (Dz false Aj false Aj) By p4))), (11, iD v8), (12, iD v15)] [(90000, .vec 1 (v5.1.map Aj))]) (fun v16 => mk [(0, oD (.own 90000)), (1, iD p1), (4, oD (.clo (A9 (Dz false Aj false Aj) By p4))), (11, iD v8), (12, iD v16)] [(90000, .vec 1 (v5.1.map Aj))]) (fun _ _ => rfl) (sm [] _ _ rfl rfl) (fun j15 n15 v15 h => ?_) (fun v16 s h hs => ?_)
   ·unfold Bt at h
    refine Ay ?_
    refine AG h (fun v17 => mk [(0, oD (.own 90000)), (1, iD p1), (4, oD (.clo (A9 (Dz false Aj false Aj) By p4))), (11, iD v8), (12, iD v15), (65, bD v17)] [(90000, .vec 1 (v5.1.map Aj))]) (fun j17 h => ?_) (fun v17 h => ?_)
    ·refine Ad Ap rfl (qw 2 rfl (Ka rfl (qm rfl ?_)))
     refine DE 53 h rfl (fun h => ?_) fun h => ?_
     ·refine qw 3 rfl ?_
      refine A8 h fun v19 a19 b19 h => qI AK AS a19 (Ab b19) rfl (qj Ch (Ab b19) rfl (qw 2 rfl ?_))
      refine A8 h fun v20 a20 b20 h => qI AK AS a20 (Ab b20) rfl (qj Ch (Ab b20) rfl ?_)
      refine Bg h fun v21 a21 h => CV (ds0 := [_, _]) (ar := (Dz false Aj false Aj) ((v19, v20))) (.g rfl rfl) rfl rfl ⟨rfl, rfl, tv⟩ rfl rfl rfl (C0 (Ep _ _ _ _ CP CP) a21) ?_
      refine AN rfl (qp rfl (AF (by kernel_rfl) ?_))
      exact sn [] h
     ·refine qw 11 rfl (qp rfl (AF (by kernel_rfl) ?_))
      exact sn [] h
    ·refine A0 h (fun h => ?_) fun h => ?_
     ·refine Ag (AA (Ad Ap rfl (qm rfl (BP rfl (qe rfl ?_)))))
      exact sn [] h
     ·refine AJ ?_
      exact sn [] h
   ·refine Ac hs (wp rfl (qw 2 rfl (DK rfl (Aa ?_))))
    refine A0 h (fun h => ?_) fun h => ?_
    ·refine AJ ?_
     exact sn [] h
    ·refine Ag (wq rfl (qw 6 rfl ?_))
     refine A8 h fun v24 a24 b24 h => qI AK AS a24 (Ab b24) rfl (qj Ch (Ab b24) rfl (qw 2 rfl ?_))
     refine A8 h fun v25 a25 b25 h => qI AK AS a25 (Ab b25) rfl (qj Ch (Ab b25) rfl ?_)
     refine A8 h fun v26 a26 b26 h => qI AK AS a26 (Ab b26) rfl ?_
     refine AV rfl rfl rfl rfl (Ab b26) rfl AS rfl (CH rfl) (AT Aj v5.1 _ v24) ?_
     refine A8 h fun v27 a27 b27 h => qI AK AS a27 (Ab b27) rfl ?_
     refine AV rfl rfl rfl rfl (Ab b27) rfl AS rfl (CH rfl) (AT Aj (v5.1.set ((v8).toNat) v24) _ v25) ?_
     refine AF (by kernel_rfl) (wq rfl (qm rfl (AE rfl (qa rfl (Aa (Ad Ap rfl (qm rfl (BP rfl (qe rfl ?_)))))))))
     exact sn [] h
 ·refine Ac hs (wq rfl (qm rfl (qe rfl ?_)))
  obtain rfl := sj h
  refine Ac (sm [] [(10, iD v6.2)] [(90000, .vec 1 (v6.1.map Aj))] rfl rfl) (Al ?_)
  exact ⟨⟨[_], tm, rfl⟩, ⟨rfl, tv⟩, tv⟩
theorem GO (N : Nat) (p0 : List Int) (p1 : Int) (p2 : Int) (p3 : Int) (p4 : (Int × Int) → Option Int) (r : Int × Bool × (List Int)) (h : C5 N p0 p1 p2 p3 p4 = some r) : Bi zA0 147 [oD (.own 90000), iD p1, iD p2, iD p3, oD (.clo (A9 (Dz false Aj false Aj) By p4))] [(.vec 1 (p0.map Aj), .vec 1 (r.2.2.map Aj))] [] (.tup [.one (iC r.1), .one (.pure (.val (.bool r.2.1)))]) := by
 unfold C5 at h
 refine A3 (n := 178) (rs := [.tmp 10, .tmp 11]) Tryz.func147 rfl rfl rfl (CH rfl) (CH rfl) rfl rfl (CH rfl) rfl (CH rfl) fun w0 S0 GL => ?_
 refine Ac (sm [] [(0, oD (.own 90000)), (1, iD p1), (2, iD p2), (3, iD p3), (4, oD (.clo (A9 (Dz false Aj false Aj) By p4)))] [(90000, .vec 1 (p0.map Aj))] rfl rfl) (wq rfl (qa rfl (qa rfl (Aa (wq rfl (qw 6 rfl ?_))))))
 refine A8 h fun v1 a1 b1 h => qI AK AS a1 (Ab b1) rfl (qj Ch (Ab b1) rfl (qw 2 rfl ?_))
 refine A8 h fun v2 a2 b2 h => qI AK AS a2 (Ab b2) rfl (qj Ch (Ab b2) rfl ?_)
 refine A8 h fun v3 a3 b3 h => qI AK AS a3 (Ab b3) rfl ?_
 refine AV rfl rfl rfl rfl (Ab b3) rfl AS rfl (CH rfl) (AT Aj p0 _ v1) ?_
 refine A8 h fun v4 a4 b4 h => qI AK AS a4 (Ab b4) rfl ?_
 refine AV rfl rfl rfl rfl (Ab b4) rfl AS rfl (CH rfl) (AT Aj (p0.set ((p1).toNat) v1) _ v2) ?_
 refine AF (by kernel_rfl) (wq rfl (qm rfl (AE rfl (qm rfl (BP rfl (qa rfl (qa rfl (Aa (Ay ?_)))))))))
 refine Av (L := BY N p0 p1 p2 p3 p4 v1 v2) h (fun v5 => mk [(0, oD (.own 90000)), (1, iD p1), (4, oD (.clo (A9 (Dz false Aj false Aj) By p4))), (12, iD v5), (13, iD ((wI .i64 (p2 - 1))))] [(90000, .vec 1 (((p0.set ((p1).toNat) v1).set ((p3).toNat) v2).map Aj))]) (fun v6 => mk [(0, oD (.own 90000)), (1, iD p1), (4, oD (.clo (A9 (Dz false Aj false Aj) By p4))), (12, iD v6), (13, iD ((wI .i64 (p2 - 1))))] [(90000, .vec 1 (((p0.set ((p1).toNat) v1).set ((p3).toNat) v2).map Aj))]) (fun _ _ => rfl) (sm [] _ _ rfl rfl) (fun j5 n5 v5 h => ?_) (fun v6 s h hs => ?_)
 ·unfold BY at h
  refine Ay ?_
  refine AG h (fun v7 => mk [(0, oD (.own 90000)), (1, iD p1), (4, oD (.clo (A9 (Dz false Aj false Aj) By p4))), (12, iD v5), (13, iD ((wI .i64 (p2 - 1)))), (47, bD v7)] [(90000, .vec 1 (((p0.set ((p1).toNat) v1).set ((p3).toNat) v2).map Aj))]) (fun j7 h => ?_) (fun v7 h => ?_)
  ·refine Ad Ap rfl (qw 2 rfl (Ka rfl (qm rfl ?_)))
   refine DE 35 h rfl (fun h => ?_) fun h => ?_
   ·refine qw 3 rfl ?_
    refine A8 h fun v9 a9 b9 h => qI AK AS a9 (Ab b9) rfl (qj Ch (Ab b9) rfl (qw 2 rfl ?_))
    refine A8 h fun v10 a10 b10 h => qI AK AS a10 (Ab b10) rfl (qj Ch (Ab b10) rfl ?_)
    refine Bg h fun v11 a11 h => CV (ds0 := [_, _]) (ar := (Dz false Aj false Aj) ((v9, v10))) (.g rfl rfl) rfl rfl ⟨rfl, rfl, tv⟩ rfl rfl rfl (C0 (Ep _ _ _ _ CP CP) a11) ?_
    refine AN rfl (qp rfl (AF (by kernel_rfl) ?_))
    exact sn [] h
   ·refine qw 11 rfl (qp rfl (AF (by kernel_rfl) ?_))
    exact sn [] h
  ·refine A0 h (fun h => ?_) fun h => ?_
   ·refine Ag (AA (Ad Ap rfl (qm rfl (AE rfl (qe rfl ?_)))))
    exact sn [] h
   ·refine AJ ?_
    exact sn [] h
 ·refine Ac hs (Ay ?_)
  refine Av (L := BR N p0 p1 p3 p4 v1 v2 v6) h (fun v13 => mk [(0, oD (.own 90000)), (1, iD p1), (4, oD (.clo (A9 (Dz false Aj false Aj) By p4))), (12, iD v6), (13, iD v13)] [(90000, .vec 1 (((p0.set ((p1).toNat) v1).set ((p3).toNat) v2).map Aj))]) (fun v14 => mk [(0, oD (.own 90000)), (1, iD p1), (4, oD (.clo (A9 (Dz false Aj false Aj) By p4))), (12, iD v6), (13, iD v14)] [(90000, .vec 1 (((p0.set ((p1).toNat) v1).set ((p3).toNat) v2).map Aj))]) (fun _ _ => rfl) (sm [] _ _ rfl rfl) (fun j13 n13 v13 h => ?_) (fun v14 s h hs => ?_)
  ·unfold BR at h
   refine Ay ?_
   refine AG h (fun v15 => mk [(0, oD (.own 90000)), (1, iD p1), (4, oD (.clo (A9 (Dz false Aj false Aj) By p4))), (12, iD v6), (13, iD v13), (66, bD v15)] [(90000, .vec 1 (((p0.set ((p1).toNat) v1).set ((p3).toNat) v2).map Aj))]) (fun j15 h => ?_) (fun v15 h => ?_)
   ·refine Ad Ap rfl (qw 2 rfl (Ka rfl (qm rfl ?_)))
    refine DE 53 h rfl (fun h => ?_) fun h => ?_
    ·refine qw 3 rfl ?_
     refine A8 h fun v17 a17 b17 h => qI AK AS a17 (Ab b17) rfl (qj Ch (Ab b17) rfl (qw 2 rfl ?_))
     refine A8 h fun v18 a18 b18 h => qI AK AS a18 (Ab b18) rfl (qj Ch (Ab b18) rfl ?_)
     refine Bg h fun v19 a19 h => CV (ds0 := [_, _]) (ar := (Dz false Aj false Aj) ((v17, v18))) (.g rfl rfl) rfl rfl ⟨rfl, rfl, tv⟩ rfl rfl rfl (C0 (Ep _ _ _ _ CP CP) a19) ?_
     refine AN rfl (BN rfl (qp rfl (AF (by kernel_rfl) ?_)))
     exact sn [] h
    ·refine qw 12 rfl (qp rfl (AF (by kernel_rfl) ?_))
     exact sn [] h
   ·refine A0 h (fun h => ?_) fun h => ?_
    ·refine Ag (AA (Ad Ap rfl (qm rfl (BP rfl (qe rfl ?_)))))
     exact sn [] h
    ·refine AJ ?_
     exact sn [] h
  ·refine Ac hs (wp rfl (qw 2 rfl (DK rfl (Aa ?_))))
   refine A0 h (fun h => ?_) fun h => ?_
   ·refine wq rfl (qw 6 rfl ?_)
    refine A8 h fun v22 a22 b22 h => qI AK AS a22 (Ab b22) rfl (qj Ch (Ab b22) rfl (qw 2 rfl ?_))
    refine A8 h fun v23 a23 b23 h => qI AK AS a23 (Ab b23) rfl (qj Ch (Ab b23) rfl ?_)
    refine A8 h fun v24 a24 b24 h => qI AK AS a24 (Ab b24) rfl ?_
    refine AV rfl rfl rfl rfl (Ab b24) rfl AS rfl (CH rfl) (AT Aj ((p0.set ((p1).toNat) v1).set ((p3).toNat) v2) _ v22) ?_
    refine A8 h fun v25 a25 b25 h => qI AK AS a25 (Ab b25) rfl ?_
    refine AV rfl rfl rfl rfl (Ab b25) rfl AS rfl (CH rfl) (AT Aj (((p0.set ((p1).toNat) v1).set ((p3).toNat) v2).set ((v14).toNat) v22) _ v23) ?_
    refine AF (by kernel_rfl) (wq rfl (qm rfl (qa rfl (qe rfl ?_))))
    obtain rfl := sj h
    refine Ac (sm [] [(10, iD v14), (11, bD true)] [(90000, .vec 1 (((((p0.set ((p1).toNat) v1).set ((p3).toNat) v2).set ((v14).toNat) v22).set ((p1).toNat) v23).map Aj))] rfl rfl) (Al ?_)
    exact ⟨⟨[_, _], ⟨.tmp _ _ rfl, tm⟩, rfl⟩, ⟨rfl, tv⟩, tv⟩
   ·refine Ag (wq rfl (qw 6 rfl ?_))
    refine A8 h fun v26 a26 b26 h => qI AK AS a26 (Ab b26) rfl (qj Ch (Ab b26) rfl (qw 2 rfl ?_))
    refine A8 h fun v27 a27 b27 h => qI AK AS a27 (Ab b27) rfl (qj Ch (Ab b27) rfl ?_)
    refine A8 h fun v28 a28 b28 h => qI AK AS a28 (Ab b28) rfl ?_
    refine AV rfl rfl rfl rfl (Ab b28) rfl AS rfl (CH rfl) (AT Aj ((p0.set ((p1).toNat) v1).set ((p3).toNat) v2) _ v26) ?_
    refine A8 h fun v29 a29 b29 h => qI AK AS a29 (Ab b29) rfl ?_
    refine AV rfl rfl rfl rfl (Ab b29) rfl AS rfl (CH rfl) (AT Aj (((p0.set ((p1).toNat) v1).set ((p3).toNat) v2).set ((v6).toNat) v26) _ v27) ?_
    refine AF (by kernel_rfl) (wq rfl (qm rfl (AE rfl (qa rfl (Aa (wq rfl (qm rfl (BP rfl (qa rfl (Aa (Ay ?_)))))))))))
    refine Av (L := BT N p1 p4) h (fun v30 => mk [(0, oD (.own 90000)), (1, iD p1), (4, oD (.clo (A9 (Dz false Aj false Aj) By p4))), (12, iD v30.2.1), (13, iD v30.2.2)] [(90000, .vec 1 (v30.1.map Aj))]) (fun v31 => mk [(0, oD (.own 90000)), (1, iD p1), (13, iD v31.2)] [(90000, .vec 1 (v31.1.map Aj))]) (fun _ _ => rfl) (sm [] _ _ rfl rfl) (fun j30 n30 v30 h => ?_) (fun v31 s h hs => ?_)
    ·unfold BT at h
     refine AA (Ay ?_)
     refine Av (L := BS N p1 p4 v30) h (fun v32 => mk [(0, oD (.own 90000)), (1, iD p1), (4, oD (.clo (A9 (Dz false Aj false Aj) By p4))), (12, iD v32), (13, iD v30.2.2)] [(90000, .vec 1 (v30.1.map Aj))]) (fun v33 => mk [(0, oD (.own 90000)), (1, iD p1), (4, oD (.clo (A9 (Dz false Aj false Aj) By p4))), (12, iD v33), (13, iD v30.2.2)] [(90000, .vec 1 (v30.1.map Aj))]) (fun _ _ => rfl) (sm [] _ _ rfl rfl) (fun j32 n32 v32 h => ?_) (fun v33 s h hs => ?_)
     ·unfold BS at h
      refine Ay ?_
      refine AG h (fun v34 => mk [(0, oD (.own 90000)), (1, iD p1), (4, oD (.clo (A9 (Dz false Aj false Aj) By p4))), (12, iD v32), (13, iD v30.2.2), (120, bD v34)] [(90000, .vec 1 (v30.1.map Aj))]) (fun j34 h => ?_) (fun v34 h => ?_)
      ·refine Ad Ap rfl (qw 2 rfl (Ka rfl (qm rfl ?_)))
       refine DE 108 h rfl (fun h => ?_) fun h => ?_
       ·refine qw 3 rfl ?_
        refine A8 h fun v36 a36 b36 h => qI AK AS a36 (Ab b36) rfl (qj Ch (Ab b36) rfl (qw 2 rfl ?_))
        refine A8 h fun v37 a37 b37 h => qI AK AS a37 (Ab b37) rfl (qj Ch (Ab b37) rfl ?_)
        refine Bg h fun v38 a38 h => CV (ds0 := [_, _]) (ar := (Dz false Aj false Aj) ((v36, v37))) (.g rfl rfl) rfl rfl ⟨rfl, rfl, tv⟩ rfl rfl rfl (C0 (Ep _ _ _ _ CP CP) a38) ?_
        refine AN rfl (qp rfl (AF (by kernel_rfl) ?_))
        exact sn [] h
       ·refine qw 11 rfl (qp rfl (AF (by kernel_rfl) ?_))
        exact sn [] h
      ·refine A0 h (fun h => ?_) fun h => ?_
       ·refine Ag (AA (Ad Ap rfl (qm rfl (AE rfl (qe rfl ?_)))))
        exact sn [] h
       ·refine AJ ?_
        exact sn [] h
     ·refine Ac hs (Ay ?_)
      refine Av (L := BU N p1 p4 v30 v33) h (fun v40 => mk [(0, oD (.own 90000)), (1, iD p1), (4, oD (.clo (A9 (Dz false Aj false Aj) By p4))), (12, iD v33), (13, iD v40)] [(90000, .vec 1 (v30.1.map Aj))]) (fun v41 => mk [(0, oD (.own 90000)), (1, iD p1), (4, oD (.clo (A9 (Dz false Aj false Aj) By p4))), (12, iD v33), (13, iD v41)] [(90000, .vec 1 (v30.1.map Aj))]) (fun _ _ => rfl) (sm [] _ _ rfl rfl) (fun j40 n40 v40 h => ?_) (fun v41 s h hs => ?_)
      ·unfold BU at h
       refine Ay ?_
       refine AG h (fun v42 => mk [(0, oD (.own 90000)), (1, iD p1), (4, oD (.clo (A9 (Dz false Aj false Aj) By p4))), (12, iD v33), (13, iD v40), (139, bD v42)] [(90000, .vec 1 (v30.1.map Aj))]) (fun j42 h => ?_) (fun v42 h => ?_)
       ·refine Ad Ap rfl (qw 2 rfl (Ka rfl (qm rfl ?_)))
        refine DE 126 h rfl (fun h => ?_) fun h => ?_
        ·refine qw 3 rfl ?_
         refine A8 h fun v44 a44 b44 h => qI AK AS a44 (Ab b44) rfl (qj Ch (Ab b44) rfl (qw 2 rfl ?_))
         refine A8 h fun v45 a45 b45 h => qI AK AS a45 (Ab b45) rfl (qj Ch (Ab b45) rfl ?_)
         refine Bg h fun v46 a46 h => CV (ds0 := [_, _]) (ar := (Dz false Aj false Aj) ((v44, v45))) (.g rfl rfl) rfl rfl ⟨rfl, rfl, tv⟩ rfl rfl rfl (C0 (Ep _ _ _ _ CP CP) a46) ?_
         refine AN rfl (BN rfl (qp rfl (AF (by kernel_rfl) ?_)))
         exact sn [] h
        ·refine qw 12 rfl (qp rfl (AF (by kernel_rfl) ?_))
         exact sn [] h
       ·refine A0 h (fun h => ?_) fun h => ?_
        ·refine Ag (AA (Ad Ap rfl (qm rfl (BP rfl (qe rfl ?_)))))
         exact sn [] h
        ·refine AJ ?_
         exact sn [] h
      ·refine Ac hs (wp rfl (qw 2 rfl (DK rfl (Aa ?_))))
       refine A0 h (fun h => ?_) fun h => ?_
       ·refine AJ ?_
        exact sn [] h
       ·refine Ag (wq rfl (qw 6 rfl ?_))
        refine A8 h fun v49 a49 b49 h => qI AK AS a49 (Ab b49) rfl (qj Ch (Ab b49) rfl (qw 2 rfl ?_))
        refine A8 h fun v50 a50 b50 h => qI AK AS a50 (Ab b50) rfl (qj Ch (Ab b50) rfl ?_)
        refine A8 h fun v51 a51 b51 h => qI AK AS a51 (Ab b51) rfl ?_
        refine AV rfl rfl rfl rfl (Ab b51) rfl AS rfl (CH rfl) (AT Aj v30.1 _ v49) ?_
        refine A8 h fun v52 a52 b52 h => qI AK AS a52 (Ab b52) rfl ?_
        refine AV rfl rfl rfl rfl (Ab b52) rfl AS rfl (CH rfl) (AT Aj (v30.1.set ((v33).toNat) v49) _ v50) ?_
        refine AF (by kernel_rfl) (wq rfl (qm rfl (AE rfl (qa rfl (Aa (Ad Ap rfl (qm rfl (BP rfl (qe rfl ?_)))))))))
        exact sn [] h
    ·refine Ac hs (wq rfl (qw 6 rfl ?_))
     refine A8 h fun v53 a53 b53 h => qI AK AS a53 (Ab b53) rfl (qj Ch (Ab b53) rfl (qw 2 rfl ?_))
     refine A8 h fun v54 a54 b54 h => qI AK AS a54 (Ab b54) rfl (qj Ch (Ab b54) rfl ?_)
     refine A8 h fun v55 a55 b55 h => qI AK AS a55 (Ab b55) rfl ?_
     refine AV rfl rfl rfl rfl (Ab b55) rfl AS rfl (CH rfl) (AT Aj v31.1 _ v53) ?_
     refine A8 h fun v56 a56 b56 h => qI AK AS a56 (Ab b56) rfl ?_
     refine AV rfl rfl rfl rfl (Ab b56) rfl AS rfl (CH rfl) (AT Aj (v31.1.set ((v31.2).toNat) v53) _ v54) ?_
     refine AF (by kernel_rfl) (wq rfl (qm rfl (qa rfl (qe rfl ?_))))
     obtain rfl := sj h
     refine Ac (sm [] [(10, iD v31.2), (11, bD false)] [(90000, .vec 1 (((v31.1.set ((v31.2).toNat) v53).set ((p1).toNat) v54).map Aj))] rfl rfl) (Al ?_)
     exact ⟨⟨[_, _], ⟨.tmp _ _ rfl, tm⟩, rfl⟩, ⟨rfl, tv⟩, tv⟩
theorem GQ (N : Nat) (rc : (List Int) → Int → Int → Int → ((Int × Int) → Option Int) → Option ((List Int))) (hrc : ∀ (p0 : List Int) (p1 : Int) (p2 : Int) (p3 : Int) (p4 : (Int × Int) → Option Int) (r : (List Int)), rc p0 p1 p2 p3 p4 = some r → Bi zA0 111 [oD (.own 90000), iD p1, iD p2, iD p3, oD (.clo (A9 (Dz false Aj false Aj) By p4))] [(.vec 1 (p0.map Aj), .vec 1 (r.map Aj))] [] (.tup [])) (p0 : List Int) (p1 : Int) (p2 : Int) (p3 : Int) (p4 : (Int × Int) → Option Int) (r : (List Int)) (h : C6 N rc p0 p1 p2 p3 p4 = some r) : Bi zA0 111 [oD (.own 90000), iD p1, iD p2, iD p3, oD (.clo (A9 (Dz false Aj false Aj) By p4))] [(.vec 1 (p0.map Aj), .vec 1 (r.map Aj))] [] (.tup []) := by
 unfold C6 at h
 refine A3 (n := 148) (rs := []) Tryz.func111 rfl rfl rfl (CH rfl) (CH rfl) rfl rfl (CH rfl) rfl (CH rfl) fun w0 S0 GL => KV ?_
 refine Ac (sm [] [(0, oD (.own 90000)), (1, iD p1), (2, iD p2), (3, iD p3), (4, oD (.clo (A9 (Dz false Aj false Aj) By p4)))] [(90000, .vec 1 (p0.map Aj))] rfl rfl) (wq rfl (qa rfl (Aa (wq rfl (qe rfl ?_)))))
 refine Av (L := Bj N p4 rc) h (fun v1 => mk [(0, oD (.own 90000)), (1, iD v1.2.1), (2, iD v1.2.2.1), (3, iD v1.2.2.2.1), (4, oD (.clo (A9 (Dz false Aj false Aj) By p4))), (10, bD v1.2.2.2.2.1), (11, bD v1.2.2.2.2.2)] [(90000, .vec 1 (v1.1.map Aj))]) (fun v2 => mk [] []) (fun _ _ => rfl) (sm [] _ _ rfl rfl) (fun j1 n1 v1 h => ?_) (fun v2 s h hs => ?_)
 ·unfold Bj at h
  refine AA (wq rfl (qw 2 rfl (BP rfl (qa rfl (Aa (wp rfl (qm rfl (Ka rfl (Aa ?_)))))))))
  refine A0 h (fun h => ?_) fun h => ?_
  ·refine wq rfl (qw 4 rfl ?_)
   refine Bg h fun v4 a4 h => Cl (ds0 := [_, _, _, _]) [90000] [] [true] (F8 N v1.1 v1.2.1 v1.2.2.1 p4 v4 a4) (.p rfl) Tq rfl ⟨rfl, rfl, rfl, rfl, tv⟩ rfl rfl (by decide) ⟨rfl, tv⟩ rfl (AU rfl) tv ⟨(fun h => by cases h), tv⟩ rfl rfl rfl ?_
   refine Aa ?_
   obtain rfl := sj h
   refine Al ⟨_, (sm [] [] [(90000, .vec 1 (v4.map Aj))] rfl rfl), ?_⟩
   exact ⟨⟨[], tv, rfl⟩, ⟨rfl, tv⟩, tv⟩
  ·refine Ag (wp rfl (qm rfl (BW rfl (Aa ?_))))
   refine A0 h (fun h => ?_) fun h => ?_
   ·refine wq rfl (qw 4 rfl ?_)
    refine Bg h fun v6 a6 h => Cl (ds0 := [_, _, _, _]) [90000] [] [true] (G7 N v1.1 v1.2.1 v1.2.2.1 p4 v6 a6) (.p rfl) TF rfl ⟨rfl, rfl, rfl, rfl, tv⟩ rfl rfl (by decide) ⟨rfl, tv⟩ rfl (AU rfl) tv ⟨(fun h => by cases h), tv⟩ rfl rfl rfl ?_
    refine Aa ?_
    obtain rfl := sj h
    refine Al ⟨_, (sm [] [] [(90000, .vec 1 (v6.map Aj))] rfl rfl), ?_⟩
    exact ⟨⟨[], tv, rfl⟩, ⟨rfl, tv⟩, tv⟩
   ·refine Ag ?_
    refine AG h (fun v7 => mk [(0, oD (.own 90000)), (1, iD v1.2.1), (2, iD v1.2.2.1), (3, iD v7.2), (4, oD (.clo (A9 (Dz false Aj false Aj) By p4))), (10, bD v1.2.2.2.2.1), (11, bD v1.2.2.2.2.2), (12, iD ((wI .i64 (v1.2.2.1 - v1.2.1))))] [(90000, .vec 1 (v7.1.map Aj))]) (fun j7 h => ?_) (fun v7 h => ?_)
    ·refine wq rfl (qm rfl (BN rfl (Aa ?_)))
     refine A0 h (fun h => ?_) fun h => ?_
     ·refine wq rfl (qw 4 rfl ?_)
      refine Bg h fun v9 a9 h => Cl (ds0 := [_, _, _, _]) [90000] [] [true] (F0 N v1.1 v1.2.1 v1.2.2.1 p4 v9 a9) (.p rfl) Tw rfl ⟨rfl, rfl, rfl, rfl, tv⟩ rfl rfl (by decide) ⟨rfl, tv⟩ rfl (AU rfl) tv ⟨(fun h => by cases h), tv⟩ rfl rfl rfl ?_
      refine Aa (Ad Ap rfl (qm rfl (BP rfl (qe rfl ?_))))
      exact sn [] h
     ·refine Ag ?_
      exact sn [] h
    ·refine wq rfl (qw 4 rfl ?_)
     refine Bg h fun v10 a10 h => CX [] [90000] (Gx N v7.1 v1.2.1 v1.2.2.1 p4 v10 a10) Ut BO rfl (qm rfl (qx rfl (qx rfl (qa rfl (qe rfl ?_)))))
     refine AG h (fun v11 => mk [(0, oD (.own 90000)), (1, iD v1.2.1), (2, iD v1.2.2.1), (3, iD v7.2), (4, oD (.clo (A9 (Dz false Aj false Aj) By p4))), (10, bD v1.2.2.2.2.1), (11, bD v1.2.2.2.2.2), (12, iD ((wI .i64 (v1.2.2.1 - v1.2.1)))), (13, iD v11.2.1), (14, iD v11.2.2)] [(90000, .vec 1 (v11.1.map Aj))]) (fun j11 h => ?_) (fun v11 h => ?_)
     ·refine wq rfl (qm rfl (BW rfl (Aa ?_)))
      refine A0 h (fun h => ?_) fun h => ?_
      ·refine wq rfl (qw 4 rfl ?_)
       refine Bg h fun v13 a13 h => Cl (ds0 := [_, _, _, _]) [90000] [] [true] (Gi N v7.1 v1.2.1 v1.2.2.1 p4 v13 a13) (.p rfl) Uk rfl ⟨rfl, rfl, rfl, rfl, tv⟩ rfl rfl (by decide) ⟨rfl, tv⟩ rfl (AU rfl) tv ⟨(fun h => by cases h), tv⟩ rfl rfl rfl ?_
       refine Aa (wq rfl (qm rfl (BP rfl (qw 2 rfl (BP rfl (BP rfl (qa rfl (Aa (Ad Ap rfl (qe rfl ?_))))))))))
       exact sn [] h
      ·refine Ag ?_
       exact sn [] h
     ·refine AG h (fun v14 => mk [(0, oD (.own 90000)), (1, iD v1.2.1), (2, iD v1.2.2.1), (3, iD v7.2), (4, oD (.clo (A9 (Dz false Aj false Aj) By p4))), (10, bD v1.2.2.2.2.1), (11, bD v1.2.2.2.2.2), (12, iD ((wI .i64 (v1.2.2.1 - v1.2.1)))), (13, iD v11.2.1)] [(90000, .vec 1 (v14.map Aj))]) (fun j14 h => ?_) (fun v14 h => ?_)
      ·refine AG h (fun v15 => mk [(0, oD (.own 90000)), (1, iD v1.2.1), (2, iD v1.2.2.1), (3, iD v7.2), (4, oD (.clo (A9 (Dz false Aj false Aj) By p4))), (10, bD v1.2.2.2.2.1), (11, bD v1.2.2.2.2.2), (12, iD ((wI .i64 (v1.2.2.1 - v1.2.1)))), (13, iD v11.2.1), (75, bD v15)] [(90000, .vec 1 (v11.1.map Aj))]) (fun j15 h => ?_) (fun v15 h => ?_)
       ·refine Ad Ap rfl (qw 2 rfl ?_)
        refine DE 69 h rfl (fun h => ?_) fun h => ?_
        ·refine qm rfl (qp rfl (qm rfl ?_))
         refine DE 72 h rfl (fun h => ?_) fun h => ?_
         ·refine qm rfl (BW rfl (qp rfl (Aa ?_)))
          exact sn [] h
         ·refine qw 2 rfl (qp rfl (Aa ?_))
          exact sn [] h
        ·refine qn rfl (qp rfl (qw 3 rfl (qp rfl (Aa ?_))))
         exact sn [] h
       ·refine A0 h (fun h => ?_) fun h => ?_
        ·refine wq rfl (qw 4 rfl ?_)
         refine Bg h fun v19 a19 h => Cl (ds0 := [_, _, _, _]) [90000] [] [true] (EU N v11.1 v1.2.1 v1.2.2.1 p4 v19 a19) (.p rfl) S4 rfl ⟨rfl, rfl, rfl, rfl, tv⟩ rfl rfl (by decide) ⟨rfl, tv⟩ rfl (AU rfl) tv ⟨(fun h => by cases h), tv⟩ rfl rfl rfl ?_
         refine Aa ?_
         refine A0 h (fun h => ?_) fun h => ?_
         ·obtain rfl := sj h
          refine Al ⟨_, (sm [] [] [(90000, .vec 1 (v19.2.map Aj))] rfl rfl), ?_⟩
          exact ⟨⟨[], tv, rfl⟩, ⟨rfl, tv⟩, tv⟩
         ·refine Ag ?_
          exact sn [] h
        ·refine Ag ?_
         exact sn [] h
      ·refine Ay ?_
       refine AG h (fun v21 => mk [(0, oD (.own 90000)), (1, iD v1.2.1), (2, iD v1.2.2.1), (3, iD v7.2), (4, oD (.clo (A9 (Dz false Aj false Aj) By p4))), (10, bD v1.2.2.2.2.1), (11, bD v1.2.2.2.2.2), (12, iD ((wI .i64 (v1.2.2.1 - v1.2.1)))), (13, iD v11.2.1), (97, bD v21)] [(90000, .vec 1 (v14.map Aj))]) (fun j21 h => ?_) (fun v21 h => ?_)
       ·refine Ad Ap rfl (qm rfl (DK rfl (qm rfl ?_)))
        refine DE 83 h rfl (fun h => ?_) fun h => ?_
        ·refine qw 3 rfl (BP rfl ?_)
         refine A8 h fun v23 a23 b23 h => qI AK AS a23 (Ab b23) rfl (qj Ch (Ab b23) rfl (qw 2 rfl ?_))
         refine A8 h fun v24 a24 b24 h => qI AK AS a24 (Ab b24) rfl (qj Ch (Ab b24) rfl ?_)
         refine Bg h fun v25 a25 h => CV (ds0 := [_, _]) (ar := (Dz false Aj false Aj) ((v23, v24))) (.g rfl rfl) rfl rfl ⟨rfl, rfl, tv⟩ rfl rfl rfl (C0 (Ep _ _ _ _ CP CP) a25) ?_
         refine AN rfl (BN rfl (qp rfl (AF (by kernel_rfl) ?_)))
         exact sn [] h
        ·refine qw 13 rfl (qp rfl (AF (by kernel_rfl) ?_))
         exact sn [] h
       ·refine A0 h (fun h => ?_) fun h => ?_
        ·refine wq rfl (qw 5 rfl ?_)
         refine Bg h fun v27 a27 h => Cl (ds0 := [_, _, _, _, _]) [90000] [] [true] (FG N v14 v1.2.1 v1.2.2.1 v11.2.1 p4 v27 a27) (.p rfl) S7 rfl ⟨rfl, rfl, rfl, rfl, rfl, tv⟩ rfl rfl (by decide) ⟨rfl, tv⟩ rfl (AU rfl) tv ⟨(fun h => by cases h), tv⟩ rfl rfl rfl ?_
         refine qa rfl (Aa (wq rfl (qm rfl (qa rfl (Aa (AJ ?_))))))
         exact sn [] h
        ·refine Ag (wq rfl (qw 5 rfl ?_))
         refine Bg h fun v28 a28 h => Cl (ds0 := [_, _, _, _, _]) [90000] [] [true] (GO N v14 v1.2.1 v1.2.2.1 v11.2.1 p4 v28 a28) (.p rfl) SI rfl ⟨rfl, rfl, rfl, rfl, rfl, tv⟩ rfl rfl (by decide) ⟨rfl, tv⟩ rfl (AU rfl) tv ⟨(fun h => by cases h), tv⟩ rfl rfl rfl ?_
         refine qm rfl (qx rfl (qx rfl (qa rfl (qa rfl (Aa (wq rfl (qm rfl (qa rfl (Aa (wq rfl (qw 2 rfl (BP rfl (qw 2 rfl (BP rfl (qa rfl (qa rfl (Aa (wq rfl (qm rfl (Lk rfl (by decide) (qa rfl (Aa (wq rfl (qw 2 rfl (AN rfl (Aa ?_))))))))))))))))))))))))))
         refine A0 h (fun h => ?_) fun h => ?_
         ·refine wq rfl (qw 2 rfl (CT rfl (qa rfl (Aa (wq rfl (qw 5 rfl ?_))))))
          refine Bg h fun v30 a30 h => Cl (ds0 := [_, _, _, _, _]) [90000] [] [true] (hrc v28.2.2 v1.2.1 v28.1 v7.2 p4 v30 a30) (.p rfl) PB rfl ⟨rfl, rfl, rfl, rfl, rfl, tv⟩ rfl rfl (by decide) ⟨rfl, tv⟩ rfl (AU rfl) tv ⟨(fun h => by cases h), tv⟩ rfl rfl rfl ?_
          refine Aa (Ad Ap rfl (qm rfl (AE rfl (qe rfl ?_))))
          exact sn [] h
         ·refine wq rfl (qw 2 rfl (CT rfl (qa rfl (Aa (wq rfl (qw 2 rfl (AE rfl (qw 3 rfl ?_))))))))
          refine Bg h fun v31 a31 h => Cl (ds0 := [_, _, _, _, _]) [90000] [] [true] (hrc v28.2.2 ((wI .i64 (v28.1 + 1))) v1.2.2.1 v7.2 p4 v31 a31) (.p rfl) PB rfl ⟨rfl, rfl, rfl, rfl, rfl, tv⟩ rfl rfl (by decide) ⟨rfl, tv⟩ rfl (AU rfl) tv ⟨(fun h => by cases h), tv⟩ rfl rfl rfl ?_
          refine Aa (Ad Ap rfl (qm rfl (qe rfl ?_)))
          exact sn [] h
 ·cases h
theorem Ew (N : Nat) : ∀ (k : Nat) (p0 : List Int) (p1 : Int) (p2 : Int) (p3 : Int) (p4 : (Int × Int) → Option Int) (r : (List Int)), Cd N k p0 p1 p2 p3 p4 = some r → Bi zA0 111 [oD (.own 90000), iD p1, iD p2, iD p3, oD (.clo (A9 (Dz false Aj false Aj) By p4))] [(.vec 1 (p0.map Aj), .vec 1 (r.map Aj))] [] (.tup [])
 | 0, _, _, _, _, _, _, h => by cases h
 | k + 1, p0, p1, p2, p3, p4, r, h => GQ N (Cd N k) (Ew N k) p0 p1 p2 p3 p4 r h
theorem Hc (N : Nat) (p0 : List Int) (p1 : Int) (p2 : Int) (p3 : Int) (p4 : (Int × Int) → Option Int) (r : (List Int)) (h : EF N p0 p1 p2 p3 p4 = some r) : Bi zA0 111 [oD (.own 90000), iD p1, iD p2, iD p3, oD (.clo (A9 (Dz false Aj false Aj) By p4))] [(.vec 1 (p0.map Aj), .vec 1 (r.map Aj))] [] (.tup []) := Ew N N p0 p1 p2 p3 p4 r h
theorem Hu (N : Nat) (p0 : List Int) (p1 : (Int × Int) → Option Int) (r : (List Int)) (h : Dr N p0 p1 = some r) : Bi zA0 77 [oD (.own 90000), oD (.clo (A9 (Dz false Aj false Aj) By p1))] [(.vec 1 (p0.map Aj), .vec 1 (r.map Aj))] [] (.tup []) := by
 unfold Dr at h
 refine A3 (n := 14) (rs := []) Tryz.func77 rfl rfl rfl (CH rfl) (CH rfl) rfl rfl (CH rfl) rfl (CH rfl) fun w0 S0 GL => KV ?_
 refine Ac (sm [] [(0, oD (.own 90000)), (1, oD (.clo (A9 (Dz false Aj false Aj) By p1)))] [(90000, .vec 1 (p0.map Aj))] rfl rfl) (wq rfl (qm rfl (Eu AK rfl (qa rfl (Aa (Ad Ap rfl (qw 3 rfl (GG Ry Or rfl ?_))))))))
 refine Bg h fun v1 a1 h => As [] (IU N ((wI .u64 ((p0.length : Int)))) v1 a1) Rx rfl (qm rfl ?_)
 refine Bg h fun v2 a2 h => Cl (ds0 := [_, _, _, _, _]) [90000] [] [true] (Hc N p0 0 ((p0.length : Int)) v1 p1 v2 a2) (.p rfl) PB rfl ⟨rfl, rfl, rfl, rfl, rfl, tv⟩ rfl rfl (by decide) ⟨rfl, tv⟩ rfl (AU rfl) tv ⟨(fun h => by cases h), tv⟩ rfl rfl rfl ?_
 refine Aa ?_
 obtain rfl := sj h
 refine ⟨_, (sm [] [] [(90000, .vec 1 (v2.map Aj))] rfl rfl), ?_⟩
 exact ⟨⟨[], tv, rfl⟩, ⟨rfl, tv⟩, tv⟩
theorem Ij (N : Nat) (p0 : Int) (r : Int) (h : Ej N p0 = some r) : Ak zA0 150 [pD (.val (.int .u32 p0))] [] (iD r) := by
 unfold Ej at h
 refine cw (n := 21) (rs := [.tmp 2]) Tryz.func150 fun w0 S0 => ?_
 refine wq rfl (qa rfl (Aa (wq rfl (qm rfl (ES rfl (by decide) ?_)))))
 refine Bg h fun v1 a1 h => GS (.p rfl) rfl rfl Nl a1 ?_
 refine qm rfl (ES rfl (by decide) (GJ rfl ?_))
 refine Bg h fun v2 a2 h => GS (.p rfl) rfl rfl Nl a2 ?_
 refine AE rfl (qm rfl (ES rfl (by decide) (GJ rfl ?_)))
 refine Bg h fun v3 a3 h => GS (.p rfl) rfl rfl Nl a3 ?_
 refine AE rfl (qm rfl (GJ rfl ?_))
 refine Bg h fun v4 a4 h => GS (.p rfl) rfl rfl Nl a4 ?_
 refine AE rfl (GG Uw RA rfl (qa rfl (AF (by kernel_rfl) ?_)))
 obtain rfl := sj h
 refine Ac (sm [] [(2, iD ((wI .i64 ((wI .u8 ((wI .u8 ((wI .u8 (v1 + v2)) + v3)) + v4))))))] [] rfl rfl) (Al ?_)
 exact ⟨⟨[_], tm, rfl⟩, tv⟩
theorem If (N : Nat) (p0 : Int) (r : Int) (h : Ec N p0 = some r) : Ak zA0 151 [pD (.val (.int .u64 p0))] [] (iD r) := by
 unfold Ec at h
 refine cw (n := 35) (rs := [.tmp 2]) Tryz.func151 fun w0 S0 => ?_
 refine wq rfl (qa rfl (Aa (wq rfl (qm rfl (ES rfl (by decide) (GJ rfl (qm rfl (GJ rfl (AE rfl (qa rfl (Aa (wq rfl (qm rfl (ES rfl (by decide) (GJ rfl (qm rfl (GJ rfl (AE rfl (qa rfl (Aa (wq rfl (qm rfl (ES rfl (by decide) (qm rfl (AE rfl (GJ rfl (qa rfl (Aa (wq rfl (qw 2 rfl (ES rfl (by decide) (AE rfl (qa rfl ?_)))))))))))))))))))))))))))))))))
 refine Aa (wq rfl (qw 2 rfl (ES rfl (by decide) (AE rfl (qa rfl (Aa (wq rfl (qw 2 rfl (ES rfl (by decide) (AE rfl (qa rfl (Aa (wq rfl (qm rfl (GG OX RA rfl (GJ rfl (qe rfl ?_)))))))))))))))))
 obtain rfl := sj h
 refine Ac (sm [] [(2, iD ((Ax .i64 ((wI .i64 ((wI .u64 ((wI .u64 ((wI .u64 ((Ax .u64 ((wI .u64 ((AL .u64 ((wI .u64 ((Ax .u64 ((AL .u64 ((wI .u64 ((Ax .u64 ((AL .u64 p0 1)) 6148914691236517205) + (Ax .u64 p0 6148914691236517205)))) 2)) 3689348814741910323) + (Ax .u64 ((wI .u64 ((Ax .u64 ((AL .u64 p0 1)) 6148914691236517205) + (Ax .u64 p0 6148914691236517205)))) 3689348814741910323)))) 4) + (wI .u64 ((Ax .u64 ((AL .u64 ((wI .u64 ((Ax .u64 ((AL .u64 p0 1)) 6148914691236517205) + (Ax .u64 p0 6148914691236517205)))) 2)) 3689348814741910323) + (Ax .u64 ((wI .u64 ((Ax .u64 ((AL .u64 p0 1)) 6148914691236517205) + (Ax .u64 p0 6148914691236517205)))) 3689348814741910323)))))) 1085102592571150095) + (AL .u64 ((Ax .u64 ((wI .u64 ((AL .u64 ((wI .u64 ((Ax .u64 ((AL .u64 ((wI .u64 ((Ax .u64 ((AL .u64 p0 1)) 6148914691236517205) + (Ax .u64 p0 6148914691236517205)))) 2)) 3689348814741910323) + (Ax .u64 ((wI .u64 ((Ax .u64 ((AL .u64 p0 1)) 6148914691236517205) + (Ax .u64 p0 6148914691236517205)))) 3689348814741910323)))) 4) + (wI .u64 ((Ax .u64 ((AL .u64 ((wI .u64 ((Ax .u64 ((AL .u64 p0 1)) 6148914691236517205) + (Ax .u64 p0 6148914691236517205)))) 2)) 3689348814741910323) + (Ax .u64 ((wI .u64 ((Ax .u64 ((AL .u64 p0 1)) 6148914691236517205) + (Ax .u64 p0 6148914691236517205)))) 3689348814741910323)))))) 1085102592571150095)) 8))) + (AL .u64 ((wI .u64 ((Ax .u64 ((wI .u64 ((AL .u64 ((wI .u64 ((Ax .u64 ((AL .u64 ((wI .u64 ((Ax .u64 ((AL .u64 p0 1)) 6148914691236517205) + (Ax .u64 p0 6148914691236517205)))) 2)) 3689348814741910323) + (Ax .u64 ((wI .u64 ((Ax .u64 ((AL .u64 p0 1)) 6148914691236517205) + (Ax .u64 p0 6148914691236517205)))) 3689348814741910323)))) 4) + (wI .u64 ((Ax .u64 ((AL .u64 ((wI .u64 ((Ax .u64 ((AL .u64 p0 1)) 6148914691236517205) + (Ax .u64 p0 6148914691236517205)))) 2)) 3689348814741910323) + (Ax .u64 ((wI .u64 ((Ax .u64 ((AL .u64 p0 1)) 6148914691236517205) + (Ax .u64 p0 6148914691236517205)))) 3689348814741910323)))))) 1085102592571150095) + (AL .u64 ((Ax .u64 ((wI .u64 ((AL .u64 ((wI .u64 ((Ax .u64 ((AL .u64 ((wI .u64 ((Ax .u64 ((AL .u64 p0 1)) 6148914691236517205) + (Ax .u64 p0 6148914691236517205)))) 2)) 3689348814741910323) + (Ax .u64 ((wI .u64 ((Ax .u64 ((AL .u64 p0 1)) 6148914691236517205) + (Ax .u64 p0 6148914691236517205)))) 3689348814741910323)))) 4) + (wI .u64 ((Ax .u64 ((AL .u64 ((wI .u64 ((Ax .u64 ((AL .u64 p0 1)) 6148914691236517205) + (Ax .u64 p0 6148914691236517205)))) 2)) 3689348814741910323) + (Ax .u64 ((wI .u64 ((Ax .u64 ((AL .u64 p0 1)) 6148914691236517205) + (Ax .u64 p0 6148914691236517205)))) 3689348814741910323)))))) 1085102592571150095)) 8)))) 16))) + (AL .u64 ((wI .u64 ((wI .u64 ((Ax .u64 ((wI .u64 ((AL .u64 ((wI .u64 ((Ax .u64 ((AL .u64 ((wI .u64 ((Ax .u64 ((AL .u64 p0 1)) 6148914691236517205) + (Ax .u64 p0 6148914691236517205)))) 2)) 3689348814741910323) + (Ax .u64 ((wI .u64 ((Ax .u64 ((AL .u64 p0 1)) 6148914691236517205) + (Ax .u64 p0 6148914691236517205)))) 3689348814741910323)))) 4) + (wI .u64 ((Ax .u64 ((AL .u64 ((wI .u64 ((Ax .u64 ((AL .u64 p0 1)) 6148914691236517205) + (Ax .u64 p0 6148914691236517205)))) 2)) 3689348814741910323) + (Ax .u64 ((wI .u64 ((Ax .u64 ((AL .u64 p0 1)) 6148914691236517205) + (Ax .u64 p0 6148914691236517205)))) 3689348814741910323)))))) 1085102592571150095) + (AL .u64 ((Ax .u64 ((wI .u64 ((AL .u64 ((wI .u64 ((Ax .u64 ((AL .u64 ((wI .u64 ((Ax .u64 ((AL .u64 p0 1)) 6148914691236517205) + (Ax .u64 p0 6148914691236517205)))) 2)) 3689348814741910323) + (Ax .u64 ((wI .u64 ((Ax .u64 ((AL .u64 p0 1)) 6148914691236517205) + (Ax .u64 p0 6148914691236517205)))) 3689348814741910323)))) 4) + (wI .u64 ((Ax .u64 ((AL .u64 ((wI .u64 ((Ax .u64 ((AL .u64 p0 1)) 6148914691236517205) + (Ax .u64 p0 6148914691236517205)))) 2)) 3689348814741910323) + (Ax .u64 ((wI .u64 ((Ax .u64 ((AL .u64 p0 1)) 6148914691236517205) + (Ax .u64 p0 6148914691236517205)))) 3689348814741910323)))))) 1085102592571150095)) 8))) + (AL .u64 ((wI .u64 ((Ax .u64 ((wI .u64 ((AL .u64 ((wI .u64 ((Ax .u64 ((AL .u64 ((wI .u64 ((Ax .u64 ((AL .u64 p0 1)) 6148914691236517205) + (Ax .u64 p0 6148914691236517205)))) 2)) 3689348814741910323) + (Ax .u64 ((wI .u64 ((Ax .u64 ((AL .u64 p0 1)) 6148914691236517205) + (Ax .u64 p0 6148914691236517205)))) 3689348814741910323)))) 4) + (wI .u64 ((Ax .u64 ((AL .u64 ((wI .u64 ((Ax .u64 ((AL .u64 p0 1)) 6148914691236517205) + (Ax .u64 p0 6148914691236517205)))) 2)) 3689348814741910323) + (Ax .u64 ((wI .u64 ((Ax .u64 ((AL .u64 p0 1)) 6148914691236517205) + (Ax .u64 p0 6148914691236517205)))) 3689348814741910323)))))) 1085102592571150095) + (AL .u64 ((Ax .u64 ((wI .u64 ((AL .u64 ((wI .u64 ((Ax .u64 ((AL .u64 ((wI .u64 ((Ax .u64 ((AL .u64 p0 1)) 6148914691236517205) + (Ax .u64 p0 6148914691236517205)))) 2)) 3689348814741910323) + (Ax .u64 ((wI .u64 ((Ax .u64 ((AL .u64 p0 1)) 6148914691236517205) + (Ax .u64 p0 6148914691236517205)))) 3689348814741910323)))) 4) + (wI .u64 ((Ax .u64 ((AL .u64 ((wI .u64 ((Ax .u64 ((AL .u64 p0 1)) 6148914691236517205) + (Ax .u64 p0 6148914691236517205)))) 2)) 3689348814741910323) + (Ax .u64 ((wI .u64 ((Ax .u64 ((AL .u64 p0 1)) 6148914691236517205) + (Ax .u64 p0 6148914691236517205)))) 3689348814741910323)))))) 1085102592571150095)) 8)))) 16)))) 32)))))) 127)))] [] rfl rfl) (Al ?_)
 exact ⟨⟨[_], tm, rfl⟩, tv⟩
theorem GM (N : Nat) (p0 : Int) (r : Int) (h : DB N p0 = some r) : Ak zA0 113 [pD (.val (.int .u64 p0))] [] (iD r) := by
 unfold DB at h
 refine cw (n := 8) (rs := [.tmp 2]) Tryz.func113 fun w0 S0 => ?_
 refine wq rfl (qa rfl (Aa (Ay ?_)))
 refine A0 h (fun h => ?_) fun h => ?_
 ·refine wq rfl (qm rfl (GG Oc Mu rfl ?_))
  refine Bg h fun v2 a2 h => As [] (Ij N ((wI .u32 p0)) v2 a2) ST rfl (qe rfl ?_)
  obtain rfl := sj h
  refine Ac (sm [] [(2, iD v2)] [] rfl rfl) (Al ?_)
  exact ⟨⟨[_], tm, rfl⟩, tv⟩
 ·refine Ag (wq rfl (qm rfl ?_))
  refine Bg h fun v3 a3 h => As [] (If N p0 v3 a3) T5 rfl (qe rfl ?_)
  obtain rfl := sj h
  refine Ac (sm [] [(2, iD v3)] [] rfl rfl) (Al ?_)
  exact ⟨⟨[_], tm, rfl⟩, tv⟩
def Su : Go.Shelf.Ren := ⟨fun | 27 => 82 | 28 => 115 | 29 => 116 | n => n, fun | 0 => 0 | 3 => 3 | 4 => 4 | 5 => 5 | 22 => 147 | 25 => 71 | 27 => 145 | 53 => 180 | 54 => 181 | n => n, fun | 0 => 0 | 1 => 1 | n => n⟩
theorem R9 : Lays7.n27 zA0 Su := { mixed := Ap, f27 := Tryz.func82.trans (congrArg some (by kernel_rfl)), f28 := Tryz.func115.trans (congrArg some (by kernel_rfl)), f29 := Tryz.func116.trans (congrArg some (by kernel_rfl)), t0 := Tryz.underlying0, a0 := Tryz.isAgg0, z0 := Tryz.sizeOf0, v0 := Tryz.zeroValue0, i0 := by kernel_rfl, t3 := Tryz.underlying3, a3 := Tryz.isAgg3, z3 := Tryz.sizeOf3, v3 := Tryz.zeroValue3, i3 := by kernel_rfl, t4 := Tryz.underlying4, a4 := Tryz.isAgg4, z4 := Tryz.sizeOf4, v4 := Tryz.zeroValue4, i4 := by kernel_rfl, t5 := Tryz.underlying5, a5 := Tryz.isAgg5, z5 := Tryz.sizeOf5, v5 := Tryz.zeroValue5, i5 := by kernel_rfl, t22 := Tryz.underlying147, a22 := Tryz.isAgg147, z22 := Tryz.sizeOf147, v22 := Tryz.zeroValue147, i22 := by kernel_rfl, t25 := Tryz.underlying71, a25 := Tryz.isAgg71, z25 := Tryz.sizeOf71, v25 := Tryz.zeroValue71, i25 := by kernel_rfl, t27 := Tryz.underlying145, a27 := Tryz.isAgg145, z27 := Tryz.sizeOf145, v27 := Tryz.zeroValue145, i27 := by kernel_rfl, t53 := Tryz.underlying180, a53 := Tryz.isAgg180, z53 := Tryz.sizeOf180, v53 := Tryz.zeroValue180, i53 := by kernel_rfl, t54 := Tryz.underlying181, a54 := Tryz.isAgg181, z54 := Tryz.sizeOf181, g0 := by kernel_rfl, g1 := by kernel_rfl }
theorem HP (N : Nat) (p0 : Int) (r : Int) (h : E5 N p0 = some r) : Ak zA0 82 [pD (.val (.int .u64 p0))] [] (iD r) := UD R9 (by kernel_rfl) h
theorem Fb (N : Nat) (p0 : Int) (r : (List Int)) (h : Dt N p0 = some r) : Ak zA0 52 [pD (.val (.int .u64 p0))] [(1, r.map Aq)] (oD (.own 0)) := by
 unfold Dt at h
 refine cw (n := 18) (rs := [.tmp 2]) Tryz.func52 fun w0 S0 => ?_
 refine wq rfl (qa rfl (Aa (wq rfl (qa rfl (Aa (wp rfl (qm rfl (qe rfl ?_))))))))
 refine Av (L := EN N) h (fun v1 => mk [(3, oD (.own 2001)), (4, pD (.val (.int .u64 v1.2)))] [(2001, .vec 1 (v1.1.map Aq))]) (fun v2 => mk [(3, oD (.own 2002))] [(2002, .vec 1 (v2.map Aq))]) (fun _ _ => rfl) ((Bc 3 2003 1 rfl rfl rfl).trans (sm [(2001, 2003)] _ _ rfl rfl)) (fun j1 n1 v1 h => ?_) (fun v2 s h hs => ?_)
 ·unfold EN at h
  refine wp rfl (qm rfl (BJ rfl (Aa ?_)))
  refine A0 h (fun h => ?_) fun h => ?_
  ·refine Ag (Ay (AA (Ad Ap rfl (qw 2 rfl ?_))))
   refine Bg h fun v4 a4 h => As [] (HP N v1.2 v4 a4) U3 rfl (ED AC DS KL rfl ?_)
   refine Il h fun c5 h => EQ (f := Aq) AC AC DS Ns KL c5 rfl (qa rfl (Aa (Ad Ap rfl (qw 2 rfl (BP rfl (GJ rfl (qe rfl ?_)))))))
   exact sn [(2001, 16)] h
  ·refine AJ ?_
   exact sn [(2002, 2001)] h
 ·refine Ac hs (wq rfl (qm rfl (qe rfl ?_)))
  obtain rfl := sj h
  refine Ac (sm [(1000, 2002)] [(2, oD (.own 1000))] [(1000, .vec 1 (v2.map Aq))] rfl rfl) (Al ?_)
  exact ⟨⟨[_], tm, rfl⟩, ⟨rfl, tv⟩⟩
theorem IY (N : Nat) (p0 : Int) (r : Bool) (h : Fm N p0 = some r) : Ak zA0 173 [iD p0] [] (bD r) := by
 unfold Fm at h
 refine cw (n := 6) (rs := [.tmp 2]) Tryz.func173 fun w0 S0 => ?_
 refine wq rfl (qa rfl (Aa (wq rfl (qw 2 rfl (BJ rfl (qe rfl ?_))))))
 obtain rfl := sj h
 refine Ac (sm [] [(2, bD ((p0 != p0)))] [] rfl rfl) (Al ?_)
 exact ⟨⟨[_], tm, rfl⟩, tv⟩
theorem J3 (N : Nat) (p0 : Int) (p1 : Int) (r : Int) (h : Ga N p0 p1 = some r) : Ak zA0 152 [iD p0, iD p1] [] (iD r) := by
 unfold Ga at h
 refine cw (n := 20) (rs := [.tmp 4]) Tryz.func152 fun w0 S0 => ?_
 refine wq rfl (qa rfl (Aa (wq rfl (qm rfl ?_))))
 refine Bg h fun v1 a1 h => As [] (IY N p0 v1 a1) RH rfl (qa rfl (Aa (wq rfl (qm rfl ?_))))
 refine Bg h fun v2 a2 h => As [] (IY N p1 v2 a2) RH rfl (qa rfl (Aa (wp rfl (qm rfl (Aa ?_)))))
 refine A0 h (fun h => ?_) fun h => ?_
 ·refine wp rfl (qm rfl (Aa ?_))
  refine A0 h (fun h => ?_) fun h => ?_
  ·refine wq rfl (qe rfl ?_)
   obtain rfl := sj h
   refine Ac (sm [] [(4, iD 0)] [] rfl rfl) (Al ?_)
   exact ⟨⟨[_], tm, rfl⟩, tv⟩
  ·refine Ag (wq rfl (qe rfl ?_))
   obtain rfl := sj h
   refine Ac (sm [] [(4, iD ((-1)))] [] rfl rfl) (Al ?_)
   exact ⟨⟨[_], tm, rfl⟩, tv⟩
 ·refine Ag (wp rfl (qm rfl (Aa ?_)))
  refine A0 h (fun h => ?_) fun h => ?_
  ·refine wq rfl (qe rfl ?_)
   obtain rfl := sj h
   refine Ac (sm [] [(4, iD 1)] [] rfl rfl) (Al ?_)
   exact ⟨⟨[_], tm, rfl⟩, tv⟩
  ·refine Ag (wp rfl (qw 2 rfl (AN rfl (Aa ?_))))
   refine A0 h (fun h => ?_) fun h => ?_
   ·refine wq rfl (qe rfl ?_)
    obtain rfl := sj h
    refine Ac (sm [] [(4, iD ((-1)))] [] rfl rfl) (Al ?_)
    exact ⟨⟨[_], tm, rfl⟩, tv⟩
   ·refine Ag (wp rfl (qw 2 rfl (DK rfl (Aa ?_))))
    refine A0 h (fun h => ?_) fun h => ?_
    ·refine wq rfl (qe rfl ?_)
     obtain rfl := sj h
     refine Ac (sm [] [(4, iD 1)] [] rfl rfl) (Al ?_)
     exact ⟨⟨[_], tm, rfl⟩, tv⟩
    ·refine Ag (wq rfl (qe rfl ?_))
     obtain rfl := sj h
     refine Ac (sm [] [(4, iD 0)] [] rfl rfl) (Al ?_)
     exact ⟨⟨[_], tm, rfl⟩, tv⟩
theorem Ed (N : Nat) (p0 : List Int) (p1 : List Int) (r : Int) (h : Cm N p0 p1 = some r) : Ak zA0 114 [pD (.sl (p0.map Aq)), pD (.sl (p1.map Aq))] [] (iD r) := by
 unfold Cm at h
 refine cw (n := 36) (rs := [.tmp 4]) Tryz.func114 fun w0 S0 => ?_
 refine wq rfl (qa rfl (Aa (wp rfl (qm rfl (AD AC rfl (qm rfl (Aa ?_)))))))
 refine Av (L := CF N p0 p1) h (fun v1 => mk [(0, pD (.sl (p0.map Aq))), (1, pD (.sl (p1.map Aq))), (9, pD (.sl (p0.map Aq))), (10, iD ((p0.length : Int))), (11, iD v1)] []) (fun v2 => mk [(0, pD (.sl (p0.map Aq))), (1, pD (.sl (p1.map Aq)))] []) (fun _ _ => rfl) (sm [] _ _ rfl rfl) (fun j1 n1 v1 h => ?_) (fun v2 s h hs => ?_)
 ·unfold CF at h
  refine wq rfl (AN rfl (Aa (Ay ?_)))
  refine A0 h (fun h => ?_) fun h => ?_
  ·refine Ag (Ay (AA (wq rfl (qm rfl ?_))))
   refine A8 h fun v4 a4 b4 h => qi AC DS a4 (Ab b4) rfl (qk C2 rfl (qa rfl (qa rfl (Aa (wp rfl (qw 2 rfl (AD AC rfl (CT rfl (Aa ?_)))))))))
   refine A0 h (fun h => ?_) fun h => ?_
   ·refine wq rfl (qe rfl ?_)
    obtain rfl := sj h
    refine Ac (sm [] [(4, iD 1)] [] rfl rfl) (Al ?_)
    exact ⟨⟨[_], tm, rfl⟩, tv⟩
   ·refine Ag (wq rfl (qw 2 rfl ?_))
    refine A8 h fun v6 a6 b6 h => qi AC DS a6 (Ab b6) rfl (qk C2 rfl (qa rfl (Aa (wq rfl (qw 2 rfl ?_)))))
    refine Bg h fun v7 a7 h => As [] (J3 N v4 v6 v7 a7) SQ rfl (qa rfl (Aa (wq rfl (qm rfl (BJ rfl (Aa ?_))))))
    refine A0 h (fun h => ?_) fun h => ?_
    ·refine wq rfl (qm rfl (qe rfl ?_))
     obtain rfl := sj h
     refine Ac (sm [] [(4, iD v7)] [] rfl rfl) (Al ?_)
     exact ⟨⟨[_], tm, rfl⟩, tv⟩
    ·refine Ag (Ad Ap rfl (AE rfl (qm rfl (Aa ?_))))
     exact sn [] h
  ·refine AJ ?_
   exact sn [] h
 ·refine Ac hs (wp rfl (qm rfl (AD AC rfl (qm rfl (AD AC rfl (AN rfl (Aa ?_)))))))
  refine A0 h (fun h => ?_) fun h => ?_
  ·refine wq rfl (qe rfl ?_)
   obtain rfl := sj h
   refine Ac (sm [] [(4, iD ((-1)))] [] rfl rfl) (Al ?_)
   exact ⟨⟨[_], tm, rfl⟩, tv⟩
  ·refine Ag (wq rfl (qe rfl ?_))
   obtain rfl := sj h
   refine Ac (sm [] [(4, iD 0)] [] rfl rfl) (Al ?_)
   exact ⟨⟨[_], tm, rfl⟩, tv⟩
theorem LH (N : Nat) (p0 : Int) (p1 : Int) (r : Int) (h : FN N p0 p1 = some r) : Ak zA0 78 [pD (.val (.int .u64 p0)), pD (.val (.int .u64 p1))] [] (iD r) := by
 unfold FN at h
 refine cw (n := 19) (rs := [.tmp 4]) Tryz.func78 fun w0 S0 => ?_
 refine wq rfl (qa rfl (Aa (wp rfl (qm rfl ?_))))
 refine Bg h fun v1 a1 h => As [] (GM N p0 v1 a1) RE rfl (qm rfl ?_)
 refine Bg h fun v2 a2 h => As [] (GM N p1 v2 a2) RE rfl (BP rfl (qa rfl (Aa (wq rfl (qm rfl (BJ rfl (Aa ?_)))))))
 refine A0 h (fun h => ?_) fun h => ?_
 ·refine wq rfl (qm rfl (qe rfl ?_))
  obtain rfl := sj h
  refine Ac (sm [] [(4, iD ((wI .i64 (v1 - v2))))] [] rfl rfl) (Al ?_)
  exact ⟨⟨[_], tm, rfl⟩, tv⟩
 ·refine Ag (wq rfl (qm rfl ?_))
  refine Bg h fun v4 a4 h => As [2001] (Fb N p0 v4 a4) PJ rfl (qm rfl ?_)
  refine Bg h fun v5 a5 h => As [2002] (Fb N p1 v5 a5) PJ rfl ?_
  refine Bg h fun v6 a6 h => CX [] [2001, 2002] (Ed N v4 v5 v6 a6) PL BO rfl (qe rfl ?_)
  obtain rfl := sj h
  refine Ac (sm [] [(4, iD v6)] [] rfl rfl) (Al ?_)
  exact ⟨⟨[_], tm, rfl⟩, tv⟩
theorem Gk (N : Nat) (p0 : List Int) (p1 : Int) (r : Int) (h : Dq N p0 p1 = some r) : Ak zA0 72 [pD (.sl (p0.map Aq)), iD p1] [] (iD r) := by
 unfold Dq at h
 refine cw (n := 19) (rs := [.tmp 4]) Tryz.func72 fun w0 S0 => ?_
 refine wq rfl (qa rfl (Aa (wp rfl (qm rfl (AD AC rfl (qm rfl (Aa ?_)))))))
 refine Av (L := CU N p0 p1) h (fun v1 => mk [(0, pD (.sl (p0.map Aq))), (1, iD p1), (7, iD ((p0.length : Int))), (8, iD v1)] []) (fun v2 => mk [] []) (fun _ _ => rfl) (sm [] _ _ rfl rfl) (fun j1 n1 v1 h => ?_) (fun v2 s h hs => ?_)
 ·unfold CU at h
  refine wq rfl (AN rfl (Aa (Ay ?_)))
  refine A0 h (fun h => ?_) fun h => ?_
  ·refine Ag (Ay (AA (wq rfl (qm rfl (qa rfl (Aa (wq rfl (qw 3 rfl ?_))))))))
   refine A8 h fun v4 a4 b4 h => qi AC DS a4 (Ab b4) rfl (qk C2 rfl (BW rfl (Aa ?_)))
   refine A0 h (fun h => ?_) fun h => ?_
   ·refine wq rfl (qm rfl (qe rfl ?_))
    obtain rfl := sj h
    refine Ac (sm [] [(4, iD v1)] [] rfl rfl) (Al ?_)
    exact ⟨⟨[_], tm, rfl⟩, tv⟩
   ·refine Ag (Ad Ap rfl (AE rfl (qm rfl (Aa ?_))))
    exact sn [] h
  ·refine AJ ?_
   exact sn [] h
 ·refine Ac hs (wq rfl (qe rfl ?_))
  obtain rfl := sj h
  refine Ac (sm [] [(4, iD ((-1)))] [] rfl rfl) (Al ?_)
  exact ⟨⟨[_], tm, rfl⟩, tv⟩
theorem FK (N : Nat) (p0 : List (List Bool)) (r : (List (List Bool))) (h : C8 N p0 = some r) : Ak zA0 102 [pD (.sl (p0.map (GD eB)))] [(1, r.map (GD eB))] (oD (.own 0)) := by
 unfold C8 at h
 refine cw (n := 8) (rs := [.tmp 2]) Tryz.func102 fun w0 S0 => ?_
 refine wq rfl (qa rfl (Aa (wp rfl (qm rfl ?_))))
 refine Kc (.p rfl) rfl DD ?_
 refine Aa ?_
 refine Kk rfl (fun c2 => ?_) ?_
 ·have c2 := zF2.1 c2
  rw [c2] at h
  have h : (some (([] : List (List Bool)))) = some r := h
  refine wq rfl (qe rfl ?_)
  obtain rfl := sj h
  refine Ac ((Bc 2 2001 1 rfl rfl rfl).trans (sm [(1000, 2001)] [(2, oD (.own 1000))] [(1000, .vec 1 ((([] : List (List Bool))).map (GD eB)))] rfl rfl)) (Al ?_)
  exact ⟨⟨[_], tm, rfl⟩, ⟨rfl, tv⟩⟩
 ·refine Ag (wq rfl (ED DD I8 Sd rfl (qm rfl ?_)))
  refine Il h fun c1 h => LJ (f := (GD eB)) DD DD I8 Tt Sd (fun _ => rfl) c1 rfl (qe rfl ?_)
  obtain rfl := sj h
  refine Ac (sm [(1000, 7)] [(2, oD (.own 1000))] [(1000, .vec 1 (((([] : List (List Bool))) ++ p0).map (GD eB)))] rfl rfl) (Al ?_)
  exact ⟨⟨[_], tm, rfl⟩, ⟨rfl, tv⟩⟩
theorem E8 (N : Nat) (p0 : List Bool) (r : (List Bool)) (h : CO N p0 = some r) : Ak zA0 103 [pD (.sl (p0.map eB))] [(1, r.map eB)] (oD (.own 0)) := by
 unfold CO at h
 refine cw (n := 8) (rs := [.tmp 2]) Tryz.func103 fun w0 S0 => ?_
 refine wq rfl (qa rfl (Aa (wp rfl (qm rfl ?_))))
 refine Kc (.p rfl) rfl GK ?_
 refine Aa ?_
 refine Kk rfl (fun c2 => ?_) ?_
 ·have c2 := zF2.1 c2
  rw [c2] at h
  have h : (some (([] : List Bool))) = some r := h
  refine wq rfl (qe rfl ?_)
  obtain rfl := sj h
  refine Ac ((Bc 2 2001 1 rfl rfl rfl).trans (sm [(1000, 2001)] [(2, oD (.own 1000))] [(1000, .vec 1 ((([] : List Bool)).map eB))] rfl rfl)) (Al ?_)
  exact ⟨⟨[_], tm, rfl⟩, ⟨rfl, tv⟩⟩
 ·refine Ag (wq rfl (ED GK Qu RD rfl (qm rfl ?_)))
  refine Il h fun c1 h => LJ (f := eB) GK GK Qu Va RD (fun _ => rfl) c1 rfl (qe rfl ?_)
  obtain rfl := sj h
  refine Ac (sm [(1000, 7)] [(2, oD (.own 1000))] [(1000, .vec 1 (((([] : List Bool)) ++ p0).map eB))] rfl rfl) (Al ?_)
  exact ⟨⟨[_], tm, rfl⟩, ⟨rfl, tv⟩⟩
theorem Lt (N : Nat) (p0 : Aw) (r : Aw) (h : Hf N p0 = some r) : Ak zA0 73 [.e (.agg (BH p0))] [(1, r.fi.map (GD eB)), (1, r.fh.map (GD eB))] (.e (.agg [iC r.fd, iC r.fg, iC r.fj, .pure (.val (.bool r.fq)), .own 0, .own 1])) := by
 unfold Hf at h
 refine cw (n := 48) (rs := [.cell 2 84]) Tryz.func73 fun w0 S0 => ?_
 refine wq rfl (qb rfl (qz KA rfl (Aa (wq rfl (qf FT rfl (ql GF rfl ?_))))))
 refine Bg h fun v1 a1 h => As [2001] (FK N p0.fi v1 a1) RJ rfl (qf DN rfl (ql GF rfl ?_))
 refine Bg h fun v2 a2 h => As [2002] (FK N p0.fh v2 a2) RJ rfl (qf FT rfl (qs TE rfl (qf DN rfl (qs TE rfl (AF (by kernel_rfl) (wp rfl (qf FT rfl (ql GF rfl (Eu DD rfl (qm rfl (Aa ?_)))))))))))
 refine Av (L := EO N v1) h (fun v3 => mk [(1, oD (.ptr 1 0)), (2, oD (.ptr 2 0)), (15, iD ((v1.length : Int))), (16, iD v3.2)] [(1, .box [iC p0.fd, iC p0.fg, iC p0.fj, .pure (.val (.bool p0.fq)), .own 2003, .own 2004]), (2, .box [iC 0, iC 0, iC 0, .pure (.val (.bool false)), .pure (.nil0), .pure (.nil0)]), (2003, .vec 1 (v3.1.map (GD eB))), (2004, .vec 1 (v2.map (GD eB)))]) (fun v4 => mk [(1, oD (.ptr 1 0)), (2, oD (.ptr 2 0))] [(1, .box [iC p0.fd, iC p0.fg, iC p0.fj, .pure (.val (.bool p0.fq)), .own 2005, .own 2006]), (2, .box [iC 0, iC 0, iC 0, .pure (.val (.bool false)), .pure (.nil0), .pure (.nil0)]), (2005, .vec 1 (v4.map (GD eB))), (2006, .vec 1 (v2.map (GD eB)))]) (fun _ _ => rfl) (sm [(2003, 2001), (2004, 2002)] _ _ rfl rfl) (fun j3 n3 v3 h => ?_) (fun v4 s h hs => ?_)
 ·unfold EO at h
  refine wq rfl (AN rfl (Aa (Ay ?_)))
  refine A0 h (fun h => ?_) fun h => ?_
  ·refine Ag (Ay (AA (wq rfl (qm rfl (qa rfl (Aa (Ad Ap rfl (qf FT rfl (ql GF rfl (qm rfl (qf FT rfl (ql GF rfl (qm rfl ?_)))))))))))))
   refine A8 h fun v6 a6 b6 h => qI DD I8 a6 (Ab b6) rfl (qj L4 (Ab b6) rfl ?_)
   refine Bg h fun v7 a7 h => As [] ((E8 N v6 v7 a7).share rfl) RC rfl ?_
   refine A8 h fun v8 a8 b8 h => qI DD I8 a8 (Ab b8) rfl ?_
   refine AV rfl rfl rfl rfl (Ab b8) rfl I8 rfl (CH rfl) (AT (GD eB) v3.1 _ v7) ?_
   refine AF (by kernel_rfl) (Ad Ap rfl (AE rfl (qm rfl (Aa ?_))))
   exact sn [] h
  ·refine AJ ?_
   exact sn [(2005, 2003), (2006, 2004)] h
 ·refine Ac hs (wp rfl (qf DN rfl (ql GF rfl (Eu DD rfl (qm rfl (Aa ?_))))))
  refine Av (L := EH N v2) h (fun v9 => mk [(1, oD (.ptr 1 0)), (2, oD (.ptr 2 0)), (32, iD ((v2.length : Int))), (33, iD v9.2)] [(1, .box [iC p0.fd, iC p0.fg, iC p0.fj, .pure (.val (.bool p0.fq)), .own 2007, .own 2008]), (2, .box [iC 0, iC 0, iC 0, .pure (.val (.bool false)), .pure (.nil0), .pure (.nil0)]), (2007, .vec 1 (v4.map (GD eB))), (2008, .vec 1 (v9.1.map (GD eB)))]) (fun v10 => mk [(1, oD (.ptr 1 0)), (2, oD (.ptr 2 0))] [(1, .box [iC p0.fd, iC p0.fg, iC p0.fj, .pure (.val (.bool p0.fq)), .own 2009, .own 2010]), (2, .box [iC 0, iC 0, iC 0, .pure (.val (.bool false)), .pure (.nil0), .pure (.nil0)]), (2009, .vec 1 (v4.map (GD eB))), (2010, .vec 1 (v10.map (GD eB)))]) (fun _ _ => rfl) (sm [(2007, 2005), (2008, 2006)] _ _ rfl rfl) (fun j9 n9 v9 h => ?_) (fun v10 s h hs => ?_)
  ·unfold EH at h
   refine wq rfl (AN rfl (Aa (Ay ?_)))
   refine A0 h (fun h => ?_) fun h => ?_
   ·refine Ag (Ay (AA (wq rfl (qm rfl (qa rfl (Aa (Ad Ap rfl (qf DN rfl (ql GF rfl (qm rfl (qf DN rfl (ql GF rfl (qm rfl ?_)))))))))))))
    refine A8 h fun v12 a12 b12 h => qI DD I8 a12 (Ab b12) rfl (qj L4 (Ab b12) rfl ?_)
    refine Bg h fun v13 a13 h => As [] ((E8 N v12 v13 a13).share rfl) RC rfl ?_
    refine A8 h fun v14 a14 b14 h => qI DD I8 a14 (Ab b14) rfl ?_
    refine AV rfl rfl rfl rfl (Ab b14) rfl I8 rfl (CH rfl) (AT (GD eB) v9.1 _ v13) ?_
    refine AF (by kernel_rfl) (Ad Ap rfl (AE rfl (qm rfl (Aa ?_))))
    exact sn [] h
   ·refine AJ ?_
    exact sn [(2009, 2007), (2010, 2008)] h
  ·refine Ac hs (wq rfl (qL Iq DT rfl (qs DT rfl (Aa ?_))))
   obtain rfl := sj h
   refine Ac (sm [(1000, 2009), (1001, 2010)] [(2, oD (.ptr 2 0))] [(2, .box [iC p0.fd, iC p0.fg, iC p0.fj, .pure (.val (.bool p0.fq)), .own 1000, .own 1001]), (1000, .vec 1 (v4.map (GD eB))), (1001, .vec 1 (v10.map (GD eB)))] rfl rfl) (Al ?_)
   exact ⟨⟨[_], ⟨.cellN _ _ _ _ _ _ _ rfl rfl Iq DT rfl rfl (K2 rfl), tv⟩, rfl⟩, ⟨rfl, rfl, tv⟩⟩
theorem In (N : Nat) (p0 : Ae) (p1 : List Int) (r : Ae × Int) (h : Do N p0 p1 = some r) : Ak zA0 39 [.e (.agg (Ai p0)), pD (.sl (p1.map Aq))] [(1, r.1.fa.map Aq), (1, r.1.fk.map Aq), (1, r.1.fo.map Aq), (6, r.1.fb.map AO)] (.tup [.agg [.own 0, .own 1, .own 2, .own 3], .one (iC r.2)]) := by
 unfold Do at h
 refine cw (n := 121) (rs := [.cell 4 29, .tmp 5]) Tryz.func39 fun w0 S0 => ?_
 refine wq rfl (qb rfl (qz M6 rfl (qa rfl (Aa (wp rfl (qL CS Cq rfl ?_))))))
 refine Bg h fun v1 a1 h => As [] (Dg N p0 v1 a1) Qf rfl (qa rfl (Aa (wq rfl (qm rfl (BJ rfl (Aa ?_))))))
 refine A0 h (fun h => ?_) fun h => ?_
 ·refine wq rfl (CD M6 QT rfl (qm rfl (qs Cq rfl (qe rfl ?_))))
  obtain rfl := sj h
  refine Ac ((AQ 4 0 2001 1 _ rfl rfl rfl rfl).trans ((AQ 4 1 2002 1 _ rfl rfl rfl rfl).trans ((AQ 4 2 2003 1 _ rfl rfl rfl rfl).trans ((AQ 4 3 2004 6 _ rfl rfl rfl rfl).trans (sm [(1000, 2001), (1001, 2002), (1002, 2003), (1003, 2004)] [(4, oD (.ptr 4 0)), (5, iD v1)] [(4, .box [.own 1000, .own 1001, .own 1002, .own 1003]), (1000, .vec 1 ((([] : List Int)).map Aq)), (1001, .vec 1 ((([] : List Int)).map Aq)), (1002, .vec 1 ((([] : List Int)).map Aq)), (1003, .vec 6 ((([] : List Aw)).map AO))] rfl rfl))))) (Al ?_)
  exact ⟨⟨[_, _], ⟨.cellN _ _ _ _ _ _ _ rfl rfl CS Cq rfl rfl (K2 rfl), tm⟩, rfl⟩, ⟨rfl, rfl, rfl, rfl, tv⟩⟩
 ·refine Ag (wp rfl (qm rfl (AD AC rfl (qm rfl (Aa ?_)))))
  refine Av (L := D8 N p1) h (fun v3 => mk [(1, pD (.sl (p1.map Aq))), (2, oD (.ptr 2 0)), (4, oD (.ptr 4 0)), (22, iD ((p1.length : Int))), (23, iD v3)] [(2, .box (Ai p0)), (4, .box [.pure (.nil0), .pure (.nil0), .pure (.nil0), .pure (.nil0)])]) (fun v4 => mk [(1, pD (.sl (p1.map Aq))), (2, oD (.ptr 2 0)), (4, oD (.ptr 4 0))] [(2, .box (Ai p0)), (4, .box [.pure (.nil0), .pure (.nil0), .pure (.nil0), .pure (.nil0)])]) (fun _ _ => rfl) (sm [] _ _ rfl rfl) (fun j3 n3 v3 h => ?_) (fun v4 s h hs => ?_)
  ·unfold D8 at h
   refine wq rfl (AN rfl (Aa (Ay ?_)))
   refine A0 h (fun h => ?_) fun h => ?_
   ·refine Ag (Ay (AA (wq rfl (qm rfl (qe rfl ?_)))))
    refine AG h (fun v6 => mk [(1, pD (.sl (p1.map Aq))), (2, oD (.ptr 2 0)), (4, oD (.ptr 4 0)), (22, iD ((p1.length : Int))), (23, iD v3), (39, bD v6)] [(2, .box (Ai p0)), (4, .box [.pure (.nil0), .pure (.nil0), .pure (.nil0), .pure (.nil0)])]) (fun j6 h => ?_) (fun v6 h => ?_)
    ·refine Ad Ap rfl (qm rfl (DK rfl (qm rfl ?_)))
     refine DE 28 h rfl (fun h => ?_) fun h => ?_
     ·refine qw 2 rfl ?_
      refine A8 h fun v8 a8 b8 h => qi AC DS a8 (Ab b8) rfl (qk C2 rfl (qw 2 rfl (BP rfl ?_)))
      refine A8 h fun v9 a9 b9 h => qi AC DS a9 (Ab b9) rfl (qk C2 rfl (Ka rfl (qp rfl (AF (by kernel_rfl) ?_))))
      exact sn [] h
     ·refine qw 10 rfl (qp rfl (AF (by kernel_rfl) ?_))
      exact sn [] h
    ·refine A0 h (fun h => ?_) fun h => ?_
     ·refine wq rfl (CD M6 QT rfl (qs Cq rfl (qe rfl ?_)))
      obtain rfl := sj h
      refine Ac ((AQ 4 0 2005 1 _ rfl rfl rfl rfl).trans ((AQ 4 1 2006 1 _ rfl rfl rfl rfl).trans ((AQ 4 2 2007 1 _ rfl rfl rfl rfl).trans ((AQ 4 3 2008 6 _ rfl rfl rfl rfl).trans (sm [(1000, 2005), (1001, 2006), (1002, 2007), (1003, 2008)] [(4, oD (.ptr 4 0)), (5, iD 1)] [(4, .box [.own 1000, .own 1001, .own 1002, .own 1003]), (1000, .vec 1 ((([] : List Int)).map Aq)), (1001, .vec 1 ((([] : List Int)).map Aq)), (1002, .vec 1 ((([] : List Int)).map Aq)), (1003, .vec 6 ((([] : List Aw)).map AO))] rfl rfl))))) (Al ?_)
      exact ⟨⟨[_, _], ⟨.cellN _ _ _ _ _ _ _ rfl rfl CS Cq rfl rfl (K2 rfl), tm⟩, rfl⟩, ⟨rfl, rfl, rfl, rfl, tv⟩⟩
     ·refine Ag (Ad Ap rfl (AE rfl (qm rfl (Aa ?_))))
      exact sn [] h
   ·refine AJ ?_
    exact sn [] h
  ·refine Ac hs (wq rfl (qz M6 rfl (Aa (wp rfl (qm rfl (AD AC rfl (qm rfl (Aa ?_))))))))
   refine Av (L := DO N p0 p1) h (fun v11 => mk [(1, pD (.sl (p1.map Aq))), (2, oD (.ptr 2 0)), (4, oD (.ptr 4 0)), (8, oD (.ptr 8 0)), (42, pD (.sl (p1.map Aq))), (43, iD ((p1.length : Int))), (44, iD v11.2.2.2)] [(2, .box (Ai p0)), (4, .box [.pure (.nil0), .pure (.nil0), .pure (.nil0), .pure (.nil0)]), (8, .box [.own 2009, .own 2010, .own 2011, .pure (.nil0)]), (2009, .vec 1 (v11.1.map Aq)), (2010, .vec 1 (v11.2.1.map Aq)), (2011, .vec 1 (v11.2.2.1.map Aq))]) (fun v12 => mk [(1, pD (.sl (p1.map Aq))), (2, oD (.ptr 2 0)), (4, oD (.ptr 4 0)), (8, oD (.ptr 8 0))] [(2, .box (Ai p0)), (4, .box [.pure (.nil0), .pure (.nil0), .pure (.nil0), .pure (.nil0)]), (8, .box [.own 2012, .own 2013, .own 2014, .pure (.nil0)]), (2012, .vec 1 (v12.1.map Aq)), (2013, .vec 1 (v12.2.1.map Aq)), (2014, .vec 1 (v12.2.2.map Aq))]) (fun _ _ => rfl) ((AQ 8 0 2019 1 _ rfl rfl rfl rfl).trans ((AQ 8 1 2020 1 _ rfl rfl rfl rfl).trans ((AQ 8 2 2021 1 _ rfl rfl rfl rfl).trans (sm [(2009, 2019), (2010, 2020), (2011, 2021)] _ _ rfl rfl)))) (fun j11 n11 v11 h => ?_) (fun v12 s h hs => ?_)
   ·unfold DO at h
    refine wq rfl (AN rfl (Aa (Ay ?_)))
    refine A0 h (fun h => ?_) fun h => ?_
    ·refine Ag (Ay (AA (wq rfl ?_)))
     refine A8 h fun v14 a14 b14 h => qi AC DS a14 (Ab b14) rfl (qk C2 rfl (qa rfl (Aa (wp rfl (qm rfl (qf B4 rfl (ql Bx rfl (AD AC rfl ?_))))))))
     refine Bg h fun v15 a15 h => As [] (Fe N v14 ((p0.fa.length : Int)) v15 a15) Qj rfl (BN rfl (Aa ?_))
     refine A0 h (fun h => ?_) fun h => ?_
     ·refine wq rfl (CD M6 QT rfl (qs Cq rfl (qe rfl ?_)))
      obtain rfl := sj h
      refine Ac ((AQ 4 0 2015 1 _ rfl rfl rfl rfl).trans ((AQ 4 1 2016 1 _ rfl rfl rfl rfl).trans ((AQ 4 2 2017 1 _ rfl rfl rfl rfl).trans ((AQ 4 3 2018 6 _ rfl rfl rfl rfl).trans (sm [(1000, 2015), (1001, 2016), (1002, 2017), (1003, 2018)] [(4, oD (.ptr 4 0)), (5, iD 4)] [(4, .box [.own 1000, .own 1001, .own 1002, .own 1003]), (1000, .vec 1 ((([] : List Int)).map Aq)), (1001, .vec 1 ((([] : List Int)).map Aq)), (1002, .vec 1 ((([] : List Int)).map Aq)), (1003, .vec 6 ((([] : List Aw)).map AO))] rfl rfl))))) (Al ?_)
      exact ⟨⟨[_, _], ⟨.cellN _ _ _ _ _ _ _ rfl rfl CS Cq rfl rfl (K2 rfl), tm⟩, rfl⟩, ⟨rfl, rfl, rfl, rfl, tv⟩⟩
     ·refine Ag (wq rfl (qf B4 rfl (ql Bx rfl (qf B4 rfl (ql Bx rfl (qm rfl ?_))))))
      refine A8 h fun v17 a17 b17 h => qi AC DS a17 (Ab b17) rfl (qk C2 rfl (ED AC DS KL rfl ?_))
      refine Il h fun c18 h => EQ (f := Aq) AC AC DS Ns KL c18 rfl (qf B4 rfl (qs LO rfl (AF (by kernel_rfl) (wq rfl (qf FU rfl (ql Bx rfl (qf FU rfl (ql Bx rfl (qm rfl ?_)))))))))
      refine A8 h fun v19 a19 b19 h => qi AC DS a19 (Ab b19) rfl (qk C2 rfl (ED AC DS KL rfl ?_))
      refine Il h fun c20 h => EQ (f := Aq) AC AC DS Ns KL c20 rfl (qf FU rfl (qs LO rfl (AF (by kernel_rfl) (Ad Ap rfl (qf GY rfl (ql Bx rfl (qf GY rfl (ql Bx rfl (qm rfl ?_)))))))))
      refine A8 h fun v21 a21 b21 h => qi AC DS a21 (Ab b21) rfl (qk C2 rfl (ED AC DS KL rfl ?_))
      refine Il h fun c22 h => EQ (f := Aq) AC AC DS Ns KL c22 rfl (qf GY rfl (qs LO rfl (AF (by kernel_rfl) (Ad Ap rfl (AE rfl (qm rfl (Aa ?_)))))))
      exact sn [(2009, 63), (2010, 73), (2011, 83)] h
    ·refine AJ ?_
     exact sn [(2012, 2009), (2013, 2010), (2014, 2011)] h
   ·refine Ac hs (wp rfl (qf CC rfl (ql Hr rfl (AD Dv rfl (qm rfl (Aa ?_))))))
    refine Av (L := DQ N p0 p1) h (fun v23 => mk [(1, pD (.sl (p1.map Aq))), (4, oD (.ptr 4 0)), (8, oD (.ptr 8 0)), (87, pD (.sl (p0.fb.map AO))), (88, iD ((p0.fb.length : Int))), (89, iD v23.2)] [(4, .box [.pure (.nil0), .pure (.nil0), .pure (.nil0), .pure (.nil0)]), (8, .box [.own 2022, .own 2023, .own 2024, .own 2025]), (2022, .vec 1 (v12.1.map Aq)), (2023, .vec 1 (v12.2.1.map Aq)), (2024, .vec 1 (v12.2.2.map Aq)), (2025, .vec 6 (v23.1.map AO))]) (fun v24 => mk [(4, oD (.ptr 4 0)), (8, oD (.ptr 8 0))] [(4, .box [.pure (.nil0), .pure (.nil0), .pure (.nil0), .pure (.nil0)]), (8, .box [.own 2026, .own 2027, .own 2028, .own 2029]), (2026, .vec 1 (v12.1.map Aq)), (2027, .vec 1 (v12.2.1.map Aq)), (2028, .vec 1 (v12.2.2.map Aq)), (2029, .vec 6 (v24.map AO))]) (fun _ _ => rfl) ((AQ 8 3 2040 6 _ rfl rfl rfl rfl).trans (sm [(2022, 2012), (2023, 2013), (2024, 2014), (2025, 2040)] _ _ rfl rfl)) (fun j23 n23 v23 h => ?_) (fun v24 s h hs => ?_)
    ·unfold DQ at h
     refine wq rfl (AN rfl (Aa (Ay ?_)))
     refine A0 h (fun h => ?_) fun h => ?_
     ·refine Ag ?_
      refine AG h (fun v26 => mk [(1, pD (.sl (p1.map Aq))), (4, oD (.ptr 4 0)), (8, oD (.ptr 8 0)), (87, pD (.sl (p0.fb.map AO))), (88, iD ((p0.fb.length : Int))), (89, iD v23.2)] [(4, .box [.pure (.nil0), .pure (.nil0), .pure (.nil0), .pure (.nil0)]), (8, .box [.own 2030, .own 2031, .own 2032, .own 2033]), (2030, .vec 1 (v12.1.map Aq)), (2031, .vec 1 (v12.2.1.map Aq)), (2032, .vec 1 (v12.2.2.map Aq)), (2033, .vec 6 (v26.map AO))]) (fun j26 h => ?_) (fun v26 h => ?_)
      ·refine AA (wq rfl ?_)
       refine A8 h fun v27 a27 b27 h => qi Dv DT a27 (Ab b27) rfl (qK Iq DT rfl (qz KA rfl (qs DT rfl (Aa (wq rfl (qm rfl (qf Es rfl (ql C2 rfl ?_))))))))
       refine Bg h fun v28 a28 h => As [] (Gk N p1 v27.fg v28 a28) TC rfl (qm rfl (qf HU rfl (ql C2 rfl ?_)))
       refine Bg h fun v29 a29 h => As [] (Gk N p1 v27.fj v29 a29) TC rfl (qa rfl (qa rfl (AF (by kernel_rfl) ?_)))
       refine AG h (fun v30 => mk [(1, pD (.sl (p1.map Aq))), (4, oD (.ptr 4 0)), (8, oD (.ptr 8 0)), (12, oD (.ptr 12 0)), (13, iD v28), (14, iD v29), (87, pD (.sl (p0.fb.map AO))), (88, iD ((p0.fb.length : Int))), (89, iD v23.2), (106, bD v30)] [(4, .box [.pure (.nil0), .pure (.nil0), .pure (.nil0), .pure (.nil0)]), (8, .box [.own 2034, .own 2035, .own 2036, .own 2037]), (12, .box (BH v27)), (2034, .vec 1 (v12.1.map Aq)), (2035, .vec 1 (v12.2.1.map Aq)), (2036, .vec 1 (v12.2.2.map Aq)), (2037, .vec 6 (v23.1.map AO))]) (fun j30 h => ?_) (fun v30 h => ?_)
       ·refine Ad Ap rfl (qm rfl (CT rfl (qm rfl ?_)))
        refine DE 103 h rfl (fun h => ?_) fun h => ?_
        ·refine qm rfl (CT rfl (qp rfl (Aa ?_)))
         exact sn [(2034, 2022), (2035, 2023), (2036, 2024), (2037, 2025)] h
        ·refine qw 2 rfl (qp rfl (Aa ?_))
         exact sn [(2034, 2022), (2035, 2023), (2036, 2024), (2037, 2025)] h
       ·refine A0 h (fun h => ?_) fun h => ?_
        ·refine wq rfl (qL Iq DT rfl ?_)
         refine Bg h fun v33 a33 h => As [2038, 2039] (Lt N v27 v33 a33) UJ rfl (qs DT rfl (Aa (wq rfl (qw 2 rfl (qf Es rfl (qs DS rfl (qf HU rfl (qs DS rfl (Aa (Ad Ap rfl (qf CC rfl (ql Hr rfl (qL Iq DT rfl (C3 (BQ 2038 _ _ rfl rfl) (C3 (BQ 2039 _ _ rfl rfl) (ED Dv DT KA rfl ?_))))))))))))))))
         refine Il h fun c34 h => EQ (f := AO) Dv Dv DT SU KA c34 rfl (qf CC rfl (qs UK rfl (Aa ?_)))
         exact sn [(2030, 2034), (2031, 2035), (2032, 2036), (2033, 117)] h
        ·refine Ag ?_
         exact sn [(2030, 2034), (2031, 2035), (2032, 2036), (2033, 2037)] h
      ·refine Ad Ap rfl (AE rfl (qm rfl (Aa ?_)))
       exact sn [(2022, 2030), (2023, 2031), (2024, 2032), (2025, 2033)] h
     ·refine AJ ?_
      exact sn [(2026, 2022), (2027, 2023), (2028, 2024), (2029, 2025)] h
    ·refine Ac hs (wq rfl (qL CS Cq rfl (qs Cq rfl (qe rfl ?_))))
     obtain rfl := sj h
     refine Ac (sm [(1000, 2026), (1001, 2027), (1002, 2028), (1003, 2029)] [(4, oD (.ptr 4 0)), (5, iD 0)] [(4, .box [.own 1000, .own 1001, .own 1002, .own 1003]), (1000, .vec 1 (v12.1.map Aq)), (1001, .vec 1 (v12.2.1.map Aq)), (1002, .vec 1 (v12.2.2.map Aq)), (1003, .vec 6 (v24.map AO))] rfl rfl) (Al ?_)
     exact ⟨⟨[_, _], ⟨.cellN _ _ _ _ _ _ _ rfl rfl CS Cq rfl rfl (K2 rfl), tm⟩, rfl⟩, ⟨rfl, rfl, rfl, rfl, tv⟩⟩
theorem CZ (N : Nat) (p0 : List Int) (r : (List Int)) (h : BM N p0 = some r) : Ak zA0 13 [pD (.sl (p0.map Aq))] [(1, r.map Aq)] (oD (.own 0)) := by
 unfold BM at h
 refine cw (n := 8) (rs := [.tmp 2]) Tryz.func13 fun w0 S0 => ?_
 refine wq rfl (qa rfl (Aa (wp rfl (qm rfl ?_))))
 refine Kc (.p rfl) rfl AC ?_
 refine Aa ?_
 refine Kk rfl (fun c2 => ?_) ?_
 ·have c2 := zF2.1 c2
  rw [c2] at h
  have h : (some (([] : List Int))) = some r := h
  refine wq rfl (qe rfl ?_)
  obtain rfl := sj h
  refine Ac ((Bc 2 2001 1 rfl rfl rfl).trans (sm [(1000, 2001)] [(2, oD (.own 1000))] [(1000, .vec 1 ((([] : List Int)).map Aq))] rfl rfl)) (Al ?_)
  exact ⟨⟨[_], tm, rfl⟩, ⟨rfl, tv⟩⟩
 ·refine Ag (wq rfl (ED AC DS KL rfl (qm rfl ?_)))
  refine Il h fun c1 h => LJ (f := Aq) AC AC DS Ns KL (fun _ => rfl) c1 rfl (qe rfl ?_)
  obtain rfl := sj h
  refine Ac (sm [(1000, 7)] [(2, oD (.own 1000))] [(1000, .vec 1 (((([] : List Int)) ++ p0).map Aq))] rfl rfl) (Al ?_)
  exact ⟨⟨[_], tm, rfl⟩, ⟨rfl, tv⟩⟩
theorem Kb (N : Nat) (p0 : Int) (p1 : Int) (r : Int × Int) (h : F4 N p0 p1 = some r) : Ak zA0 166 [pD (.val (.int .u32 p0)), pD (.val (.int .u32 p1))] [] (.tup [.one (.pure (.val (.int .u32 r.1))), .one (.pure (.val (.int .u32 r.2)))]) := by
 unfold F4 at h
 refine cw (n := 17) (rs := [.tmp 4, .tmp 5]) Tryz.func166 fun w0 S0 => ?_
 refine wq rfl (qa rfl (qa rfl (Aa (wq rfl (qm rfl (GG Nq Rj rfl (qm rfl (GG Nq Rj rfl (Iv rfl (qa rfl (Aa (wq rfl (qm rfl (ES rfl (by decide) (GG OX Mu rfl (qm rfl (GG OX Mu rfl (qa rfl (qe rfl ?_)))))))))))))))))))
 obtain rfl := sj h
 refine Ac (sm [] [(4, pD (.val (.int .u32 ((wI .u32 ((AL .u64 ((wI .u64 ((wI .u64 p0) * (wI .u64 p1)))) 32))))))), (5, pD (.val (.int .u32 ((wI .u32 ((wI .u64 ((wI .u64 p0) * (wI .u64 p1)))))))))] [] rfl rfl) (Al ?_)
 exact ⟨⟨[_, _], ⟨.tmp _ _ rfl, tm⟩, rfl⟩, tv⟩
theorem Kn (N : Nat) (p0 : Int) (p1 : Int) (r : Int × Int) (h : F9 N p0 p1 = some r) : Ak zA0 167 [pD (.val (.int .u64 p0)), pD (.val (.int .u64 p1))] [] (.tup [.one (.pure (.val (.int .u64 r.1))), .one (.pure (.val (.int .u64 r.2)))]) := by
 unfold F9 at h
 refine cw (n := 51) (rs := [.tmp 4, .tmp 5]) Tryz.func167 fun w0 S0 => ?_
 refine wq rfl (qa rfl (qa rfl (Aa (wq rfl (qm rfl (GJ rfl (qa rfl (Aa (wq rfl (qm rfl (ES rfl (by decide) (qa rfl (Aa (wq rfl (qm rfl (GJ rfl (qa rfl (Aa (wq rfl (qm rfl (ES rfl (by decide) (qa rfl (Aa (wq rfl (qw 2 rfl (Iv rfl (qa rfl (Aa (wq rfl (qw 2 rfl ?_))))))))))))))))))))))))))))))
 refine Iv rfl (qm rfl (ES rfl (by decide) (AE rfl (qa rfl (Aa (wq rfl (qm rfl (GJ rfl (qa rfl (Aa (wq rfl (qm rfl (ES rfl (by decide) (qa rfl (Aa (wq rfl (qw 3 rfl (Iv rfl (AE rfl (qa rfl (Aa (wq rfl (qw 2 rfl (Iv rfl (qm rfl (AE rfl (qm rfl (ES rfl (by decide) (AE rfl (qa rfl (Aa (Ay ?_))))))))))))))))))))))))))))))))
 refine Ad Ap rfl (qw 2 rfl (Iv rfl (qe rfl ?_)))
 obtain rfl := sj h
 refine Ac (sm [] [(4, pD (.val (.int .u64 ((wI .u64 ((wI .u64 ((wI .u64 ((AL .u64 p0 32) * (AL .u64 p1 32))) + (AL .u64 ((wI .u64 ((wI .u64 ((AL .u64 p0 32) * (Ax .u64 p1 4294967295))) + (AL .u64 ((wI .u64 ((Ax .u64 p0 4294967295) * (Ax .u64 p1 4294967295)))) 32)))) 32))) + (AL .u64 ((wI .u64 ((Ax .u64 ((wI .u64 ((wI .u64 ((AL .u64 p0 32) * (Ax .u64 p1 4294967295))) + (AL .u64 ((wI .u64 ((Ax .u64 p0 4294967295) * (Ax .u64 p1 4294967295)))) 32)))) 4294967295) + (wI .u64 ((Ax .u64 p0 4294967295) * (AL .u64 p1 32)))))) 32))))))), (5, pD (.val (.int .u64 ((wI .u64 (p0 * p1))))))] [] rfl rfl) (Al ?_)
 exact ⟨⟨[_, _], ⟨.tmp _ _ rfl, tm⟩, rfl⟩, tv⟩
theorem K1 (N : Nat) (p0 : Int) (p1 : Int) (r : Int × Int) (h : GR N p0 p1 = some r) : Ak zA0 137 [pD (.val (.int .u64 p0)), pD (.val (.int .u64 p1))] [] (.tup [.one (.pure (.val (.int .u64 r.1))), .one (.pure (.val (.int .u64 r.2)))]) := by
 unfold GR at h
 refine cw (n := 30) (rs := [.tmp 4, .tmp 5]) Tryz.func137 fun w0 S0 => ?_
 refine wq rfl (qa rfl (qa rfl (Aa (Ay ?_))))
 refine A0 h (fun h => ?_) fun h => ?_
 ·refine wq rfl (qm rfl (GG Oc Mu rfl (qm rfl (GG Oc Mu rfl ?_))))
  refine Bg h fun v2 a2 h => As [] (Kb N ((wI .u32 p0)) ((wI .u32 p1)) v2 a2) SK rfl (qm rfl (qx rfl (qx rfl (qa rfl (qa rfl (Aa (wq rfl (qm rfl (GG Nq Or rfl (qm rfl (GG Nq Or rfl (qa rfl (qe rfl ?_)))))))))))))
  obtain rfl := sj h
  refine Ac (sm [] [(4, pD (.val (.int .u64 ((wI .u64 v2.1))))), (5, pD (.val (.int .u64 ((wI .u64 v2.2)))))] [] rfl rfl) (Al ?_)
  exact ⟨⟨[_, _], ⟨.tmp _ _ rfl, tm⟩, rfl⟩, tv⟩
 ·refine Ag (wq rfl (qw 2 rfl ?_))
  refine Bg h fun v3 a3 h => As [] (Kn N p0 p1 v3 a3) TO rfl (qm rfl (qx rfl (qx rfl (qa rfl (qa rfl (Aa (wq rfl (qw 2 rfl (qa rfl (qe rfl ?_))))))))))
  obtain rfl := sj h
  refine Ac (sm [] [(4, pD (.val (.int .u64 v3.1))), (5, pD (.val (.int .u64 v3.2)))] [] rfl rfl) (Al ?_)
  exact ⟨⟨[_, _], ⟨.tmp _ _ rfl, tm⟩, rfl⟩, tv⟩
theorem Ih (N : Nat) (p0 : List Int) (p1 : Int) (r : (List Int)) (h : Ee N p0 p1 = some r) : Ak zA0 104 [pD (.sl (p0.map Aq)), iD p1] [(1, r.map Aq)] (oD (.own 0)) := by
 unfold Ee at h
 refine cw (n := 48) (rs := [.tmp 4]) Tryz.func104 fun w0 S0 => ?_
 refine wq rfl (qe rfl ?_)
 refine AG h (fun v1 => mk [(0, pD (.sl (p0.map Aq))), (1, iD p1)] []) (fun j1 h => ?_) (fun v1 h => ?_)
 ·refine wq rfl (qm rfl (AN rfl (Aa ?_)))
  refine A0 h (fun h => ?_) fun h => ?_
  ·refine Ad Ap rfl ?_
   cases h
  ·refine Ag ?_
   exact sn [] h
 ·refine wq rfl (qm rfl (AD AC rfl (GG Ry Or rfl (qm rfl (GG Ry Or rfl ?_)))))
  refine Bg h fun v3 a3 h => As [] (K1 N ((wI .u64 ((p0.length : Int)))) ((wI .u64 p1)) v3 a3) TQ rfl (qm rfl (qx rfl (qx rfl (qa rfl (qe rfl ?_)))))
  refine AG h (fun v4 => mk [(0, pD (.sl (p0.map Aq))), (6, pD (.val (.int .u64 v3.2)))] []) (fun j4 h => ?_) (fun v4 h => ?_)
  ·refine AG h (fun v5 => mk [(0, pD (.sl (p0.map Aq))), (6, pD (.val (.int .u64 v3.2))), (26, bD v5)] []) (fun j5 h => ?_) (fun v5 h => ?_)
   ·refine Ad Ap rfl (qm rfl (DK rfl (qm rfl ?_)))
    refine DE 23 h rfl (fun h => ?_) fun h => ?_
    ·refine qw 2 rfl (qp rfl (Aa ?_))
     exact sn [] h
    ·refine qm rfl (DK rfl (qp rfl (Aa ?_)))
     exact sn [] h
   ·refine A0 h (fun h => ?_) fun h => ?_
    ·refine Ad Ap rfl ?_
     cases h
    ·refine Ag ?_
     exact sn [] h
  ·refine wq rfl (qm rfl (GG Oc RA rfl ?_))
   refine Il h fun c8 h => I3 (.p rfl) rfl rfl rfl AC DS Ns (CH rfl) KL rfl rfl rfl c8.1 c8.2.1 c8.2.2 (MZ Aq _ ((0 : Int))) ?_
   refine qa rfl (Aa (wq rfl (qw 2 rfl ?_)))
   refine OD Aq (zA6 ((wI .i64 v3.2)).toNat ((0 : Int))) p0 (.p rfl) rfl (HN Aq _ _ (zA6 ((wI .i64 v3.2)).toNat ((0 : Int)))) rfl rfl (Rh Aq _ _ (fun _ => rfl)) tv AC DS ?_
   refine qa rfl (Aa (Ay ?_))
   refine Av (L := CM N) h (fun v9 => mk [(7, oD (.own 2001)), (8, iD v9.2)] [(2001, .vec 1 (v9.1.map Aq))]) (fun v10 => mk [(7, oD (.own 2002))] [(2002, .vec 1 (v10.map Aq))]) (fun _ _ => rfl) (sm [(2001, 30)] _ _ rfl rfl) (fun j9 n9 v9 h => ?_) (fun v10 s h hs => ?_)
   ·unfold CM at h
    refine wp rfl (qw 2 rfl (Eu AC rfl (AN rfl (Aa ?_))))
    refine A0 h (fun h => ?_) fun h => ?_
    ·refine Ag (AA (Ad Ap rfl (qw 3 rfl ?_)))
     obtain ⟨c12, h⟩ := FL h
     have w13 : ((v9.2).toNat) + ((v9.1.length - (v9.2).toNat)) ≤ v9.1.length := by have := c12.2.1; have := c12.2.2; omega
     refine Ig Aq v9.1 (.p rfl) rfl (HN Aq _ _ v9.1) rfl AC DS (.some _ _ _ _ c12.1) (.none _) ⟨rfl, tv⟩ tv c12.2.1 (by rw [zA3]; exact c12.2.2) (zA3 _) rfl ?_
     refine qw 2 rfl ?_
     obtain ⟨c14, h⟩ := FL h
     have w15 : 0 + ((v9.2).toNat) ≤ v9.1.length := by have := c14.2.1; have := c14.2.2; omega
     refine Ig Aq v9.1 (.p rfl) rfl (HN Aq _ _ v9.1) rfl AC DS (.none _) (.some _ _ _ _ c14.1) tv ⟨rfl, tv⟩ c14.2.1 (by rw [zA3]; exact c14.2.2) (zA3 _) rfl ?_
     refine OD Aq v9.1 (((v9.1.drop 0).take ((v9.2).toNat))) (.p rfl) rfl (KC Aq _ _ ((v9.2).toNat) ((v9.1.length - (v9.2).toNat)) v9.1 w13) rfl rfl (Pc Aq _ _ 0 ((v9.2).toNat) v9.1 w15) ⟨rfl, tv⟩ AC DS ?_
     refine AE rfl (qa rfl (AF (by kernel_rfl) ?_))
     exact sn [] h
    ·refine AJ ?_
     exact sn [(2002, 2001)] h
   ·refine Ac hs (wq rfl (qm rfl (qe rfl ?_)))
    obtain rfl := sj h
    refine Ac (sm [(1000, 2002)] [(4, oD (.own 1000))] [(1000, .vec 1 (v10.map Aq))] rfl rfl) (Al ?_)
    exact ⟨⟨[_], tm, rfl⟩, ⟨rfl, tv⟩⟩
theorem IB (N : Nat) (p0 : Aw) (r : Bool) (h : FM N p0 = some r) : Ak zA0 105 [.e (.agg (BH p0))] [] (bD r) := by
 unfold FM at h
 refine cw (n := 11) (rs := [.tmp 2]) Tryz.func105 fun w0 S0 => ?_
 refine wq rfl (qb rfl (qe rfl ?_))
 refine AG h (fun v1 => mk [(2, bD v1)] []) (fun j1 h => ?_) (fun v1 h => ?_)
 ·refine Ad Ap rfl (qf zFS rfl (ql C2 rfl (BW rfl (qm rfl ?_))))
  refine DE 6 h rfl (fun h => ?_) fun h => ?_
  ·refine qw 3 rfl (qp rfl (qe rfl ?_))
   exact sn [] h
  ·refine qf zFS rfl (ql C2 rfl (BW rfl (qp rfl (qe rfl ?_))))
   exact sn [] h
 ·obtain rfl := sj h
  refine Ac (sm [] [(2, bD v1)] [] rfl rfl) (Al ?_)
  exact ⟨⟨[_], tm, rfl⟩, tv⟩
theorem K0 (N : Nat) (p0 : Ae) (r : Ao × Int) (h : Hp N p0 = some r) : Ak zA0 74 [.e (.agg (Ai p0))] [(1, r.1.fe.map Aq), (1, r.1.fc.map Aq), (1, r.1.ff.map EC)] (.tup [.agg [.own 0, .own 1, .own 2], .one (iC r.2)]) := by
 unfold Hp at h
 refine cw (n := 50) (rs := [.cell 2 49, .tmp 3]) Tryz.func74 fun w0 S0 => ?_
 refine wq rfl (qb rfl (qz F1 rfl (qa rfl (Aa (wp rfl (qL CS Cq rfl ?_))))))
 refine Bg h fun v1 a1 h => As [] (Dg N p0 v1 a1) Qf rfl (qa rfl (Aa (wq rfl (qm rfl (BJ rfl (Aa ?_))))))
 refine A0 h (fun h => ?_) fun h => ?_
 ·refine wq rfl (CD F1 L0 rfl (qm rfl (qs Bh rfl (qe rfl ?_))))
  obtain rfl := sj h
  refine Ac ((AQ 2 0 2001 1 _ rfl rfl rfl rfl).trans ((AQ 2 1 2002 1 _ rfl rfl rfl rfl).trans ((AQ 2 2 2003 1 _ rfl rfl rfl rfl).trans (sm [(1000, 2001), (1001, 2002), (1002, 2003)] [(2, oD (.ptr 2 0)), (3, iD v1)] [(2, .box [.own 1000, .own 1001, .own 1002]), (1000, .vec 1 ((([] : List Int)).map Aq)), (1001, .vec 1 ((([] : List Int)).map Aq)), (1002, .vec 1 ((([] : List Int)).map EC))] rfl rfl)))) (Al ?_)
  exact ⟨⟨[_, _], ⟨.cellN _ _ _ _ _ _ _ rfl rfl Co Bh rfl rfl (K2 rfl), tm⟩, rfl⟩, ⟨rfl, rfl, rfl, tv⟩⟩
 ·refine Ag (wq rfl (qf FU rfl (ql Bx rfl ?_)))
  refine Bg h fun v3 a3 h => As [2004] (CZ N p0.fk v3 a3) PC rfl (ED AC DS KL rfl (qf FU rfl (ql Bx rfl (AD AC rfl ?_))))
  refine Bg h fun v4 a4 h => CX [2005] [17] (Ih N (([(-1)] : List Int)) ((p0.fk.length : Int)) v4 a4) T7 (HO (fun _ => rfl) BO) rfl (qf CC rfl (ql Hr rfl (AD Dv rfl ?_)))
  refine Il h fun c5 h => I3 (.p rfl) rfl rfl rfl E2 GN P7 (CH rfl) P3 rfl rfl rfl c5.1 c5.2.1 c5.2.2 (MZ EC _ ((0 : Int))) ?_
  refine CD F1 L0 rfl (qz F1 rfl (qs Bh rfl (AF (by kernel_rfl) (wp rfl (qf CC rfl (ql Hr rfl (AD Dv rfl (qm rfl (Aa ?_)))))))))
  refine Av (L := FR N p0) h (fun v6 => mk [(1, oD (.ptr 1 0)), (2, oD (.ptr 2 0)), (5, oD (.ptr 5 0)), (28, pD (.sl (p0.fb.map AO))), (29, iD ((p0.fb.length : Int))), (30, iD v6.2)] [(1, .box (Ai p0)), (2, .box [.pure (.nil0), .pure (.nil0), .pure (.nil0)]), (5, .box [.own 2006, .own 2007, .own 2008]), (2006, .vec 1 (v3.map Aq)), (2007, .vec 1 (v4.map Aq)), (2008, .vec 1 (v6.1.map EC))]) (fun v7 => mk [(2, oD (.ptr 2 0)), (5, oD (.ptr 5 0))] [(2, .box [.pure (.nil0), .pure (.nil0), .pure (.nil0)]), (5, .box [.own 2009, .own 2010, .own 2011]), (2009, .vec 1 (v3.map Aq)), (2010, .vec 1 (v4.map Aq)), (2011, .vec 1 (v7.map EC))]) (fun _ _ => rfl) (sm [(2006, 2004), (2007, 2005), (2008, 25)] _ _ rfl rfl) (fun j6 n6 v6 h => ?_) (fun v7 s h hs => ?_)
  ·unfold FR at h
   refine wq rfl (AN rfl (Aa (Ay ?_)))
   refine A0 h (fun h => ?_) fun h => ?_
   ·refine Ag ?_
    refine AG h (fun v9 => mk [(1, oD (.ptr 1 0)), (2, oD (.ptr 2 0)), (5, oD (.ptr 5 0)), (28, pD (.sl (p0.fb.map AO))), (29, iD ((p0.fb.length : Int))), (30, iD v6.2)] [(1, .box (Ai p0)), (2, .box [.pure (.nil0), .pure (.nil0), .pure (.nil0)]), (5, .box [.own 2012, .own 2013, .own 2014]), (2012, .vec 1 (v3.map Aq)), (2013, .vec 1 (v4.map Aq)), (2014, .vec 1 (v9.map EC))]) (fun j9 h => ?_) (fun v9 h => ?_)
    ·refine AA (wq rfl (qm rfl ?_))
     refine A8 h fun v10 a10 b10 h => qi Dv DT a10 (Ab b10) rfl (qK Iq DT rfl (qz KA rfl (qa rfl (qs DT rfl (Aa (wq rfl (qL Iq DT rfl ?_)))))))
     refine Bg h fun v11 a11 h => As [] (IB N v10 v11 a11) Qs rfl (Aa ?_)
     refine A0 h (fun h => ?_) fun h => ?_
     ·refine Ad Ap rfl (qf EP rfl (ql JP rfl (qm rfl (qf FU rfl (ql Bx rfl (qf Es rfl (ql C2 rfl ?_)))))))
      refine A8 h fun v13 a13 b13 h => qi AC DS a13 (Ab b13) rfl (qk C2 rfl ?_)
      refine Il h fun c14 h => IT rfl c14 ?_
      refine A8 h fun v15 a15 b15 h => qI E2 GN a15 (Ab b15) rfl ?_
      refine AV rfl rfl rfl rfl (Ab b15) rfl GN rfl (CH rfl) (AT EC v6.1 _ ((DJ .u8 1 v13))) ?_
      refine AF (by kernel_rfl) ?_
      exact sn [(2012, 2006), (2013, 2007), (2014, 2008)] h
     ·refine Ag ?_
      exact sn [(2012, 2006), (2013, 2007), (2014, 2008)] h
    ·refine Ad Ap rfl (AE rfl (qm rfl (Aa ?_)))
     exact sn [(2006, 2012), (2007, 2013), (2008, 2014)] h
   ·refine AJ ?_
    exact sn [(2009, 2006), (2010, 2007), (2011, 2008)] h
  ·refine Ac hs (wq rfl (qL Co Bh rfl (qs Bh rfl (qe rfl ?_))))
   obtain rfl := sj h
   refine Ac (sm [(1000, 2009), (1001, 2010), (1002, 2011)] [(2, oD (.ptr 2 0)), (3, iD 0)] [(2, .box [.own 1000, .own 1001, .own 1002]), (1000, .vec 1 (v3.map Aq)), (1001, .vec 1 (v4.map Aq)), (1002, .vec 1 (v7.map EC))] rfl rfl) (Al ?_)
   exact ⟨⟨[_, _], ⟨.cellN _ _ _ _ _ _ _ rfl rfl Co Bh rfl rfl (K2 rfl), tm⟩, rfl⟩, ⟨rfl, rfl, rfl, tv⟩⟩
theorem H8 (N : Nat) (p0 : Ao) (p1 : Int) (r : Int) (h : Ff N p0 p1 = some r) : Ak zA0 156 [.e (.agg (AR p0)), iD p1] [] (pD (.val (.int .u8 r))) := by
 unfold Ff at h
 refine cw (n := 27) (rs := [.tmp 4]) Tryz.func156 fun w0 S0 => ?_
 refine wq rfl (qb rfl (qa rfl (Aa (wq rfl (qf DZ rfl (ql Bx rfl (qm rfl ?_)))))))
 refine A8 h fun v1 a1 b1 h => qi AC DS a1 (Ab b1) rfl (qk C2 rfl ?_)
 refine Il h fun c2 h => IT rfl c2 (qe rfl ?_)
 refine AG h (fun v3 => mk [(5, pD (.val (.int .u8 v3)))] []) (fun j3 h => ?_) (fun v3 h => ?_)
 ·refine wq rfl (qf Dn rfl (ql Bx rfl (qm rfl ?_)))
  refine A8 h fun v4 a4 b4 h => qi AC DS a4 (Ab b4) rfl (qk C2 rfl (CT rfl (Aa ?_)))
  refine A0 h (fun h => ?_) fun h => ?_
  ·refine Ad Ap rfl (qm rfl (qf Dn rfl (ql Bx rfl (qm rfl ?_))))
   refine A8 h fun v6 a6 b6 h => qi AC DS a6 (Ab b6) rfl (qk C2 rfl ?_)
   refine Il h fun c7 h => IT rfl c7 (Qz rfl (qe rfl ?_))
   exact sn [] h
  ·refine Ag ?_
   exact sn [] h
 ·refine wq rfl (qm rfl (qe rfl ?_))
  obtain rfl := sj h
  refine Ac (sm [] [(4, pD (.val (.int .u8 v3)))] [] rfl rfl) (Al ?_)
  exact ⟨⟨[_], tm, rfl⟩, tv⟩
theorem HV (N : Nat) (p0 : Ae) (p1 : Ao) (r : Int) (h : Fj N p0 p1 = some r) : Ak zA0 120 [.e (.agg (Ai p0)), .e (.agg (AR p1))] [] (iD r) := by
 unfold Fj at h
 refine cw (n := 135) (rs := [.tmp 4]) Tryz.func120 fun w0 S0 => ?_
 refine wq rfl (qb rfl (qb rfl (qa rfl (Aa (wp rfl (qL CS Cq rfl ?_))))))
 refine Bg h fun v1 a1 h => As [] (Dg N p0 v1 a1) Qf rfl (qa rfl (Aa (wq rfl (qm rfl (BJ rfl (Aa ?_))))))
 refine A0 h (fun h => ?_) fun h => ?_
 ·refine wq rfl (qm rfl (qe rfl ?_))
  obtain rfl := sj h
  refine Ac (sm [] [(4, iD v1)] [] rfl rfl) (Al ?_)
  exact ⟨⟨[_], tm, rfl⟩, tv⟩
 ·refine Ag (Ay ?_)
  refine AG h (fun v3 => mk [(2, oD (.ptr 2 0)), (3, oD (.ptr 3 0)), (41, bD v3)] [(2, .box (Ai p0)), (3, .box (AR p1))]) (fun j3 h => ?_) (fun v3 h => ?_)
  ·refine Ad Ap rfl (qf DZ rfl (ql Bx rfl (AD AC rfl (qf B4 rfl (ql Bx rfl (AD AC rfl (BJ rfl (qm rfl ?_))))))))
   refine DE 24 h rfl (fun h => ?_) fun h => ?_
   ·refine qw 7 rfl (qp rfl (qw 8 rfl (qp rfl (Aa ?_))))
    exact sn [] h
   ·refine qf Dn rfl (ql Bx rfl (AD AC rfl (qf B4 rfl (ql Bx rfl (AD AC rfl (BJ rfl (qp rfl (qm rfl ?_))))))))
    refine DE 33 h rfl (fun h => ?_) fun h => ?_
    ·refine qw 7 rfl (qp rfl (Aa ?_))
     exact sn [] h
    ·refine qf EP rfl (ql JP rfl (AD E2 rfl (qf CC rfl (ql Hr rfl (AD Dv rfl (BJ rfl (qp rfl (Aa ?_))))))))
     exact sn [] h
  ·refine A0 h (fun h => ?_) fun h => ?_
   ·refine wq rfl (qe rfl ?_)
    obtain rfl := sj h
    refine Ac (sm [] [(4, iD 6)] [] rfl rfl) (Al ?_)
    exact ⟨⟨[_], tm, rfl⟩, tv⟩
   ·refine Ag (wp rfl (qf B4 rfl (ql Bx rfl (AD AC rfl (qm rfl (Aa ?_))))))
    refine Av (L := FX N p0 p1) h (fun v7 => mk [(2, oD (.ptr 2 0)), (3, oD (.ptr 3 0)), (43, pD (.sl (p0.fa.map Aq))), (44, iD ((p0.fa.length : Int))), (45, iD v7)] [(2, .box (Ai p0)), (3, .box (AR p1))]) (fun v8 => mk [(2, oD (.ptr 2 0)), (3, oD (.ptr 3 0))] [(2, .box (Ai p0)), (3, .box (AR p1))]) (fun _ _ => rfl) (sm [] _ _ rfl rfl) (fun j7 n7 v7 h => ?_) (fun v8 s h hs => ?_)
    ·unfold FX at h
     refine wq rfl (AN rfl (Aa (Ay ?_)))
     refine A0 h (fun h => ?_) fun h => ?_
     ·refine Ag (Ay (AA (wq rfl (qm rfl ?_))))
      refine A8 h fun v10 a10 b10 h => qi AC DS a10 (Ab b10) rfl (qk C2 rfl (qa rfl (qa rfl (Aa (Ay ?_)))))
      refine AG h (fun v11 => mk [(2, oD (.ptr 2 0)), (3, oD (.ptr 3 0)), (6, iD v7), (43, pD (.sl (p0.fa.map Aq))), (44, iD ((p0.fa.length : Int))), (45, iD v7), (81, bD v11)] [(2, .box (Ai p0)), (3, .box (AR p1))]) (fun j11 h => ?_) (fun v11 h => ?_)
      ·refine Ad Ap rfl (qf DZ rfl (ql Bx rfl (qm rfl ?_)))
       refine A8 h fun v12 a12 b12 h => qi AC DS a12 (Ab b12) rfl (qk C2 rfl (AN rfl (qm rfl ?_)))
       refine DE 56 h rfl (fun h => ?_) fun h => ?_
       ·refine qw 7 rfl (qp rfl (qw 7 rfl (qp rfl (qw 8 rfl (qp rfl (Aa ?_))))))
        exact sn [] h
       ·refine qf DZ rfl (ql Bx rfl (qm rfl ?_))
        refine A8 h fun v14 a14 b14 h => qi AC DS a14 (Ab b14) rfl (qk C2 rfl (qm rfl (CT rfl (qp rfl (qm rfl ?_)))))
        refine DE 65 h rfl (fun h => ?_) fun h => ?_
        ·refine qw 6 rfl (qp rfl (qw 8 rfl (qp rfl (Aa ?_))))
         exact sn [] h
        ·refine qf Dn rfl (ql Bx rfl (qm rfl ?_))
         refine A8 h fun v16 a16 b16 h => qi AC DS a16 (Ab b16) rfl (qk C2 rfl (AN rfl (qp rfl (qm rfl ?_))))
         refine DE 73 h rfl (fun h => ?_) fun h => ?_
         ·refine qw 7 rfl (qp rfl (Aa ?_))
          exact sn [] h
         ·refine qf Dn rfl (ql Bx rfl (qm rfl ?_))
          refine A8 h fun v18 a18 b18 h => qi AC DS a18 (Ab b18) rfl (qk C2 rfl (qm rfl (CT rfl (qp rfl (Aa ?_)))))
          exact sn [] h
      ·refine A0 h (fun h => ?_) fun h => ?_
       ·refine wq rfl (qe rfl ?_)
        obtain rfl := sj h
        refine Ac (sm [] [(4, iD 7)] [] rfl rfl) (Al ?_)
        exact ⟨⟨[_], tm, rfl⟩, tv⟩
       ·refine Ag (wq rfl (qf DZ rfl (ql Bx rfl (qm rfl ?_))))
        refine A8 h fun v20 a20 b20 h => qi AC DS a20 (Ab b20) rfl (qk C2 rfl (qf Dn rfl (ql Bx rfl (qm rfl ?_))))
        refine A8 h fun v21 a21 b21 h => qi AC DS a21 (Ab b21) rfl (qk C2 rfl (BW rfl (AF (by kernel_rfl) ?_)))
        refine A0 h (fun h => ?_) fun h => ?_
        ·refine wq rfl (qe rfl ?_)
         obtain rfl := sj h
         refine Ac (sm [] [(4, iD 1)] [] rfl rfl) (Al ?_)
         exact ⟨⟨[_], tm, rfl⟩, tv⟩
        ·refine Ag (Ad Ap rfl (AE rfl (qm rfl (Aa ?_))))
         exact sn [] h
     ·refine AJ ?_
      exact sn [] h
    ·refine Ac hs (wp rfl (qf CC rfl (ql Hr rfl (AD Dv rfl (qm rfl (Aa ?_))))))
     refine Av (L := Fw N p0 p1) h (fun v23 => mk [(2, oD (.ptr 2 0)), (3, oD (.ptr 3 0)), (95, pD (.sl (p0.fb.map AO))), (96, iD ((p0.fb.length : Int))), (97, iD v23)] [(2, .box (Ai p0)), (3, .box (AR p1))]) (fun v24 => mk [] []) (fun _ _ => rfl) (sm [] _ _ rfl rfl) (fun j23 n23 v23 h => ?_) (fun v24 s h hs => ?_)
     ·unfold Fw at h
      refine wq rfl (AN rfl (Aa (Ay ?_)))
      refine A0 h (fun h => ?_) fun h => ?_
      ·refine Ag (Ay (AA (wq rfl (qm rfl ?_))))
       refine A8 h fun v26 a26 b26 h => qi Dv DT a26 (Ab b26) rfl (qK Iq DT rfl (qz KA rfl (qa rfl (qs DT rfl (Aa (wq rfl (qa rfl (qe rfl ?_))))))))
       refine AG h (fun v27 => mk [(2, oD (.ptr 2 0)), (3, oD (.ptr 3 0)), (8, iD v23), (10, pD (.val (.int .u8 v27.1))), (11, pD (.val (.int .u8 v27.2))), (95, pD (.sl (p0.fb.map AO))), (96, iD ((p0.fb.length : Int))), (97, iD v23)] [(2, .box (Ai p0)), (3, .box (AR p1))]) (fun j27 h => ?_) (fun v27 h => ?_)
       ·refine wq rfl (qL Iq DT rfl ?_)
        refine Bg h fun v28 a28 h => As [] (IB N v26 v28 a28) Qs rfl (Aa ?_)
        refine A0 h (fun h => ?_) fun h => ?_
        ·refine Ad Ap rfl (qL Co Bh rfl (qf Es rfl (ql C2 rfl ?_)))
         refine Bg h fun v30 a30 h => As [] (H8 N p1 v26.fg v30 a30) Qq rfl (qf B4 rfl (ql Bx rfl (qf Es rfl (ql C2 rfl ?_))))
         refine A8 h fun v31 a31 b31 h => qi AC DS a31 (Ab b31) rfl (qk C2 rfl ?_)
         refine Il h fun c32 h => IT rfl c32 (BP rfl (qa rfl (qa rfl (AF (by kernel_rfl) ?_))))
         exact sn [] h
        ·refine Ag ?_
         exact sn [] h
       ·refine AG h (fun v33 => mk [(2, oD (.ptr 2 0)), (3, oD (.ptr 3 0)), (95, pD (.sl (p0.fb.map AO))), (96, iD ((p0.fb.length : Int))), (97, iD v23), (133, bD v33)] [(2, .box (Ai p0)), (3, .box (AR p1))]) (fun j33 h => ?_) (fun v33 h => ?_)
        ·refine Ad Ap rfl (qm rfl (qf EP rfl (ql JP rfl (qm rfl ?_))))
         refine A8 h fun v34 a34 b34 h => qi E2 GN a34 (Ab b34) rfl (qk Kd rfl (Jk rfl (BJ rfl (qm rfl ?_))))
         refine DE 124 h rfl (fun h => ?_) fun h => ?_
         ·refine qw 8 rfl (qp rfl (Aa ?_))
          exact sn [] h
         ·refine qf EP rfl (ql JP rfl (qm rfl ?_))
          refine A8 h fun v36 a36 b36 h => qi E2 GN a36 (Ab b36) rfl (qk Kd rfl (qm rfl (Jk rfl (BJ rfl (qp rfl (Aa ?_))))))
          exact sn [] h
        ·refine A0 h (fun h => ?_) fun h => ?_
         ·refine wq rfl (qe rfl ?_)
          obtain rfl := sj h
          refine Ac (sm [] [(4, iD 1)] [] rfl rfl) (Al ?_)
          exact ⟨⟨[_], tm, rfl⟩, tv⟩
         ·refine Ag (Ad Ap rfl (AE rfl (qm rfl (Aa ?_))))
          exact sn [] h
      ·refine AJ ?_
       exact sn [] h
     ·refine Ac hs (wq rfl (qe rfl ?_))
      obtain rfl := sj h
      refine Ac (sm [] [(4, iD 0)] [] rfl rfl) (Al ?_)
      exact ⟨⟨[_], tm, rfl⟩, tv⟩
theorem Ey (N : Nat) (p0 : List Int) (r : (List Int)) (h : Cc N p0 = some r) : Ak zA0 174 [pD (.sl (p0.map EC))] [(1, r.map EC)] (oD (.own 0)) := by
 unfold Cc at h
 refine cw (n := 8) (rs := [.tmp 2]) Tryz.func174 fun w0 S0 => ?_
 refine wq rfl (qa rfl (Aa (wp rfl (qm rfl ?_))))
 refine Kc (.p rfl) rfl E2 ?_
 refine Aa ?_
 refine Kk rfl (fun c2 => ?_) ?_
 ·have c2 := zF2.1 c2
  rw [c2] at h
  have h : (some (([] : List Int))) = some r := h
  refine wq rfl (qe rfl ?_)
  obtain rfl := sj h
  refine Ac ((Bc 2 2001 1 rfl rfl rfl).trans (sm [(1000, 2001)] [(2, oD (.own 1000))] [(1000, .vec 1 ((([] : List Int)).map EC))] rfl rfl)) (Al ?_)
  exact ⟨⟨[_], tm, rfl⟩, ⟨rfl, tv⟩⟩
 ·refine Ag (wq rfl (ED E2 GN P3 rfl (qm rfl ?_)))
  refine Il h fun c1 h => LJ (f := EC) E2 E2 GN P7 P3 (fun _ => rfl) c1 rfl (qe rfl ?_)
  obtain rfl := sj h
  refine Ac (sm [(1000, 7)] [(2, oD (.own 1000))] [(1000, .vec 1 (((([] : List Int)) ++ p0).map EC))] rfl rfl) (Al ?_)
  exact ⟨⟨[_], tm, rfl⟩, ⟨rfl, tv⟩⟩
theorem MT (N : Nat) (p0 : Ae) (p1 : Ao) (r : (List Ao) × Int) (h : H6 N p0 p1 = some r) : Ak zA0 153 [.e (.agg (Ai p0)), .e (.agg (AR p1))] [(3, r.1.map A7)] (.tup [.one (.own 0), .one (iC r.2)]) := by
 unfold H6 at h
 refine cw (n := 75) (rs := [.tmp 4, .tmp 5]) Tryz.func153 fun w0 S0 => ?_
 refine wq rfl (qb rfl (qb rfl (qa rfl (qa rfl (Aa (wp rfl (qL CS Cq rfl (qL Co Bh rfl ?_))))))))
 refine Bg h fun v1 a1 h => As [] (HV N p0 p1 v1 a1) OH rfl (qa rfl (Aa (wq rfl (qm rfl (BJ rfl (Aa ?_))))))
 refine A0 h (fun h => ?_) fun h => ?_
 ·refine wq rfl (qm rfl (qa rfl (qe rfl ?_)))
  obtain rfl := sj h
  refine Ac ((Bc 4 2001 3 rfl rfl rfl).trans (sm [(1000, 2001)] [(4, oD (.own 1000)), (5, iD v1)] [(1000, .vec 3 ((([] : List Ao)).map A7))] rfl rfl)) (Al ?_)
  exact ⟨⟨[_, _], ⟨.tmp _ _ rfl, tm⟩, rfl⟩, ⟨rfl, tv⟩⟩
 ·refine Ag (wq rfl (qa rfl (Aa (wp rfl (qf Dn rfl (ql Bx rfl (AD AC rfl (qm rfl (Aa ?_)))))))))
  refine Av (L := Fq N p1) h (fun v3 => mk [(3, oD (.ptr 3 0)), (7, oD (.own 2002)), (22, pD (.sl (p1.fc.map Aq))), (23, iD ((p1.fc.length : Int))), (24, iD v3.2)] [(3, .box (AR p1)), (2002, .vec 1 (v3.1.map Aq))]) (fun v4 => mk [(3, oD (.ptr 3 0)), (7, oD (.own 2003))] [(3, .box (AR p1)), (2003, .vec 1 (v4.map Aq))]) (fun _ _ => rfl) ((Bc 7 2005 1 rfl rfl rfl).trans (sm [(2002, 2005)] _ _ rfl rfl)) (fun j3 n3 v3 h => ?_) (fun v4 s h hs => ?_)
  ·unfold Fq at h
   refine wq rfl (AN rfl (Aa (Ay ?_)))
   refine A0 h (fun h => ?_) fun h => ?_
   ·refine Ag ?_
    refine AG h (fun v6 => mk [(3, oD (.ptr 3 0)), (7, oD (.own 2004)), (22, pD (.sl (p1.fc.map Aq))), (23, iD ((p1.fc.length : Int))), (24, iD v3.2)] [(3, .box (AR p1)), (2004, .vec 1 (v6.map Aq))]) (fun j6 h => ?_) (fun v6 h => ?_)
    ·refine AA (wq rfl (qm rfl ?_))
     refine A8 h fun v7 a7 b7 h => qi AC DS a7 (Ab b7) rfl (qk C2 rfl (qa rfl (qa rfl (Aa (wq rfl (qm rfl (CT rfl (Aa ?_))))))))
     refine A0 h (fun h => ?_) fun h => ?_
     ·refine Ad Ap rfl (qw 2 rfl (ED AC DS KL rfl ?_))
      refine Il h fun c9 h => EQ (f := Aq) AC AC DS Ns KL c9 rfl (qe rfl ?_)
      exact sn [(2004, 34)] h
     ·refine Ag ?_
      exact sn [(2004, 2002)] h
    ·refine Ad Ap rfl (AE rfl (qm rfl (Aa ?_)))
     exact sn [(2002, 2004)] h
   ·refine AJ ?_
    exact sn [(2003, 2002)] h
  ·refine Ac hs (wq rfl (qa rfl (Aa (wp rfl (qm rfl (Eu AC rfl ?_))))))
   refine Il h fun c10 h => IT rfl c10 (qm rfl (Aa ?_))
   refine Av (L := E1 N p1 v4) h (fun v11 => mk [(3, oD (.ptr 3 0)), (7, oD (.own 2006)), (10, oD (.own 2007)), (38, iD ((DJ .i64 1 ((v4.length : Int))))), (39, iD v11.2)] [(3, .box (AR p1)), (2006, .vec 1 (v4.map Aq)), (2007, .vec 3 (v11.1.map A7))]) (fun v12 => mk [(10, oD (.own 2008))] [(2008, .vec 3 (v12.map A7))]) (fun _ _ => rfl) ((Bc 10 2027 3 rfl rfl rfl).trans (sm [(2006, 2003), (2007, 2027)] _ _ rfl rfl)) (fun j11 n11 v11 h => ?_) (fun v12 s h hs => ?_)
   ·unfold E1 at h
    refine wq rfl (AN rfl (Aa (Ay ?_)))
    refine A0 h (fun h => ?_) fun h => ?_
    ·refine Ag (Ay (AA (wq rfl (qm rfl (qa rfl (Aa (wq rfl (qf DZ rfl (ql Bx rfl ?_)))))))))
     refine Bg h fun v14 a14 h => As [2009] (CZ N p1.fe v14 a14) PC rfl (qf Dn rfl (ql Bx rfl ?_))
     refine Bg h fun v15 a15 h => As [2010] (CZ N p1.fc v15 a15) PC rfl (qf EP rfl (ql JP rfl ?_))
     refine Bg h fun v16 a16 h => As [2011] (Ey N p1.ff v16 a16) Rz rfl (CD F1 L0 rfl (qz F1 rfl (qs Bh rfl (AF (by kernel_rfl) (wp rfl (qm rfl (Eu AC rfl (qm rfl (Aa ?_)))))))))
     refine Av (L := E3 N v4 v11) h (fun v17 => mk [(3, oD (.ptr 3 0)), (7, oD (.own 2015)), (10, oD (.own 2016)), (11, iD v11.2), (12, oD (.ptr 12 0)), (38, iD ((DJ .i64 1 ((v4.length : Int))))), (39, iD v11.2), (52, oD (.own 2015)), (53, iD ((v4.length : Int))), (54, iD v17.2)] [(3, .box (AR p1)), (12, .box [.own 2012, .own 2013, .own 2014]), (2012, .vec 1 (v14.map Aq)), (2013, .vec 1 (v17.1.map Aq)), (2014, .vec 1 (v16.map EC)), (2015, .vec 1 (v4.map Aq)), (2016, .vec 3 (v11.1.map A7))]) (fun v18 => mk [(3, oD (.ptr 3 0)), (7, oD (.own 2020)), (10, oD (.own 2021)), (12, oD (.ptr 12 0)), (38, iD ((DJ .i64 1 ((v4.length : Int))))), (39, iD v11.2)] [(3, .box (AR p1)), (12, .box [.own 2017, .own 2018, .own 2019]), (2017, .vec 1 (v14.map Aq)), (2018, .vec 1 (v18.map Aq)), (2019, .vec 1 (v16.map EC)), (2020, .vec 1 (v4.map Aq)), (2021, .vec 3 (v11.1.map A7))]) (fun _ _ => rfl) (sm [(2012, 2009), (2013, 2010), (2014, 2011), (2015, 2006), (2016, 2007)] _ _ rfl rfl) (fun j17 n17 v17 h => ?_) (fun v18 s h hs => ?_)
     ·unfold E3 at h
      refine wq rfl (AN rfl (Aa (Ay ?_)))
      refine A0 h (fun h => ?_) fun h => ?_
      ·refine Ag ?_
       refine AG h (fun v20 => mk [(3, oD (.ptr 3 0)), (7, oD (.own 2025)), (10, oD (.own 2026)), (11, iD v11.2), (12, oD (.ptr 12 0)), (38, iD ((DJ .i64 1 ((v4.length : Int))))), (39, iD v11.2), (52, oD (.own 2025)), (53, iD ((v4.length : Int))), (54, iD v17.2)] [(3, .box (AR p1)), (12, .box [.own 2022, .own 2023, .own 2024]), (2022, .vec 1 (v14.map Aq)), (2023, .vec 1 (v20.map Aq)), (2024, .vec 1 (v16.map EC)), (2025, .vec 1 (v4.map Aq)), (2026, .vec 3 (v11.1.map A7))]) (fun j20 h => ?_) (fun v20 h => ?_)
       ·refine AA (wq rfl (qm rfl ?_))
        refine A8 h fun v21 a21 b21 h => qI AC DS a21 (Ab b21) rfl (qj C2 (Ab b21) rfl (qa rfl (qa rfl (Aa (wq rfl (qw 2 rfl ?_))))))
        refine Il h fun c22 h => ES rfl c22 (GJ rfl (BW rfl (Aa ?_)))
        refine A0 h (fun h => ?_) fun h => ?_
        ·refine Ad Ap rfl (qf Dn rfl (ql Bx rfl (qm rfl ?_)))
         refine A8 h fun v24 a24 b24 h => qI AC DS a24 (Ab b24) rfl ?_
         refine AV rfl rfl rfl rfl (Ab b24) rfl DS rfl (CH rfl) (AT Aq v17.1 _ ((-1))) ?_
         refine Aa ?_
         exact sn [(2022, 2012), (2023, 2013), (2024, 2014), (2025, 2015), (2026, 2016)] h
        ·refine Ag ?_
         exact sn [(2022, 2012), (2023, 2013), (2024, 2014), (2025, 2015), (2026, 2016)] h
       ·refine Ad Ap rfl (AE rfl (qm rfl (Aa ?_)))
        exact sn [(2012, 2022), (2013, 2023), (2014, 2024), (2015, 2025), (2016, 2026)] h
      ·refine AJ ?_
       exact sn [(2017, 2012), (2018, 2013), (2019, 2014), (2020, 2015), (2021, 2016)] h
     ·refine Ac hs (Ad Ap rfl (qm rfl (qL Co Bh rfl (C3 (BQ 2017 _ _ rfl rfl) (C3 (BQ 2018 _ _ rfl rfl) (C3 (BQ 2019 _ _ rfl rfl) (ED HZ Bh F1 rfl ?_)))))))
      refine Il h fun c25 h => EQ (f := A7) HZ HZ Bh Tb F1 c25 rfl (qa rfl (Aa (Ad Ap rfl (AE rfl (qm rfl (Aa ?_))))))
      exact sn [(2006, 2020), (2007, 72)] h
    ·refine AJ ?_
     exact sn [(2008, 2007)] h
   ·refine Ac hs (wq rfl (qm rfl (qa rfl (qe rfl ?_))))
    obtain rfl := sj h
    refine Ac (sm [(1000, 2008)] [(4, oD (.own 1000)), (5, iD 0)] [(1000, .vec 3 (v12.map A7))] rfl rfl) (Al ?_)
    exact ⟨⟨[_, _], ⟨.tmp _ _ rfl, tm⟩, rfl⟩, ⟨rfl, tv⟩⟩
end Go.Lift
