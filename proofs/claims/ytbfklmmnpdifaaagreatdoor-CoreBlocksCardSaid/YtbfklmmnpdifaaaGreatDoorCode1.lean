/- Lemmas for CoreBlocksCardSaid, which YtbfklmmnpdifaaaGreatDoorFinC3 proves. -/
import Derived.Test.YtbfklmmnpdifaaaGreatDoorTypes
import Derived.Test.YtbfklmmnpdifaaaGreatDoorProg
import Derived.KernelRfl
open Int renaming tdiv → x8, tmod → zU
open List renaming append → yM, replicate → zG
open Nat renaming min → y8
open Go.Proofs.Tryz renaming prog → zA
namespace Go.Lift
open IntKind renaming wrap → wI
def EX (_ : Nat) (p0 : List Int) (p1 : Int) : Option Int :=
 AR ((decide (p1 < (p0.length : Int))))
  ((A4 p0 p1).bind fun v2 =>
  some ((wI .i64 v2)))
  (some 0)
def Be (_ : Nat) (p0 : Am) : Option Bool :=
 Ba (fun (v1 : Bool) =>
  some v1)
 fun j1 =>
 AR ((p0.ff == 3))
  (j1 true)
  (j1 (p0.ff == 4))
def CN (N : Nat) (p1 : Int) (p2 : Int) (p3 : Bool) (v1 : (List (List Bool)) × Int) (j4 : ((List Bool)) → Option ((List (List Bool)))) : Nat → ((List Bool) × Int) → Option ((List (List Bool)))
 | 0, _ => none
 | n4 + 1, v4 =>
  AR ((decide (v4.2 < p1)))
   (Ba (fun (v7 : (List Bool)) =>
    CN N p1 p2 p3 v1 j4 n4 (v7, (wI .i64 (v4.2 + 1))))
   fun j7 =>
   AR p3
    (AR ((v1.2 == v4.2))
     ((Ej (v4.1.length + (([true] : List Bool)).length ≤ Dz)).bind fun _ =>
     j7 (v4.1 ++ (([true] : List Bool))))
     ((Ej (0 ≤ (wI .i64 ((wI .i64 (3 * v1.2)) + v4.2)))).bind fun _ =>
     (Ej (v4.1.length + (([((zU ((AW .u16 p2 ((wI .i64 ((wI .i64 (3 * v1.2)) + v4.2))))) 2) == 0)] : List Bool)).length ≤ Dz)).bind fun _ =>
     j7 (v4.1 ++ (([((zU ((AW .u16 p2 ((wI .i64 ((wI .i64 (3 * v1.2)) + v4.2))))) 2) == 0)] : List Bool)))))
    ((Ej (0 ≤ (wI .i64 ((wI .i64 (3 * v1.2)) + v4.2)))).bind fun _ =>
    (Ej (v4.1.length + (([((zU ((AW .u16 p2 ((wI .i64 ((wI .i64 (3 * v1.2)) + v4.2))))) 2) == 0)] : List Bool)).length ≤ Dz)).bind fun _ =>
    j7 (v4.1 ++ (([((zU ((AW .u16 p2 ((wI .i64 ((wI .i64 (3 * v1.2)) + v4.2))))) 2) == 0)] : List Bool)))))
   (j4 v4.1)
def CO (N : Nat) (p0 : Int) (p1 : Int) (p2 : Int) (p3 : Bool) (j1 : ((List (List Bool))) → Option ((List (List Bool)))) : Nat → ((List (List Bool)) × Int) → Option ((List (List Bool)))
 | 0, _ => none
 | n1 + 1, v1 =>
  AR ((decide (v1.2 < p0)))
   (CN N p1 p2 p3 v1 (fun (v5 : (List Bool)) =>
    (Ej (v1.1.length + (([v5] : List (List Bool))).length ≤ Dz)).bind fun _ =>
    CO N p0 p1 p2 p3 j1 n1 (v1.1 ++ (([v5] : List (List Bool))), (wI .i64 (v1.2 + 1)))) N (([] : List Bool), 0))
   (j1 v1.1)
def EW (N : Nat) (p0 : Int) (p1 : Int) (p2 : Int) (p3 : Bool) : Option ((List (List Bool))) :=
 CO N p0 p1 p2 p3 (fun (v2 : (List (List Bool))) =>
  some v2) N (([] : List (List Bool)), 0)
def Dh (N : Nat) (p0 : BL) (j4 : ((List Int) × (List Int) × (List Int)) → Option (Aa × Bool)) : Nat → ((List Int) × (List Int) × (List Int) × Int) → Option (Aa × Bool)
 | 0, _ => none
 | n4 + 1, v4 =>
  AR ((decide (v4.2.2.2 < (p0.fb.length : Int))))
   ((A4 p0.fb v4.2.2.2).bind fun v7 =>
   (Ej (v4.1.length + (([(wI .i64 (1 + (wI .i64 ((zU v7 3)))))] : List Int)).length ≤ Dz)).bind fun _ =>
   (EX N p0.fi v4.2.2.2).bind fun v9 =>
   (Ej ((wI .i64 (1 + (wI .i64 ((zU v7 3))))) ≠ 0)).bind fun _ =>
   (Ej (v4.2.1.length + (([(zU v9 ((wI .i64 (1 + (wI .i64 ((zU v7 3)))))))] : List Int)).length ≤ Dz)).bind fun _ =>
   (EX N p0.fm v4.2.2.2).bind fun v12 =>
   (Ej ((wI .i64 (1 + (wI .i64 ((zU v7 3))))) ≠ 0)).bind fun _ =>
   (Ej (v4.2.2.1.length + (([(zU v12 ((wI .i64 (1 + (wI .i64 ((zU v7 3)))))))] : List Int)).length ≤ Dz)).bind fun _ =>
   Dh N p0 j4 n4 (v4.1 ++ (([(wI .i64 (1 + (wI .i64 ((zU v7 3)))))] : List Int)), v4.2.1 ++ (([(zU v9 ((wI .i64 (1 + (wI .i64 ((zU v7 3)))))))] : List Int)), v4.2.2.1 ++ (([(zU v12 ((wI .i64 (1 + (wI .i64 ((zU v7 3)))))))] : List Int)), (wI .i64 (v4.2.2.2 + 1))))
   (j4 (v4.1, v4.2.1, v4.2.2.1))
def BH (N : Nat) (p0 : BL) (v5 : (List Int) × (List Int) × (List Int)) (j15 : ((List Am)) → Option (Aa × Bool)) : Nat → ((List Am) × Int) → Option (Aa × Bool)
 | 0, _ => none
 | n15 + 1, v15 =>
  Ba (fun (v17 : Bool) =>
   AR v17
    ((A4 p0.fv v15.2).bind fun v20 =>
    (Ej ((v5.1.length : Int) ≠ 0)).bind fun _ =>
    (Ej ((v5.1.length : Int) ≠ 0)).bind fun _ =>
    Ba (fun (v23 : Bool) =>
     (A4 v5.1 ((zU ((wI .i64 v20.fg)) ((v5.1.length : Int))))).bind fun v26 =>
     (A4 v5.1 ((zU ((wI .i64 v20.fj)) ((v5.1.length : Int))))).bind fun v27 =>
     (EW N v26 v27 v20.fw false).bind fun v28 =>
     Ba (fun (v29 : (List (List Bool))) =>
      (Ej (v15.1.length + (([(Am.mk ((wI .i64 (1 + (wI .i64 ((zU v20.ff 4)))))) ((zU ((wI .i64 v20.fg)) ((v5.1.length : Int)))) ((zU ((wI .i64 v20.fj)) ((v5.1.length : Int)))) v23 v28 v29)] : List Am)).length ≤ Dz)).bind fun _ =>
      BH N p0 v5 j15 n15 (v15.1 ++ (([(Am.mk ((wI .i64 (1 + (wI .i64 ((zU v20.ff 4)))))) ((zU ((wI .i64 v20.fg)) ((v5.1.length : Int)))) ((zU ((wI .i64 v20.fj)) ((v5.1.length : Int)))) v23 v28 v29)] : List Am)), (wI .i64 (v15.2 + 1))))
     fun j29 =>
     AR (((wI .i64 (1 + (wI .i64 ((zU v20.ff 4))))) == 4))
      ((A4 v5.1 ((zU ((wI .i64 v20.fg)) ((v5.1.length : Int))))).bind fun v31 =>
      (A4 v5.1 ((zU ((wI .i64 v20.fg)) ((v5.1.length : Int))))).bind fun v32 =>
      (EW N v31 v32 v20.fy true).bind fun v33 =>
      j29 v33)
      (j29 ([] : List (List Bool))))
    fun j23 =>
    AR v20.fr
     ((Be N ((Am.mk ((wI .i64 (1 + (wI .i64 ((zU v20.ff 4)))))) ((zU ((wI .i64 v20.fg)) ((v5.1.length : Int)))) ((zU ((wI .i64 v20.fj)) ((v5.1.length : Int)))) false (([] : List (List Bool))) (([] : List (List Bool)))))).bind fun v25 =>
     j23 (!v25))
     (j23 false))
    (j15 v15.1))
  fun j17 =>
  AR ((decide (v15.2 < (p0.fv.length : Int))))
   (j17 (decide (0 < (v5.1.length : Int))))
   (j17 false)
def Gn (N : Nat) (p0 : BL) : Option (Aa × Bool) :=
 Ba (fun (v1 : Bool) =>
  AR v1
   (some ((Aa.mk (([] : List Int)) (([] : List Int)) (([] : List Int)) (([] : List Am))), false))
   (Dh N p0 (fun (v5 : (List Int) × (List Int) × (List Int)) =>
    BH N p0 v5 (fun (v16 : (List Am)) =>
     some ((Aa.mk v5.1 v5.2.1 v5.2.2 v16), true)) N (([] : List Am), 0)) N (([] : List Int), ([] : List Int), ([] : List Int), 0)))
 fun j1 =>
 AR ((decide (3 < (p0.fb.length : Int))))
  (j1 true)
  (j1 (decide (4 < (p0.fv.length : Int))))
def CQ (N : Nat) (p0 : List (List Bool)) (p1 : Int) (p2 : Int) (j2 : Unit → Option Bool) : Nat → Int → Option Bool
 | 0, _ => none
 | n2 + 1, v2 =>
  AR ((decide (v2 < p1)))
   ((A4 p0 v2).bind fun v5 =>
   AR (((v5.length : Int) != p2))
    (some false)
    (CQ N p0 p1 p2 j2 n2 (wI .i64 (v2 + 1))))
   (j2 ())
def El (N : Nat) (p0 : List (List Bool)) (p1 : Int) (p2 : Int) : Option Bool :=
 AR (((p0.length : Int) != p1))
  (some false)
  (CQ N p0 p1 p2 (fun (_ : Unit) =>
   some true) N 0)
def Ci (N : Nat) (p1 : Am) (j22 : Unit → Option Int) : Nat → Int → Option Int
 | 0, _ => none
 | n22 + 1, v22 =>
  AR ((decide (v22 < (p1.fk.length : Int))))
   ((A4 p1.fk v22).bind fun v25 =>
   (A4 v25 v22).bind fun v26 =>
   AR ((!v26))
    (some 1)
    (Ci N p1 j22 n22 (wI .i64 (v22 + 1))))
   (j22 ())
def Fy (N : Nat) (p0 : Aa) (p1 : Am) : Option Int :=
 Ba (fun (v1 : Bool) =>
  AR v1
   (some 1)
   (Ba (fun (v7 : Bool) =>
    AR v7
     (some 4)
     ((A4 p0.fb p1.fg).bind fun v12 =>
     (A4 p0.fb p1.fj).bind fun v13 =>
     (El N p1.fq v12 v13).bind fun v14 =>
     AR ((!v14))
      (some 6)
      (AR ((p1.ff != 4))
       (AR (((p1.fk.length : Int) != 0))
        (some 6)
        (some 0))
       ((A4 p0.fb p1.fg).bind fun v18 =>
       (A4 p0.fb p1.fg).bind fun v19 =>
       (El N p1.fk v18 v19).bind fun v20 =>
       AR ((!v20))
        (some 6)
        (Ci N p1 (fun (_ : Unit) =>
         some 0) N 0)))))
   fun j7 =>
   AR ((decide (p1.fg < 0)))
    (j7 true)
    (AR ((decide ((p0.fb.length : Int) ≤ p1.fg)))
     (j7 true)
     (AR ((decide (p1.fj < 0)))
      (j7 true)
      (j7 (decide ((p0.fb.length : Int) ≤ p1.fj)))))))
 fun j1 =>
 AR ((decide (p1.ff < 1)))
  (j1 true)
  (AR ((decide (4 < p1.ff)))
   (j1 true)
   (AR p1.fr
    ((Be N p1).bind fun v5 =>
    j1 v5)
    (j1 false)))
def Br (N : Nat) (p0 : Aa) (j7 : Unit → Option Int) : Nat → Int → Option Int
 | 0, _ => none
 | n7 + 1, v7 =>
  AR ((decide (v7 < (p0.fb.length : Int))))
   ((A4 p0.fb v7).bind fun v10 =>
   Ba (fun (v11 : Bool) =>
    AR v11
     (some 7)
     (Br N p0 j7 n7 (wI .i64 (v7 + 1))))
   fun j11 =>
   AR ((decide (v10 < 1)))
    (j11 true)
    (AR ((decide (6 < v10)))
     (j11 true)
     ((A4 p0.fi v7).bind fun v14 =>
     AR ((decide (v14 < 0)))
      (j11 true)
      ((A4 p0.fi v7).bind fun v16 =>
      AR ((decide (v10 ≤ v16)))
       (j11 true)
       ((A4 p0.fm v7).bind fun v18 =>
       AR ((decide (v18 < 0)))
        (j11 true)
        ((A4 p0.fm v7).bind fun v20 =>
        j11 (decide (v10 ≤ v20))))))))
   (j7 ())
def Bm (N : Nat) (p0 : Aa) (j22 : Unit → Option Int) : Nat → Int → Option Int
 | 0, _ => none
 | n22 + 1, v22 =>
  AR ((decide (v22 < (p0.fc.length : Int))))
   ((A4 p0.fc v22).bind fun v25 =>
   (Fy N p0 v25).bind fun v26 =>
   AR ((v26 != 0))
    (some v26)
    (Bm N p0 j22 n22 (wI .i64 (v22 + 1))))
   (j22 ())
def BK (N : Nat) (p0 : Aa) : Option Int :=
 Ba (fun (v1 : Bool) =>
  AR v1
   (some 3)
   (Ba (fun (v4 : Bool) =>
    AR v4
     (some 6)
     (Br N p0 (fun (_ : Unit) =>
      Bm N p0 (fun (_ : Unit) =>
       some 0) N 0) N 0))
   fun j4 =>
   AR (((p0.fi.length : Int) != (p0.fb.length : Int)))
    (j4 true)
    (j4 ((p0.fm.length : Int) != (p0.fb.length : Int)))))
 fun j1 =>
 AR ((decide (6 < (p0.fb.length : Int))))
  (j1 true)
  (j1 (decide (12 < (p0.fc.length : Int))))
def F6 (N : Nat) (p0 : Int) (j1 : ((List Int)) → Option ((List Int))) : Nat → ((List Int) × Int) → Option ((List Int))
 | 0, _ => none
 | n1 + 1, v1 =>
  (Ej (0 ≤ v1.2)).bind fun _ =>
  AR ((decide (0 < (AW .i64 p0 v1.2))))
   (Ba (fun (v5 : (List Int)) =>
    F6 N p0 j1 n1 (v5, (wI .i64 (v1.2 + 1))))
   fun j5 =>
   (Ej (0 ≤ v1.2)).bind fun _ =>
   AR (((zU ((AW .i64 p0 v1.2)) 2) == 1))
    ((Ej (v1.1.length + (([v1.2] : List Int)).length ≤ Dz)).bind fun _ =>
    j5 (v1.1 ++ (([v1.2] : List Int))))
    (j5 v1.1))
   (j1 v1.1)
def Ip (N : Nat) (p0 : Int) : Option ((List Int)) :=
 F6 N p0 (fun (v2 : (List Int)) =>
  some v2) N (([] : List Int), 0)
def Fm (N : Nat) (p0 : List Int) (p1 : List Int) (j2 : Unit → Option Bool) : Nat → Int → Option Bool
 | 0, _ => none
 | n2 + 1, v2 =>
  AR ((decide (v2 < (p0.length : Int))))
   ((A4 p0 v2).bind fun v5 =>
   (A4 p1 v2).bind fun v6 =>
   AR ((v5 != v6))
    ((A4 p0 v2).bind fun v8 =>
    (A4 p1 v2).bind fun v9 =>
    some ((decide (v8 < v9))))
    (Fm N p0 p1 j2 n2 (wI .i64 (v2 + 1))))
   (j2 ())
def Hs (N : Nat) (p0 : List Int) (p1 : List Int) : Option Bool :=
 AR (((p0.length : Int) != (p1.length : Int)))
  (some ((decide ((p0.length : Int) < (p1.length : Int)))))
  (Fm N p0 p1 (fun (_ : Unit) =>
   some false) N 0)
def FQ (N : Nat) (j7 : ((List (List Int))) → Option ((List (List Int)))) : Nat → ((List (List Int)) × Int) → Option ((List (List Int)))
 | 0, _ => none
 | n7 + 1, v7 =>
  Ba (fun (v9 : Bool) =>
   AR v9
    ((A4 v7.1 ((wI .i64 (v7.2 - 1)))).bind fun v15 =>
    (A4 v7.1 v7.2).bind fun v16 =>
    (A4 v7.1 v7.2).bind fun _ =>
    (A4 (v7.1.set ((v7.2).toNat) v15) ((wI .i64 (v7.2 - 1)))).bind fun _ =>
    FQ N j7 n7 ((v7.1.set ((v7.2).toNat) v15).set (((wI .i64 (v7.2 - 1))).toNat) v16, (wI .i64 (v7.2 - 1))))
    (j7 v7.1))
  fun j9 =>
  AR ((decide (0 < v7.2)))
   ((A4 v7.1 v7.2).bind fun v11 =>
   (A4 v7.1 ((wI .i64 (v7.2 - 1)))).bind fun v12 =>
   (Hs N v11 v12).bind fun v13 =>
   j9 v13)
   (j9 false)
def FM (N : Nat) (p0 : Int) (j1 : ((List (List Int))) → Option ((List (List Int)))) : Nat → ((List (List Int)) × Int) → Option ((List (List Int)))
 | 0, _ => none
 | n1 + 1, v1 =>
  (Ej (0 ≤ p0)).bind fun _ =>
  AR ((decide (v1.2 < (CX .i64 1 p0))))
   ((Ip N v1.2).bind fun v5 =>
   (Ej (v1.1.length + (([v5] : List (List Int))).length ≤ Dz)).bind fun _ =>
   FQ N (fun (v8 : (List (List Int))) =>
    FM N p0 j1 n1 (v8, (wI .i64 (v1.2 + 1)))) N (v1.1 ++ (([v5] : List (List Int))), (wI .i64 (((v1.1 ++ (([v5] : List (List Int)))).length : Int) - 1))))
   (j1 v1.1)
def DE (N : Nat) (p0 : Int) : Option ((List (List Int))) :=
 FM N p0 (fun (v2 : (List (List Int))) =>
  some v2) N (([] : List (List Int)), 0)
def Ct (N : Nat) (p0 : List Int) (p1 : Int) (j1 : Unit → Option Int) : Nat → Int → Option Int
 | 0, _ => none
 | n1 + 1, v1 =>
  AR ((decide (v1 < (p0.length : Int))))
   ((A4 p0 v1).bind fun v4 =>
   AR ((v4 == p1))
    (some v1)
    (Ct N p0 p1 j1 n1 (wI .i64 (v1 + 1))))
   (j1 ())
def EG (N : Nat) (p0 : List Int) (p1 : Int) : Option Int :=
 Ct N p0 p1 (fun (_ : Unit) =>
  some ((-1))) N 0
def CR (N : Nat) (p0 : List (List Bool)) (j1 : ((List (List Bool))) → Option ((List (List Bool)))) : Nat → ((List (List Bool)) × Int) → Option ((List (List Bool)))
 | 0, _ => none
 | n1 + 1, v1 =>
  AR ((decide (v1.2 < (p0.length : Int))))
   ((A4 p0 v1.2).bind fun v4 =>
   (Ej ((([] : List Bool)).length + v4.length ≤ Dz)).bind fun _ =>
   (Ej (v1.1.length + (([(([] : List Bool)) ++ v4] : List (List Bool))).length ≤ Dz)).bind fun _ =>
   CR N p0 j1 n1 (v1.1 ++ (([(([] : List Bool)) ++ v4] : List (List Bool))), (wI .i64 (v1.2 + 1))))
   (j1 v1.1)
def Ek (N : Nat) (p0 : List (List Bool)) : Option ((List (List Bool))) :=
 CR N p0 (fun (v2 : (List (List Bool))) =>
  some v2) N (([] : List (List Bool)), 0)
def F4 (N : Nat) (p0 : Am) (p1 : Int) (p2 : Int) : Option Am :=
 (Ek N p0.fq).bind fun v1 =>
 (Ek N p0.fk).bind fun v2 =>
 some ((Am.mk p0.ff p1 p2 p0.fr v1 v2))
def A1 (N : Nat) (p1 : List Int) (j3 : Unit → Option (Aa × Int)) : Nat → Int → Option (Aa × Int)
 | 0, _ => none
 | n3 + 1, v3 =>
  AR ((decide (v3 < (p1.length : Int))))
   ((A4 p1 v3).bind fun v6 =>
   (A4 p1 ((wI .i64 (v3 - 1)))).bind fun v7 =>
   AR ((decide (v6 ≤ v7)))
    (some ((Aa.mk (([] : List Int)) (([] : List Int)) (([] : List Int)) (([] : List Am))), 1))
    (A1 N p1 j3 n3 (wI .i64 (v3 + 1))))
   (j3 ())
def C7 (N : Nat) (p0 : Aa) (p1 : List Int) (j9 : ((List Int) × (List Int) × (List Int)) → Option (Aa × Int)) : Nat → ((List Int) × (List Int) × (List Int) × Int) → Option (Aa × Int)
 | 0, _ => none
 | n9 + 1, v9 =>
  AR ((decide (v9.2.2.2 < (p1.length : Int))))
   ((A4 p1 v9.2.2.2).bind fun v12 =>
   Ba (fun (v13 : Bool) =>
    AR v13
     (some ((Aa.mk (([] : List Int)) (([] : List Int)) (([] : List Int)) (([] : List Am))), 4))
     ((A4 p0.fb v12).bind fun v16 =>
     (Ej (v9.1.length + (([v16] : List Int)).length ≤ Dz)).bind fun _ =>
     (A4 p0.fi v12).bind fun v18 =>
     (Ej (v9.2.1.length + (([v18] : List Int)).length ≤ Dz)).bind fun _ =>
     (A4 p0.fm v12).bind fun v20 =>
     (Ej (v9.2.2.1.length + (([v20] : List Int)).length ≤ Dz)).bind fun _ =>
     C7 N p0 p1 j9 n9 (v9.1 ++ (([v16] : List Int)), v9.2.1 ++ (([v18] : List Int)), v9.2.2.1 ++ (([v20] : List Int)), (wI .i64 (v9.2.2.2 + 1)))))
   fun j13 =>
   AR ((decide (v12 < 0)))
    (j13 true)
    (j13 (decide ((p0.fb.length : Int) ≤ v12))))
   (j9 (v9.1, v9.2.1, v9.2.2.1))
def BJ (N : Nat) (p0 : Aa) (p1 : List Int) (j22 : ((List Am)) → Option (Aa × Int)) : Nat → ((List Am) × Int) → Option (Aa × Int)
 | 0, _ => none
 | n22 + 1, v22 =>
  AR ((decide (v22.2 < (p0.fc.length : Int))))
   (Ba (fun (v25 : (List Am)) =>
    BJ N p0 p1 j22 n22 (v25, (wI .i64 (v22.2 + 1))))
   fun j25 =>
   (A4 p0.fc v22.2).bind fun v26 =>
   (EG N p1 v26.fg).bind fun v27 =>
   (EG N p1 v26.fj).bind fun v28 =>
   Ba (fun (v29 : Bool) =>
    AR v29
     ((F4 N v26 v27 v28).bind fun v32 =>
     (Ej (v22.1.length + (([v32] : List Am)).length ≤ Dz)).bind fun _ =>
     j25 (v22.1 ++ (([v32] : List Am))))
     (j25 v22.1))
   fun j29 =>
   AR ((decide (0 ≤ v27)))
    (j29 (decide (0 ≤ v28)))
    (j29 false))
   (j22 v22.1)
def DO (N : Nat) (p0 : Aa) (p1 : List Int) : Option (Aa × Int) :=
 (BK N p0).bind fun v1 =>
 AR ((v1 != 0))
  (some ((Aa.mk (([] : List Int)) (([] : List Int)) (([] : List Int)) (([] : List Am))), v1))
  (A1 N p1 (fun (_ : Unit) =>
   C7 N p0 p1 (fun (v10 : (List Int) × (List Int) × (List Int)) =>
    BJ N p0 p1 (fun (v23 : (List Am)) =>
     some ((Aa.mk v10.1 v10.2.1 v10.2.2 v23), 0)) N (([] : List Am), 0)) N (([] : List Int), ([] : List Int), ([] : List Int), 0)) N 1)
def Cx (N : Nat) (p0 : Aa) (j3 : ((List Int) × (List Int)) → Option (Ad × Int)) : Nat → ((List Int) × (List Int) × Int) → Option (Ad × Int)
 | 0, _ => none
 | n3 + 1, v3 =>
  AR ((decide (v3.2.2 < (p0.fb.length : Int))))
   ((A4 p0.fi v3.2.2).bind fun v6 =>
   (Ej (v3.1.length + (([v6] : List Int)).length ≤ Dz)).bind fun _ =>
   (Ej (v3.2.1.length + (([(-1)] : List Int)).length ≤ Dz)).bind fun _ =>
   Cx N p0 j3 n3 (v3.1 ++ (([v6] : List Int)), v3.2.1 ++ (([(-1)] : List Int)), (wI .i64 (v3.2.2 + 1))))
   (j3 (v3.1, v3.2.1))
def Bv (N : Nat) (p0 : Aa) (j9 : ((List Int)) → Option (Ad × Int)) : Nat → ((List Int) × Int) → Option (Ad × Int)
 | 0, _ => none
 | n9 + 1, v9 =>
  AR ((decide (v9.2 < (p0.fc.length : Int))))
   (Ba (fun (v12 : Int) =>
    (Ej (v9.1.length + (([v12] : List Int)).length ≤ Dz)).bind fun _ =>
    Bv N p0 j9 n9 (v9.1 ++ (([v12] : List Int)), (wI .i64 (v9.2 + 1))))
   fun j12 =>
   (A4 p0.fc v9.2).bind fun v13 =>
   (Be N v13).bind fun v14 =>
   AR v14
    ((A4 p0.fc v9.2).bind fun v16 =>
    (A4 p0.fi v16.fg).bind fun v17 =>
    (Ej (0 ≤ v17)).bind fun _ =>
    j12 (CX .u8 1 v17))
    (j12 0))
   (j9 v9.1)
def EC (N : Nat) (p0 : Aa) : Option (Ad × Int) :=
 (BK N p0).bind fun v1 =>
 AR ((v1 != 0))
  (some ((Ad.mk (([] : List Int)) (([] : List Int)) (([] : List Int))), v1))
  (Cx N p0 (fun (v4 : (List Int) × (List Int)) =>
   Bv N p0 (fun (v10 : (List Int)) =>
    some ((Ad.mk v4.1 v4.2 v10), 0)) N (([] : List Int), 0)) N (([] : List Int), ([] : List Int), 0))
def E9 (_ : Nat) (p0 : Ad) : Option Ad :=
 (Ej ((([] : List Int)).length + p0.fd.length ≤ Dz)).bind fun _ =>
 (Ej ((([] : List Int)).length + p0.fa.length ≤ Dz)).bind fun _ =>
 (Ej ((([] : List Int)).length + p0.fe.length ≤ Dz)).bind fun _ =>
 some ((Ad.mk ((([] : List Int)) ++ p0.fd) ((([] : List Int)) ++ p0.fa) ((([] : List Int)) ++ p0.fe)))
def C0 (N : Nat) (p0 : Ad) (j1 : Int → Option ((List Ad))) : Nat → (Int × Int) → Option ((List Ad))
 | 0, _ => none
 | n1 + 1, v1 =>
  AR ((decide (v1.2 < (p0.fa.length : Int))))
   (Ba (fun (v4 : Int) =>
    C0 N p0 j1 n1 (v4, (wI .i64 (v1.2 + 1))))
   fun j4 =>
   (A4 p0.fa v1.2).bind fun v5 =>
   AR ((decide (0 ≤ v5)))
    (j4 (wI .i64 (v1.1 + 1)))
    (j4 v1.1))
   (j1 v1.1)
def Cf (N : Nat) (p0 : Ad) (v7 : (List Ad) × Int) (j12 : ((List Int)) → Option ((List Ad))) : Nat → ((List Int) × Int × Int) → Option ((List Ad))
 | 0, _ => none
 | n12 + 1, v12 =>
  AR ((decide (v12.2.2 < (p0.fa.length : Int))))
   (Ba (fun (v15 : (List Int) × Int) =>
    Cf N p0 v7 j12 n12 (v15.1, v15.2, (wI .i64 (v12.2.2 + 1))))
   fun j15 =>
   (A4 p0.fa v12.2.2).bind fun v16 =>
   AR ((decide (v16 < 0)))
    (j15 (v12.1, v12.2.1))
    (Ba (fun (v18 : (List Int)) =>
     j15 (v18, (wI .i64 (v12.2.1 + 1))))
    fun j18 =>
    (Ej (0 ≤ v12.2.1)).bind fun _ =>
    AR (((zU ((AW .i64 v7.2 v12.2.1)) 2) == 1))
     ((A4 v12.1 v12.2.2).bind fun _ =>
     j18 (v12.1.set ((v12.2.2).toNat) ((-1))))
     (j18 v12.1)))
   (j12 v12.1)
def BI (N : Nat) (p0 : Ad) (v2 : Int) (j7 : ((List Ad)) → Option ((List Ad))) : Nat → ((List Ad) × Int) → Option ((List Ad))
 | 0, _ => none
 | n7 + 1, v7 =>
  (Ej (0 ≤ v2)).bind fun _ =>
  AR ((decide (v7.2 < (CX .i64 1 v2))))
   ((E9 N p0).bind fun v11 =>
   Cf N p0 v7 (fun (v13 : (List Int)) =>
    (Ej (v7.1.length + (([(Ad.mk v11.fd v13 v11.fe)] : List Ad)).length ≤ Dz)).bind fun _ =>
    BI N p0 v2 j7 n7 (v7.1 ++ (([(Ad.mk v11.fd v13 v11.fe)] : List Ad)), (wI .i64 (v7.2 + 1)))) N (v11.fa, 0, 0))
   (j7 v7.1)
def Fe (N : Nat) (p0 : Ad) : Option ((List Ad)) :=
 C0 N p0 (fun (v2 : Int) =>
  BI N p0 v2 (fun (v8 : (List Ad)) =>
   some v8) N (([] : List Ad), 0)) N (0, 0)
def Ce (_ : Nat) (p0 : Ad) (p1 : Int) : Option Int :=
 (A4 p0.fd p1).bind fun v1 =>
 (Ej (0 ≤ v1)).bind fun _ =>
 Ba (fun (v3 : Int) =>
  some v3)
 fun j3 =>
 (A4 p0.fa p1).bind fun v4 =>
 AR ((decide (0 ≤ v4)))
  ((A4 p0.fa p1).bind fun v6 =>
  (Ej (0 ≤ v6)).bind fun _ =>
  j3 (QE .u8 ((CX .u8 1 v1)) ((CX .u8 1 v6))))
  (j3 (CX .u8 1 v1))
def CS (_ : Nat) (p0 : Int) (p1 : Int) : Option Bool :=
 (Ej (0 ≤ p1)).bind fun _ =>
 some (((AM .u8 ((AW .u8 p0 p1)) 1) == 1))
def Bw (N : Nat) (p0 : Aa) (p1 : Ad) (v1 : (List Ap) × Int) (v4 : Am) (v10 : (List Ap) × Int) (j17 : ((List Ap) × Bool) → Option ((List Ap))) : Nat → ((List Ap) × Bool × Int) → Option ((List Ap))
 | 0, _ => none
 | n17 + 1, v17 =>
  (A4 p0.fb v4.fj).bind fun v19 =>
  AR ((decide (v17.2.2 < v19)))
   (Ba (fun (v21 : (List Ap) × Bool) =>
    Bw N p0 p1 v1 v4 v10 j17 n17 (v21.1, v21.2, (wI .i64 (v17.2.2 + 1))))
   fun j21 =>
   (Ce N p1 v4.fj).bind fun v22 =>
   (CS N v22 v17.2.2).bind fun v23 =>
   AR ((!v23))
    (j21 (v17.1, v17.2.1))
    (Ba (fun (v25 : Bool) =>
     Ba (fun (v29 : Bool) =>
      AR v29
       ((Ej (v17.1.length + (([(Ap.mk v1.2 v10.2 v17.2.2)] : List Ap)).length ≤ Dz)).bind fun _ =>
       j21 (v17.1 ++ (([(Ap.mk v1.2 v10.2 v17.2.2)] : List Ap)), v25))
       (j21 (v17.1, v25)))
     fun j29 =>
     AR ((!v4.fr))
      ((A4 v4.fq v10.2).bind fun v31 =>
      (A4 v31 v17.2.2).bind fun v32 =>
      j29 (!v32))
      (j29 false))
    fun j25 =>
    AR v17.2.1
     (j25 true)
     ((A4 v4.fq v10.2).bind fun v27 =>
     (A4 v27 v17.2.2).bind fun v28 =>
     j25 v28)))
   (j17 (v17.1, v17.2.1))
def BN (N : Nat) (p0 : Aa) (p1 : Ad) (v1 : (List Ap) × Int) (v4 : Am) (v6 : Int) (j10 : ((List Ap)) → Option ((List Ap))) : Nat → ((List Ap) × Int) → Option ((List Ap))
 | 0, _ => none
 | n10 + 1, v10 =>
  (A4 p0.fb v4.fg).bind fun v12 =>
  AR ((decide (v10.2 < v12)))
   (Ba (fun (v14 : (List Ap)) =>
    BN N p0 p1 v1 v4 v6 j10 n10 (v14, (wI .i64 (v10.2 + 1))))
   fun j14 =>
   (CS N v6 v10.2).bind fun v15 =>
   AR ((!v15))
    (j14 v10.1)
    (Bw N p0 p1 v1 v4 v10 (fun (v18 : (List Ap) × Bool) =>
     Ba (fun (v35 : Bool) =>
      AR v35
       ((Ej (v18.1.length + (([(Ap.mk v1.2 v10.2 ((-1)))] : List Ap)).length ≤ Dz)).bind fun _ =>
       j14 (v18.1 ++ (([(Ap.mk v1.2 v10.2 ((-1)))] : List Ap))))
       (j14 v18.1))
     fun j35 =>
     AR v4.fr
      (j35 (!v18.2))
      (j35 false)) N (v10.1, false, 0)))
   (j10 v10.1)
def C5 (N : Nat) (p0 : Aa) (p1 : Ad) (j1 : ((List Ap)) → Option ((List Ap))) : Nat → ((List Ap) × Int) → Option ((List Ap))
 | 0, _ => none
 | n1 + 1, v1 =>
  AR ((decide (v1.2 < (p0.fc.length : Int))))
   ((A4 p0.fc v1.2).bind fun v4 =>
   (Ce N p1 v4.fg).bind fun v5 =>
   Ba (fun (v6 : Int) =>
    BN N p0 p1 v1 v4 v6 (fun (v11 : (List Ap)) =>
     C5 N p0 p1 j1 n1 (v11, (wI .i64 (v1.2 + 1)))) N (v1.1, 0))
   fun j6 =>
   (Be N v4).bind fun v7 =>
   AR v7
    ((A4 p1.fe v1.2).bind fun v9 =>
    j6 v9)
    (j6 v5))
   (j1 v1.1)
def Fw (N : Nat) (p0 : Aa) (p1 : Ad) : Option ((List Ap)) :=
 C5 N p0 p1 (fun (v2 : (List Ap)) =>
  some v2) N (([] : List Ap), 0)
def E4 (N : Nat) (p0 : Aa) (p1 : Ad) : Option Bool :=
 (Fw N p0 p1).bind fun v1 =>
 some (((v1.length : Int) == 0))
def Cp (N : Nat) (p0 : Aa) (v1 : (List Ad)) (j2 : Unit → Option Bool) : Nat → Int → Option Bool
 | 0, _ => none
 | n2 + 1, v2 =>
  AR ((decide (v2 < (v1.length : Int))))
   ((A4 v1 v2).bind fun v5 =>
   (E4 N p0 v5).bind fun v6 =>
   AR ((!v6))
    (some false)
    (Cp N p0 v1 j2 n2 (wI .i64 (v2 + 1))))
   (j2 ())
def C9 (N : Nat) (p0 : Aa) (p1 : Ad) : Option Bool :=
 (Fe N p1).bind fun v1 =>
 Cp N p0 v1 (fun (_ : Unit) =>
  some true) N 0
def Cw (N : Nat) (p0 : Aa) (p1 : Ad) (j7 : Unit → Option Int) : Nat → Int → Option Int
 | 0, _ => none
 | n7 + 1, v7 =>
  AR ((decide (v7 < (p0.fb.length : Int))))
   (Ba (fun (v10 : Bool) =>
    AR v10
     (some 7)
     ((A4 p1.fd v7).bind fun v21 =>
     (A4 p1.fa v7).bind fun v22 =>
     AR ((v21 == v22))
      (some 1)
      (Cw N p0 p1 j7 n7 (wI .i64 (v7 + 1)))))
   fun j10 =>
   (A4 p1.fd v7).bind fun v11 =>
   AR ((decide (v11 < 0)))
    (j10 true)
    ((A4 p1.fd v7).bind fun v13 =>
    (A4 p0.fb v7).bind fun v14 =>
    AR ((decide (v14 ≤ v13)))
     (j10 true)
     ((A4 p1.fa v7).bind fun v16 =>
     AR ((decide (v16 < (-1))))
      (j10 true)
      ((A4 p1.fa v7).bind fun v18 =>
      (A4 p0.fb v7).bind fun v19 =>
      j10 (decide (v19 ≤ v18))))))
   (j7 ())
def Cl (N : Nat) (p0 : Aa) (p1 : Ad) (j24 : Unit → Option Int) : Nat → Int → Option Int
 | 0, _ => none
 | n24 + 1, v24 =>
  AR ((decide (v24 < (p0.fc.length : Int))))
   ((A4 p0.fc v24).bind fun v27 =>
   (A4 p0.fb v27.fg).bind fun v28 =>
   (Ej (0 ≤ v28)).bind fun _ =>
   Ba (fun (v30 : Bool) =>
    AR v30
     (some 1)
     (Cl N p0 p1 j24 n24 (wI .i64 (v24 + 1))))
   fun j30 =>
   (Be N v27).bind fun v31 =>
   AR ((!v31))
    ((A4 p1.fe v24).bind fun v33 =>
    AR ((v33 != 0))
     (j30 true)
     ((Be N v27).bind fun v35 =>
     AR v35
      ((A4 p1.fe v24).bind fun v37 =>
      AR (((Dy .u8 v37 ((wI .u8 ((CX .u8 1 v28) - 1)))) != 0))
       (j30 true)
       ((Ce N p1 v27.fg).bind fun v39 =>
       (A4 p1.fe v24).bind fun v40 =>
       j30 ((Dy .u8 v39 v40) != 0)))
      (j30 false)))
    ((Be N v27).bind fun v41 =>
    AR v41
     ((A4 p1.fe v24).bind fun v43 =>
     AR (((Dy .u8 v43 ((wI .u8 ((CX .u8 1 v28) - 1)))) != 0))
      (j30 true)
      ((Ce N p1 v27.fg).bind fun v45 =>
      (A4 p1.fe v24).bind fun v46 =>
      j30 ((Dy .u8 v45 v46) != 0)))
     (j30 false)))
   (j24 ())
def DW (N : Nat) (p0 : Aa) (p1 : Ad) : Option Int :=
 (BK N p0).bind fun v1 =>
 AR ((v1 != 0))
  (some v1)
  (Ba (fun (v3 : Bool) =>
   AR v3
    (some 6)
    (Cw N p0 p1 (fun (_ : Unit) =>
     Cl N p0 p1 (fun (_ : Unit) =>
      some 0) N 0) N 0))
  fun j3 =>
  AR (((p1.fd.length : Int) != (p0.fb.length : Int)))
   (j3 true)
   (AR (((p1.fa.length : Int) != (p0.fb.length : Int)))
    (j3 true)
    (j3 ((p1.fe.length : Int) != (p0.fc.length : Int)))))
def Fr (_ : Nat) (p0 : Ae) : Option Bool :=
 Ba (fun (v1 : Bool) =>
  some v1)
 fun j1 =>
 AR ((decide (1 ≤ p0.ff)))
  (AR ((decide (p0.ff ≤ 4)))
   (AR ((decide (0 ≤ p0.fh)))
    (AR ((decide (0 ≤ p0.fo)))
     (AR ((p0.ff == 1))
      (j1 true)
      (j1 (p0.fo == 0)))
     (j1 false))
    (j1 false))
   (j1 false))
  (j1 false)
def Cj (N : Nat) (p0 : Aa) (p2 : Ae) (j12 : ((List Int)) → Option (Ad × Bool)) : Nat → ((List Int) × Int) → Option (Ad × Bool)
 | 0, _ => none
 | n12 + 1, v12 =>
  AR ((decide (v12.2 < (p0.fc.length : Int))))
   (Ba (fun (v15 : (List Int)) =>
    Cj N p0 p2 j12 n12 (v15, (wI .i64 (v12.2 + 1))))
   fun j15 =>
   Ba (fun (v16 : Bool) =>
    AR v16
     ((A4 v12.1 v12.2).bind fun v22 =>
     (Ej (0 ≤ p2.fo)).bind fun _ =>
     (A4 v12.1 v12.2).bind fun _ =>
     j15 (v12.1.set ((v12.2).toNat) ((QE .u8 v22 ((CX .u8 1 p2.fo))))))
     (j15 v12.1))
   fun j16 =>
   (A4 p0.fc v12.2).bind fun v17 =>
   AR ((v17.fg == p2.fh))
    ((A4 p0.fc v12.2).bind fun v19 =>
    (Be N v19).bind fun v20 =>
    j16 v20)
    (j16 false))
   (j12 v12.1)
def BQ (N : Nat) (p0 : Aa) (p1 : Ad) (p2 : Ae) (v32 : Am) (v35 : Int) (j38 : Unit → Option (Ad × Bool)) : Nat → Int → Option (Ad × Bool)
 | 0, _ => none
 | n38 + 1, v38 =>
  (A4 p0.fb v32.fg).bind fun v40 =>
  AR ((decide (v38 < v40)))
   (Ba (fun (v42 : Bool) =>
    Ba (fun (v47 : Bool) =>
     AR v47
      (some ((Ad.mk (([] : List Int)) (([] : List Int)) (([] : List Int))), false))
      (BQ N p0 p1 p2 v32 v35 j38 n38 (wI .i64 (v38 + 1))))
    fun j47 =>
    AR v42
     (AR ((v32.ff == 4))
      ((A4 v32.fk v38).bind fun v50 =>
      (A4 p1.fd v32.fg).bind fun v51 =>
      (A4 v50 v51).bind fun v52 =>
      j47 (!v52))
      (j47 false))
     (j47 false))
   fun j42 =>
   (A4 p1.fe p2.fh).bind fun v43 =>
   (CS N v43 v38).bind fun v44 =>
   AR v44
    ((CS N v35 v38).bind fun v46 =>
    j42 (!v46))
    (j42 false))
   (j38 ())
def Dj (N : Nat) (p0 : Aa) (p1 : Ad) (p2 : Ae) : Option (Ad × Bool) :=
 (Ej ((([] : List Int)).length + p1.fd.length ≤ Dz)).bind fun _ =>
 (Ej ((([] : List Int)).length + p1.fa.length ≤ Dz)).bind fun _ =>
 (Ej ((([] : List Int)).length + p1.fe.length ≤ Dz)).bind fun _ =>
 Ba (fun (v4 : (List Int) × (List Int) × (List Int)) =>
  some ((Ad.mk v4.1 v4.2.1 v4.2.2), true))
 fun j4 =>
 AR ((p2.ff == 1))
  (Ba (fun (v6 : Bool) =>
   AR v6
    (some ((Ad.mk (([] : List Int)) (([] : List Int)) (([] : List Int))), false))
    ((A4 ((([] : List Int)) ++ p1.fa) p2.fh).bind fun _ =>
    Cj N p0 p2 (fun (v13 : (List Int)) =>
     j4 ((([] : List Int)) ++ p1.fd, ((([] : List Int)) ++ p1.fa).set ((p2.fh).toNat) p2.fo, v13)) N ((([] : List Int)) ++ p1.fe, 0)))
  fun j6 =>
  (A4 p1.fa p2.fh).bind fun v7 =>
  AR ((decide (0 ≤ v7)))
   (j6 true)
   ((A4 p1.fd p2.fh).bind fun v9 =>
   j6 (p2.fo == v9)))
  (AR ((p2.ff == 2))
   ((A4 p1.fa p2.fh).bind fun v26 =>
   AR ((decide (v26 < 0)))
    (some ((Ad.mk (([] : List Int)) (([] : List Int)) (([] : List Int))), false))
    ((A4 p1.fa p2.fh).bind fun v28 =>
    (A4 ((([] : List Int)) ++ p1.fd) p2.fh).bind fun _ =>
    (A4 ((([] : List Int)) ++ p1.fa) p2.fh).bind fun _ =>
    j4 (((([] : List Int)) ++ p1.fd).set ((p2.fh).toNat) v28, ((([] : List Int)) ++ p1.fa).set ((p2.fh).toNat) ((-1)), (([] : List Int)) ++ p1.fe)))
   (AR ((p2.ff == 3))
    ((A4 p0.fc p2.fh).bind fun v32 =>
    (Be N v32).bind fun v33 =>
    AR ((!v33))
     (some ((Ad.mk (([] : List Int)) (([] : List Int)) (([] : List Int))), false))
     ((Ce N p1 v32.fg).bind fun v35 =>
     (A4 p1.fe p2.fh).bind fun v36 =>
     AR ((v36 == v35))
      (some ((Ad.mk (([] : List Int)) (([] : List Int)) (([] : List Int))), false))
      (BQ N p0 p1 p2 v32 v35 (fun (_ : Unit) =>
       (A4 ((([] : List Int)) ++ p1.fe) p2.fh).bind fun _ =>
       j4 ((([] : List Int)) ++ p1.fd, (([] : List Int)) ++ p1.fa, ((([] : List Int)) ++ p1.fe).set ((p2.fh).toNat) v35)) N 0)))
    ((A4 p1.fa p2.fh).bind fun v55 =>
    AR ((decide (v55 < 0)))
     (some ((Ad.mk (([] : List Int)) (([] : List Int)) (([] : List Int))), false))
     ((A4 ((([] : List Int)) ++ p1.fa) p2.fh).bind fun _ =>
     j4 ((([] : List Int)) ++ p1.fd, ((([] : List Int)) ++ p1.fa).set ((p2.fh).toNat) ((-1)), (([] : List Int)) ++ p1.fe)))))
def Fn (N : Nat) (p0 : Aa) (p1 : Ad) (p2 : Ae) : Option (Ad × Int) :=
 (DW N p0 p1).bind fun v1 =>
 AR ((v1 != 0))
  (some ((Ad.mk (([] : List Int)) (([] : List Int)) (([] : List Int))), v1))
  ((Fr N p2).bind fun v3 =>
  AR ((!v3))
   (some ((Ad.mk (([] : List Int)) (([] : List Int)) (([] : List Int))), 1))
   (Ba (fun (v5 : Bool) =>
    AR v5
     (some ((Ad.mk (([] : List Int)) (([] : List Int)) (([] : List Int))), 4))
     (Ba (fun (v11 : Bool) =>
      AR v11
       (some ((Ad.mk (([] : List Int)) (([] : List Int)) (([] : List Int))), 4))
       ((Dj N p0 p1 p2).bind fun v15 =>
       AR ((!v15.2))
        (some ((Ad.mk (([] : List Int)) (([] : List Int)) (([] : List Int))), 11))
        (some (v15.1, 0))))
     fun j11 =>
     AR ((p2.ff == 1))
      ((A4 p0.fb p2.fh).bind fun v13 =>
      j11 (decide (v13 ≤ p2.fo)))
      (j11 false)))
   fun j5 =>
   AR ((p2.ff == 3))
    (AR ((decide ((p0.fc.length : Int) ≤ p2.fh)))
     (j5 true)
     (AR ((p2.ff != 3))
      (j5 (decide ((p0.fb.length : Int) ≤ p2.fh)))
      (j5 false)))
    (AR ((p2.ff != 3))
     (j5 (decide ((p0.fb.length : Int) ≤ p2.fh)))
     (j5 false))))
def Cu (N : Nat) (p0 : Aa) (p1 : Ad) (v1 : (List Ae) × Int) (v4 : (List Ae) × Int) (j7 : ((List Ae)) → Option ((List Ae))) : Nat → ((List Ae) × Int) → Option ((List Ae))
 | 0, _ => none
 | n7 + 1, v7 =>
  AR ((decide (v7.2 < 6)))
   (Ba (fun (v10 : (List Ae)) =>
    Cu N p0 p1 v1 v4 j7 n7 (v10, (wI .i64 (v7.2 + 1))))
   fun j10 =>
   (Fn N p0 p1 ((Ae.mk v1.2 v4.2 v7.2))).bind fun v11 =>
   AR ((v11.2 == 0))
    ((Ej (v7.1.length + (([(Ae.mk v1.2 v4.2 v7.2)] : List Ae)).length ≤ Dz)).bind fun _ =>
    j10 (v7.1 ++ (([(Ae.mk v1.2 v4.2 v7.2)] : List Ae))))
    (j10 v7.1))
   (j7 v7.1)
def Cv (N : Nat) (p0 : Aa) (p1 : Ad) (v1 : (List Ae) × Int) (j4 : ((List Ae)) → Option ((List Ae))) : Nat → ((List Ae) × Int) → Option ((List Ae))
 | 0, _ => none
 | n4 + 1, v4 =>
  AR ((decide (v4.2 < (VT ((p0.fb.length : Int)) ((p0.fc.length : Int))))))
   (Cu N p0 p1 v1 v4 (fun (v8 : (List Ae)) =>
    Cv N p0 p1 v1 j4 n4 (v8, (wI .i64 (v4.2 + 1)))) N (v4.1, 0))
   (j4 v4.1)
def BF (N : Nat) (p0 : Aa) (p1 : Ad) (j1 : ((List Ae)) → Option ((List Ae))) : Nat → ((List Ae) × Int) → Option ((List Ae))
 | 0, _ => none
 | n1 + 1, v1 =>
  AR ((decide (v1.2 ≤ 3)))
   (Cv N p0 p1 v1 (fun (v5 : (List Ae)) =>
    BF N p0 p1 j1 n1 (v5, (wI .i64 (v1.2 + 1)))) N (v1.1, 0))
   (j1 v1.1)
def Fz (N : Nat) (p0 : Aa) (p1 : Ad) : Option ((List Ae)) :=
 BF N p0 p1 (fun (v2 : (List Ae)) =>
  some v2) N (([] : List Ae), 1)
def D3 (N : Nat) (p0 : List Int) (p1 : List Int) (j1 : Unit → Option Int) : Nat → Int → Option Int
 | 0, _ => none
 | n1 + 1, v1 =>
  Ba (fun (v3 : Bool) =>
   AR v3
    ((A4 p0 v1).bind fun v6 =>
    (A4 p1 v1).bind fun v7 =>
    AR ((decide (v6 < v7)))
     (some ((-1)))
     ((A4 p0 v1).bind fun v9 =>
     (A4 p1 v1).bind fun v10 =>
     AR ((decide (v10 < v9)))
      (some 1)
      (D3 N p0 p1 j1 n1 (wI .i64 (v1 + 1)))))
    (j1 ()))
  fun j3 =>
  AR ((decide (v1 < (p0.length : Int))))
   (j3 (decide (v1 < (p1.length : Int))))
   (j3 false)
def D9 (N : Nat) (p0 : List Int) (p1 : List Int) : Option Int :=
 D3 N p0 p1 (fun (_ : Unit) =>
  AR ((decide ((p0.length : Int) < (p1.length : Int))))
   (some ((-1)))
   (AR ((decide ((p1.length : Int) < (p0.length : Int))))
    (some 1)
    (some 0))) N 0
def Dm (N : Nat) (p0 : List Int) (j1 : ((List Int)) → Option ((List Int))) : Nat → ((List Int) × Int) → Option ((List Int))
 | 0, _ => none
 | n1 + 1, v1 =>
  AR ((decide (v1.2 < (p0.length : Int))))
   ((A4 p0 v1.2).bind fun v4 =>
   (Ej (v1.1.length + (([(wI .i64 v4)] : List Int)).length ≤ Dz)).bind fun _ =>
   Dm N p0 j1 n1 (v1.1 ++ (([(wI .i64 v4)] : List Int)), (wI .i64 (v1.2 + 1))))
   (j1 v1.1)
def D2 (N : Nat) (p0 : List Int) : Option ((List Int)) :=
 Dm N p0 (fun (v2 : (List Int)) =>
  some v2) N (([] : List Int), 0)
def ER (N : Nat) (p0 : Ad) (p1 : Ad) : Option Int :=
 (D9 N p0.fd p1.fd).bind fun v1 =>
 AR ((v1 != 0))
  (some v1)
  ((D9 N p0.fa p1.fa).bind fun v3 =>
  AR ((v3 != 0))
   (some v3)
   ((D2 N p0.fe).bind fun v5 =>
   (D2 N p1.fe).bind fun v6 =>
   (D9 N v5 v6).bind fun v7 =>
   some v7))
def Fx (N : Nat) (p0 : Ad) (p1 : Ad) : Option Bool :=
 (ER N p0 p1).bind fun v1 =>
 some ((v1 == 0))
def CC (N : Nat) (p0 : List AE) (p1 : Ad) (j1 : Unit → Option Int) : Nat → Int → Option Int
 | 0, _ => none
 | n1 + 1, v1 =>
  AR ((decide (v1 < (p0.length : Int))))
   ((A4 p0 v1).bind fun v4 =>
   (Fx N ((Ad.mk v4.fu.fd v4.fu.fa v4.fu.fe)) p1).bind fun v5 =>
   AR v5
    (some v1)
    (CC N p0 p1 j1 n1 (wI .i64 (v1 + 1))))
   (j1 ())
def EV (N : Nat) (p0 : List AE) (p1 : Ad) : Option Int :=
 CC N p0 p1 (fun (_ : Unit) =>
  some ((-1))) N 0
def B1 (N : Nat) (p0 : Aa) (p2 : Int) (v1 : (List AE) × Int) (v5 : (List Ae)) (j6 : ((List AE)) → Option ((List AE) × Bool)) : Nat → ((List AE) × Int) → Option ((List AE) × Bool)
 | 0, _ => none
 | n6 + 1, v6 =>
  AR ((decide (v6.2 < (v5.length : Int))))
   ((A4 v6.1 v1.2).bind fun v9 =>
   (A4 v5 v6.2).bind fun v10 =>
   (Dj N p0 ((Ad.mk v9.fu.fd v9.fu.fa v9.fu.fe)) v10).bind fun v11 =>
   Ba (fun (v12 : (List AE)) =>
    AR ((decide (p2 < (v12.length : Int))))
     (some (([] : List AE), false))
     (B1 N p0 p2 v1 v5 j6 n6 (v12, (wI .i64 (v6.2 + 1)))))
   fun j12 =>
   Ba (fun (v13 : Bool) =>
    AR v13
     ((A4 v5 v6.2).bind fun v18 =>
     (Ej (v6.1.length + (([(AE.mk v11.1 v1.2 v18)] : List AE)).length ≤ Dz)).bind fun _ =>
     j12 (v6.1 ++ (([(AE.mk v11.1 v1.2 v18)] : List AE))))
     (j12 v6.1))
   fun j13 =>
   (C9 N p0 v11.1).bind fun v14 =>
   AR v14
    ((EV N v6.1 v11.1).bind fun v16 =>
    j13 (decide (v16 < 0)))
    (j13 false))
   (j6 v6.1)
def BZ (N : Nat) (p0 : Aa) (p2 : Int) (j1 : ((List AE)) → Option ((List AE) × Bool)) : Nat → ((List AE) × Int) → Option ((List AE) × Bool)
 | 0, _ => none
 | n1 + 1, v1 =>
  AR ((decide (v1.2 < (v1.1.length : Int))))
   ((A4 v1.1 v1.2).bind fun v4 =>
   (Fz N p0 ((Ad.mk v4.fu.fd v4.fu.fa v4.fu.fe))).bind fun v5 =>
   B1 N p0 p2 v1 v5 (fun (v7 : (List AE)) =>
    BZ N p0 p2 j1 n1 (v7, (wI .i64 (v1.2 + 1)))) N (v1.1, 0))
   (j1 v1.1)
def Di (N : Nat) (p0 : Aa) (p1 : Ad) (p2 : Int) : Option ((List AE) × Bool) :=
 BZ N p0 p2 (fun (v2 : (List AE)) =>
  some (v2, true)) N (([(AE.mk p1 ((-1)) ((Ae.mk 0 0 0)))] : List AE), 0)
def Fo (N : Nat) (p0 : Aa) (p1 : Int) : Option Bool :=
 (EC N p0).bind fun v1 =>
 Ba (fun (v2 : Bool) =>
  AR v2
   (some true)
   ((Di N p0 v1.1 p1).bind fun v6 =>
   some v6.2))
 fun j2 =>
 AR ((v1.2 != 0))
  (j2 true)
  ((C9 N p0 v1.1).bind fun v4 =>
  j2 (!v4))
def C4 (N : Nat) (p0 : Aa) (v4 : (List (List Int))) (j5 : Unit → Option Bool) : Nat → Int → Option Bool
 | 0, _ => none
 | n5 + 1, v5 =>
  AR ((decide (v5 < (v4.length : Int))))
   ((A4 v4 v5).bind fun v8 =>
   (DO N p0 v8).bind fun v9 =>
   Ba (fun (v10 : Bool) =>
    AR v10
     (some false)
     (C4 N p0 v4 j5 n5 (wI .i64 (v5 + 1))))
   fun j10 =>
   AR ((v9.2 != 0))
    (j10 true)
    ((Fo N v9.1 120).bind fun v12 =>
    j10 (!v12)))
   (j5 ())
def Gu (N : Nat) (p0 : Aa) : Option Bool :=
 (BK N p0).bind fun v1 =>
 AR ((v1 != 0))
  (some true)
  (AR ((decide (3 < (p0.fb.length : Int))))
   (some false)
   ((DE N ((p0.fb.length : Int))).bind fun v4 =>
   C4 N p0 v4 (fun (_ : Unit) =>
    some true) N 0))
def Gv (N : Nat) (p0 : BL) : Option (Aa × Bool) :=
 (Gn N p0).bind fun v1 =>
 Ba (fun (v2 : Bool) =>
  some (v1.1, v2))
 fun j2 =>
 AR v1.2
  ((Gu N v1.1).bind fun v4 =>
  j2 v4)
  (j2 false)
def Fl (_ : Nat) : Option ((List (List Bool))) :=
 some (([([true, false] : List Bool), ([false, true] : List Bool)] : List (List Bool)))
def ES (N : Nat) (p0 : Bool) : Option Aa :=
 (Fl N).bind fun v1 =>
 (Fl N).bind fun v2 =>
 some ((Aa.mk (([2, 2, 2] : List Int)) (([0, 0, 0] : List Int)) (([1, 1, 1] : List Int)) (([(Am.mk 1 0 1 p0 v1 (([] : List (List Bool)))), (Am.mk 1 1 0 p0 v2 (([] : List (List Bool))))] : List Am))))
def DY (_ : Nat) (p0 : Int) (p1 : Int) : Option Bool :=
 Ba (fun (v1 : Bool) =>
  some v1)
 fun j1 =>
 AR ((decide (0 ≤ p0)))
  (j1 (decide (p0 < p1)))
  (j1 false)
def H8 (_ : Nat) (p0 : Int) (p1 : Bool) : Option Bool :=
 Ba (fun (v1 : Bool) =>
  some v1)
 fun j1 =>
 AR ((p0 == 1))
  (j1 true)
  (AR ((p0 == 2))
   (j1 true)
   (AR ((p0 == 3))
    (j1 (!p1))
    (AR ((p0 == 4))
     (j1 (!p1))
     (j1 false))))
def EU (_ : Nat) (p0 : List Bool) (p1 : Int) : Option Bool :=
 some (((p0.length : Int) != p1))
def By (N : Nat) (p0 : List (List Bool)) (p1 : (List Bool) → Option Bool) (j1 : Unit → Option Int) : Nat → Int → Option Int
 | 0, _ => none
 | n1 + 1, v1 =>
  AR ((decide (v1 < (p0.length : Int))))
   ((A4 p0 v1).bind fun v4 =>
   (p1 v4).bind fun v5 =>
   AR v5
    (some v1)
    (By N p0 p1 j1 n1 (wI .i64 (v1 + 1))))
   (j1 ())
def Ef (N : Nat) (p0 : List (List Bool)) (p1 : (List Bool) → Option Bool) : Option Int :=
 By N p0 p1 (fun (_ : Unit) =>
  some ((-1))) N 0
def DL (N : Nat) (p0 : List (List Bool)) (p1 : (List Bool) → Option Bool) : Option Bool :=
 (Ef N p0 p1).bind fun v1 =>
 some ((decide (0 ≤ v1)))
def Gk (N : Nat) (p0 : List (List Bool)) (p1 : Int) (p2 : Int) : Option Bool :=
 Ba (fun (v1 : Bool) =>
  some v1)
 fun j1 =>
 AR (((p0.length : Int) == p1))
  ((DL N p0 ((fun (x : List Bool) => EU N x p2))).bind fun v3 =>
  j1 (!v3))
  (j1 false)
def DV (N : Nat) (p1 : Am) (j19 : Unit → Option Int) : Nat → Int → Option Int
 | 0, _ => none
 | n19 + 1, v19 =>
  AR ((decide (v19 < (p1.fk.length : Int))))
   ((A4 p1.fk v19).bind fun v22 =>
   (A4 v22 v19).bind fun v23 =>
   AR ((!v23))
    (some 1)
    (DV N p1 j19 n19 (wI .i64 (v19 + 1))))
   (j19 ())
def HI (N : Nat) (p0 : Aa) (p1 : Am) : Option Int :=
 (H8 N p1.ff p1.fr).bind fun v1 =>
 AR ((!v1))
  (some 1)
  (Ba (fun (v3 : Bool) =>
   AR v3
    (some 4)
    ((A4 p0.fb p1.fg).bind fun v8 =>
    Ba (fun (v9 : Bool) =>
     AR v9
      (some 6)
      (DV N p1 (fun (_ : Unit) =>
       some 0) N 0))
    fun j9 =>
    (A4 p0.fb p1.fj).bind fun v10 =>
    (Gk N p1.fq v8 v10).bind fun v11 =>
    AR ((!v11))
     (j9 true)
     (AR ((p1.ff == 4))
      ((Gk N p1.fk v8 v8).bind fun v14 =>
      AR ((!v14))
       (j9 true)
       (AR ((!((p1.ff == 4))))
        (j9 (decide (0 < (p1.fk.length : Int))))
        (j9 false)))
      (AR ((!((p1.ff == 4))))
       (j9 (decide (0 < (p1.fk.length : Int))))
       (j9 false)))))
  fun j3 =>
  (DY N p1.fg ((p0.fb.length : Int))).bind fun v4 =>
  AR ((!v4))
   (j3 true)
   ((DY N p1.fj ((p0.fb.length : Int))).bind fun v6 =>
   j3 (!v6)))
def Ch (N : Nat) (p0 : Aa) (j7 : Unit → Option Int) : Nat → Int → Option Int
 | 0, _ => none
 | n7 + 1, v7 =>
  AR ((decide (v7 < (p0.fb.length : Int))))
   ((A4 p0.fb v7).bind fun v10 =>
   Ba (fun (v11 : Bool) =>
    AR v11
     (some 7)
     (Ch N p0 j7 n7 (wI .i64 (v7 + 1))))
   fun j11 =>
   AR ((decide (v10 < 1)))
    (j11 true)
    (AR ((decide (6 < v10)))
     (j11 true)
     ((A4 p0.fi v7).bind fun v14 =>
     (DY N v14 v10).bind fun v15 =>
     AR ((!v15))
      (j11 true)
      ((A4 p0.fm v7).bind fun v17 =>
      (DY N v17 v10).bind fun v18 =>
      j11 (!v18)))))
   (j7 ())
def B7 (N : Nat) (p0 : Aa) (j20 : Unit → Option Int) : Nat → Int → Option Int
 | 0, _ => none
 | n20 + 1, v20 =>
  AR ((decide (v20 < (p0.fc.length : Int))))
   ((A4 p0.fc v20).bind fun v23 =>
   (HI N p0 v23).bind fun v24 =>
   AR ((v24 != 0))
    (some v24)
    (B7 N p0 j20 n20 (wI .i64 (v20 + 1))))
   (j20 ())
def Cq (N : Nat) (p0 : Aa) : Option Int :=
 Ba (fun (v1 : Bool) =>
  AR v1
   (some 3)
   (Ba (fun (v4 : Bool) =>
    AR v4
     (some 6)
     (Ch N p0 (fun (_ : Unit) =>
      B7 N p0 (fun (_ : Unit) =>
       some 0) N 0) N 0))
   fun j4 =>
   AR (((p0.fi.length : Int) != (p0.fb.length : Int)))
    (j4 true)
    (j4 ((p0.fm.length : Int) != (p0.fb.length : Int)))))
 fun j1 =>
 AR ((decide (6 < (p0.fb.length : Int))))
  (j1 true)
  (j1 (decide (12 < (p0.fc.length : Int))))
def IA (_ : Nat) (p0 : Int) : Option Int :=
 Ba (fun (v1 : Int × Int) =>
  Ba (fun (v3 : Int × Int) =>
   (QM ((⟨⟨(yM (yM [0, 1, 2, 2, 3, 3, 3, 3, 4, 4, 4, 4, 4, 4, 4, 4, 5, 5, 5, 5, 5, 5, 5, 5, 5, 5, 5, 5, 5, 5, 5, 5, 6, 6, 6, 6, 6, 6, 6, 6, 6, 6, 6, 6, 6, 6, 6, 6, 6, 6, 6, 6, 6, 6, 6, 6, 6, 6, 6, 6, 6, 6, 6, 6] [7, 7, 7, 7, 7, 7, 7, 7, 7, 7, 7, 7, 7, 7, 7, 7, 7, 7, 7, 7, 7, 7, 7, 7, 7, 7, 7, 7, 7, 7, 7, 7, 7, 7, 7, 7, 7, 7, 7, 7, 7, 7, 7, 7, 7, 7, 7, 7, 7, 7, 7, 7, 7, 7, 7, 7, 7, 7, 7, 7, 7, 7, 7, 7]) (yM [8, 8, 8, 8, 8, 8, 8, 8, 8, 8, 8, 8, 8, 8, 8, 8, 8, 8, 8, 8, 8, 8, 8, 8, 8, 8, 8, 8, 8, 8, 8, 8, 8, 8, 8, 8, 8, 8, 8, 8, 8, 8, 8, 8, 8, 8, 8, 8, 8, 8, 8, 8, 8, 8, 8, 8, 8, 8, 8, 8, 8, 8, 8, 8] [8, 8, 8, 8, 8, 8, 8, 8, 8, 8, 8, 8, 8, 8, 8, 8, 8, 8, 8, 8, 8, 8, 8, 8, 8, 8, 8, 8, 8, 8, 8, 8, 8, 8, 8, 8, 8, 8, 8, 8, 8, 8, 8, 8, 8, 8, 8, 8, 8, 8, 8, 8, 8, 8, 8, 8, 8, 8, 8, 8, 8, 8, 8, 8]))⟩⟩ : ByteArray)) ((wI .u8 v3.1))).bind fun v5 =>
   some ((wI .i64 (v3.2 + (wI .i64 v5)))))
  fun j3 =>
  AR ((decide (256 ≤ v1.1)))
   (j3 ((AW .u32 v1.1 8), (wI .i64 (v1.2 + 8))))
   (j3 (v1.1, v1.2)))
 fun j1 =>
 AR ((decide (65536 ≤ p0)))
  (j1 ((AW .u32 p0 16), 16))
  (j1 (p0, 0))
def Ix (_ : Nat) (p0 : Int) : Option Int :=
 Ba (fun (v1 : Int × Int) =>
  Ba (fun (v3 : Int × Int) =>
   Ba (fun (v5 : Int × Int) =>
    (QM ((⟨⟨(yM (yM [0, 1, 2, 2, 3, 3, 3, 3, 4, 4, 4, 4, 4, 4, 4, 4, 5, 5, 5, 5, 5, 5, 5, 5, 5, 5, 5, 5, 5, 5, 5, 5, 6, 6, 6, 6, 6, 6, 6, 6, 6, 6, 6, 6, 6, 6, 6, 6, 6, 6, 6, 6, 6, 6, 6, 6, 6, 6, 6, 6, 6, 6, 6, 6] [7, 7, 7, 7, 7, 7, 7, 7, 7, 7, 7, 7, 7, 7, 7, 7, 7, 7, 7, 7, 7, 7, 7, 7, 7, 7, 7, 7, 7, 7, 7, 7, 7, 7, 7, 7, 7, 7, 7, 7, 7, 7, 7, 7, 7, 7, 7, 7, 7, 7, 7, 7, 7, 7, 7, 7, 7, 7, 7, 7, 7, 7, 7, 7]) (yM [8, 8, 8, 8, 8, 8, 8, 8, 8, 8, 8, 8, 8, 8, 8, 8, 8, 8, 8, 8, 8, 8, 8, 8, 8, 8, 8, 8, 8, 8, 8, 8, 8, 8, 8, 8, 8, 8, 8, 8, 8, 8, 8, 8, 8, 8, 8, 8, 8, 8, 8, 8, 8, 8, 8, 8, 8, 8, 8, 8, 8, 8, 8, 8] [8, 8, 8, 8, 8, 8, 8, 8, 8, 8, 8, 8, 8, 8, 8, 8, 8, 8, 8, 8, 8, 8, 8, 8, 8, 8, 8, 8, 8, 8, 8, 8, 8, 8, 8, 8, 8, 8, 8, 8, 8, 8, 8, 8, 8, 8, 8, 8, 8, 8, 8, 8, 8, 8, 8, 8, 8, 8, 8, 8, 8, 8, 8, 8]))⟩⟩ : ByteArray)) ((wI .u8 v5.1))).bind fun v7 =>
    some ((wI .i64 (v5.2 + (wI .i64 v7)))))
   fun j5 =>
   AR ((decide (256 ≤ v3.1)))
    (j5 ((AW .u64 v3.1 8), (wI .i64 (v3.2 + 8))))
    (j5 (v3.1, v3.2)))
  fun j3 =>
  AR ((decide (65536 ≤ v1.1)))
   (j3 ((AW .u64 v1.1 16), (wI .i64 (v1.2 + 16))))
   (j3 (v1.1, v1.2)))
 fun j1 =>
 AR ((decide (4294967296 ≤ p0)))
  (j1 ((AW .u64 p0 32), 32))
  (j1 (p0, 0))
def HR (N : Nat) (p0 : Int) : Option Int :=
 AR false
  ((IA N ((wI .u32 p0))).bind fun v2 =>
  some v2)
  ((Ix N p0).bind fun v3 =>
  some v3)
def CL (N : Nat) (p1 : Int) (p3 : (Int × Int) → Option Int) (j4 : ((List Int)) → Option ((List Int))) : Nat → ((List Int) × Int) → Option ((List Int))
 | 0, _ => none
 | n4 + 1, v4 =>
  Ba (fun (v6 : Bool) =>
   AR v6
    ((A4 v4.1 ((wI .i64 (v4.2 - 1)))).bind fun v12 =>
    (A4 v4.1 v4.2).bind fun v13 =>
    (A4 v4.1 v4.2).bind fun _ =>
    (A4 (v4.1.set ((v4.2).toNat) v12) ((wI .i64 (v4.2 - 1)))).bind fun _ =>
    CL N p1 p3 j4 n4 ((v4.1.set ((v4.2).toNat) v12).set (((wI .i64 (v4.2 - 1))).toNat) v13, (wI .i64 (v4.2 - 1))))
    (j4 v4.1))
  fun j6 =>
  AR ((decide (p1 < v4.2)))
   ((A4 v4.1 v4.2).bind fun v8 =>
   (A4 v4.1 ((wI .i64 (v4.2 - 1)))).bind fun v9 =>
   (p3 ((v8, v9))).bind fun v10 =>
   j6 (decide (v10 < 0)))
   (j6 false)
def CF (N : Nat) (p1 : Int) (p2 : Int) (p3 : (Int × Int) → Option Int) (j1 : ((List Int)) → Option ((List Int))) : Nat → ((List Int) × Int) → Option ((List Int))
 | 0, _ => none
 | n1 + 1, v1 =>
  AR ((decide (v1.2 < p2)))
   (CL N p1 p3 (fun (v5 : (List Int)) =>
    CF N p1 p2 p3 j1 n1 (v5, (wI .i64 (v1.2 + 1)))) N (v1.1, v1.2))
   (j1 v1.1)
def Eu (N : Nat) (p0 : List Int) (p1 : Int) (p2 : Int) (p3 : (Int × Int) → Option Int) : Option ((List Int)) :=
 CF N p1 p2 p3 (fun (v2 : (List Int)) =>
  some v2) N (p0, (wI .i64 (p1 + 1)))
def DB (N : Nat) (p2 : Int) (p3 : Int) (p4 : (Int × Int) → Option Int) (j1 : ((List Int)) → Option ((List Int))) : Nat → ((List Int) × Int) → Option ((List Int))
 | 0, _ => none
 | n1 + 1, v1 =>
  AR ((decide (p2 ≤ (wI .i64 ((wI .i64 (2 * v1.2)) + 1)))))
   (j1 v1.1)
   (Ba (fun (v4 : Int) =>
    (A4 v1.1 ((wI .i64 (p3 + v1.2)))).bind fun v11 =>
    (A4 v1.1 ((wI .i64 (p3 + v4)))).bind fun v12 =>
    (p4 ((v11, v12))).bind fun v13 =>
    AR ((!((decide (v13 < 0)))))
     (some v1.1)
     ((A4 v1.1 ((wI .i64 (p3 + v4)))).bind fun v15 =>
     (A4 v1.1 ((wI .i64 (p3 + v1.2)))).bind fun v16 =>
     (A4 v1.1 ((wI .i64 (p3 + v1.2)))).bind fun _ =>
     (A4 (v1.1.set (((wI .i64 (p3 + v1.2))).toNat) v15) ((wI .i64 (p3 + v4)))).bind fun _ =>
     DB N p2 p3 p4 j1 n1 ((v1.1.set (((wI .i64 (p3 + v1.2))).toNat) v15).set (((wI .i64 (p3 + v4))).toNat) v16, v4)))
   fun j4 =>
   Ba (fun (v5 : Bool) =>
    AR v5
     (j4 (wI .i64 ((wI .i64 ((wI .i64 (2 * v1.2)) + 1)) + 1)))
     (j4 (wI .i64 ((wI .i64 (2 * v1.2)) + 1))))
   fun j5 =>
   AR ((decide ((wI .i64 ((wI .i64 ((wI .i64 (2 * v1.2)) + 1)) + 1)) < p2)))
    ((A4 v1.1 ((wI .i64 (p3 + (wI .i64 ((wI .i64 (2 * v1.2)) + 1)))))).bind fun v7 =>
    (A4 v1.1 ((wI .i64 ((wI .i64 (p3 + (wI .i64 ((wI .i64 (2 * v1.2)) + 1)))) + 1)))).bind fun v8 =>
    (p4 ((v7, v8))).bind fun v9 =>
    j5 (decide (v9 < 0)))
    (j5 false))
def D5 (N : Nat) (p0 : List Int) (p1 : Int) (p2 : Int) (p3 : Int) (p4 : (Int × Int) → Option Int) : Option ((List Int)) :=
 DB N p2 p3 p4 (fun (v2 : (List Int)) =>
  some v2) N (p0, p1)
def DC (N : Nat) (p1 : Int) (p2 : Int) (p3 : (Int × Int) → Option Int) (j1 : ((List Int)) → Option ((List Int))) : Nat → ((List Int) × Int) → Option ((List Int))
 | 0, _ => none
 | n1 + 1, v1 =>
  AR ((decide (0 ≤ v1.2)))
   ((D5 N v1.1 v1.2 ((wI .i64 (p2 - p1))) p1 p3).bind fun v4 =>
   DC N p1 p2 p3 j1 n1 (v4, (wI .i64 (v1.2 - 1))))
   (j1 v1.1)
def DD (N : Nat) (p1 : Int) (p3 : (Int × Int) → Option Int) (j5 : ((List Int)) → Option ((List Int))) : Nat → ((List Int) × Int) → Option ((List Int))
 | 0, _ => none
 | n5 + 1, v5 =>
  AR ((decide (0 ≤ v5.2)))
   ((A4 v5.1 ((wI .i64 (p1 + v5.2)))).bind fun v8 =>
   (A4 v5.1 p1).bind fun v9 =>
   (A4 v5.1 p1).bind fun _ =>
   (A4 (v5.1.set ((p1).toNat) v8) ((wI .i64 (p1 + v5.2)))).bind fun _ =>
   (D5 N ((v5.1.set ((p1).toNat) v8).set (((wI .i64 (p1 + v5.2))).toNat) v9) 0 v5.2 p1 p3).bind fun v12 =>
   DD N p1 p3 j5 n5 (v12, (wI .i64 (v5.2 - 1))))
   (j5 v5.1)
def Ff (N : Nat) (p0 : List Int) (p1 : Int) (p2 : Int) (p3 : (Int × Int) → Option Int) : Option ((List Int)) :=
 DC N p1 p2 p3 (fun (v2 : (List Int)) =>
  DD N p1 p3 (fun (v6 : (List Int)) =>
   some v6) N (v2, (wI .i64 ((wI .i64 (p2 - p1)) - 1)))) N (p0, (wI .i64 (x8 ((wI .i64 ((wI .i64 (p2 - p1)) - 1))) 2)))
def Gz (N : Nat) (p0 : Int) : Option Int :=
 (HR N ((wI .u64 p0))).bind fun v1 =>
 (Ej (0 ≤ v1)).bind fun _ =>
 some ((CX .u64 1 v1))
def GN (_ : Nat) (p0 : Int) : Option (Int × Int) :=
 some ((Is .u64 ((Is .u64 ((Is .u64 p0 ((CX .u64 p0 13)))) ((AW .u64 ((Is .u64 p0 ((CX .u64 p0 13)))) 7)))) ((CX .u64 ((Is .u64 ((Is .u64 p0 ((CX .u64 p0 13)))) ((AW .u64 ((Is .u64 p0 ((CX .u64 p0 13)))) 7)))) 17))), (Is .u64 ((Is .u64 ((Is .u64 p0 ((CX .u64 p0 13)))) ((AW .u64 ((Is .u64 p0 ((CX .u64 p0 13)))) 7)))) ((CX .u64 ((Is .u64 ((Is .u64 p0 ((CX .u64 p0 13)))) ((AW .u64 ((Is .u64 p0 ((CX .u64 p0 13)))) 7)))) 17))))
def CK (N : Nat) (p1 : Int) (p2 : Int) (v2 : Int) (j3 : ((List Int)) → Option ((List Int))) : Nat → ((List Int) × Int × Int) → Option ((List Int))
 | 0, _ => none
 | n3 + 1, v3 =>
  AR ((decide (v3.2.2 ≤ (wI .i64 ((wI .i64 (p1 + (wI .i64 ((wI .i64 (x8 ((wI .i64 (p2 - p1))) 4)) * 2)))) + 1)))))
   ((GN N v3.2.1).bind fun v6 =>
   Ba (fun (v7 : Int) =>
    (A4 v3.1 ((wI .i64 (p1 + v7)))).bind fun v9 =>
    (A4 v3.1 v3.2.2).bind fun v10 =>
    (A4 v3.1 v3.2.2).bind fun _ =>
    (A4 (v3.1.set ((v3.2.2).toNat) v9) ((wI .i64 (p1 + v7)))).bind fun _ =>
    CK N p1 p2 v2 j3 n3 ((v3.1.set ((v3.2.2).toNat) v9).set (((wI .i64 (p1 + v7))).toNat) v10, v6.2, (wI .i64 (v3.2.2 + 1))))
   fun j7 =>
   AR ((decide ((wI .i64 (p2 - p1)) ≤ (wI .i64 ((AM .u64 v6.1 ((wI .u64 (v2 - 1)))))))))
    (j7 (wI .i64 ((wI .i64 ((AM .u64 v6.1 ((wI .u64 (v2 - 1)))))) - (wI .i64 (p2 - p1)))))
    (j7 (wI .i64 ((AM .u64 v6.1 ((wI .u64 (v2 - 1))))))))
   (j3 v3.1)
def Er (N : Nat) (p0 : List Int) (p1 : Int) (p2 : Int) (_ : (Int × Int) → Option Int) : Option ((List Int)) :=
 AR ((decide (8 ≤ (wI .i64 (p2 - p1)))))
  ((Gz N ((wI .i64 (p2 - p1)))).bind fun v2 =>
  CK N p1 p2 v2 (fun (v4 : (List Int)) =>
   some v4) N (p0, (wI .u64 ((wI .i64 (p2 - p1)))), (wI .i64 ((wI .i64 (p1 + (wI .i64 ((wI .i64 (x8 ((wI .i64 (p2 - p1))) 4)) * 2)))) - 1))))
  (some p0)
def Dv (_ : Nat) (p0 : List Int) (p1 : Int) (p2 : Int) (p3 : Int) (p4 : (Int × Int) → Option Int) : Option (Int × Int × Int) :=
 (A4 p0 p2).bind fun v1 =>
 (A4 p0 p1).bind fun v2 =>
 (p4 ((v1, v2))).bind fun v3 =>
 AR ((decide (v3 < 0)))
  (some (p2, p1, (wI .i64 (p3 + 1))))
  (some (p1, p2, p3))
def Ev (N : Nat) (p0 : List Int) (p1 : Int) (p2 : Int) (p3 : Int) (p4 : Int) (p5 : (Int × Int) → Option Int) : Option (Int × Int) :=
 (Dv N p0 p1 p2 p4 p5).bind fun v1 =>
 (Dv N p0 v1.2.1 p3 v1.2.2 p5).bind fun v2 =>
 (Dv N p0 v1.1 v2.1 v2.2.2 p5).bind fun v3 =>
 some (v3.2.1, v3.2.2)
def B8 (N : Nat) (p0 : List Int) (p1 : Int) (p2 : Int) (p3 : (Int × Int) → Option Int) : Option (Int × Int) :=
 (Ev N p0 ((wI .i64 (p1 - 1))) p1 ((wI .i64 (p1 + 1))) p2 p3).bind fun v1 =>
 some (v1.1, v1.2)
def EO (N : Nat) (p0 : List Int) (p1 : Int) (p2 : Int) (p3 : (Int × Int) → Option Int) : Option (Int × Int) :=
 Ba (fun (v1 : Int × Int) =>
  AR ((v1.1 == 0))
   (some (v1.2, 1))
   (AR ((v1.1 == 12))
    (some (v1.2, 2))
    (some (v1.2, 0))))
 fun j1 =>
 AR ((decide (8 ≤ (wI .i64 (p2 - p1)))))
  (Ba (fun (v3 : Int × Int × Int × Int) =>
   (Ev N p0 v3.2.1 v3.2.2.1 v3.2.2.2 v3.1 p3).bind fun v8 =>
   j1 (v8.2, v8.1))
  fun j3 =>
  AR ((decide (50 ≤ (wI .i64 (p2 - p1)))))
   ((B8 N p0 ((wI .i64 (p1 + (wI .i64 ((wI .i64 (x8 ((wI .i64 (p2 - p1))) 4)) * 1))))) 0 p3).bind fun v5 =>
   (B8 N p0 ((wI .i64 (p1 + (wI .i64 ((wI .i64 (x8 ((wI .i64 (p2 - p1))) 4)) * 2))))) v5.2 p3).bind fun v6 =>
   (B8 N p0 ((wI .i64 (p1 + (wI .i64 ((wI .i64 (x8 ((wI .i64 (p2 - p1))) 4)) * 3))))) v6.2 p3).bind fun v7 =>
   j3 (v7.2, v5.1, v6.1, v7.1))
   (j3 (0, (wI .i64 (p1 + (wI .i64 ((wI .i64 (x8 ((wI .i64 (p2 - p1))) 4)) * 1)))), (wI .i64 (p1 + (wI .i64 ((wI .i64 (x8 ((wI .i64 (p2 - p1))) 4)) * 2)))), (wI .i64 (p1 + (wI .i64 ((wI .i64 (x8 ((wI .i64 (p2 - p1))) 4)) * 3)))))))
  (j1 (0, (wI .i64 (p1 + (wI .i64 ((wI .i64 (x8 ((wI .i64 (p2 - p1))) 4)) * 2))))))
def CW (N : Nat) (j1 : ((List Int)) → Option ((List Int))) : Nat → ((List Int) × Int × Int) → Option ((List Int))
 | 0, _ => none
 | n1 + 1, v1 =>
  AR ((decide (v1.2.1 < v1.2.2)))
   ((A4 v1.1 v1.2.2).bind fun v4 =>
   (A4 v1.1 v1.2.1).bind fun v5 =>
   (A4 v1.1 v1.2.1).bind fun _ =>
   (A4 (v1.1.set ((v1.2.1).toNat) v4) v1.2.2).bind fun _ =>
   CW N j1 n1 ((v1.1.set ((v1.2.1).toNat) v4).set ((v1.2.2).toNat) v5, (wI .i64 (v1.2.1 + 1)), (wI .i64 (v1.2.2 - 1))))
   (j1 v1.1)
def Ey (N : Nat) (p0 : List Int) (p1 : Int) (p2 : Int) (_ : (Int × Int) → Option Int) : Option ((List Int)) :=
 CW N (fun (v2 : (List Int)) =>
  some v2) N (p0, p1, (wI .i64 (p2 - 1)))
def BY (N : Nat) (p2 : Int) (p3 : (Int × Int) → Option Int) (v1 : (List Int) × Int × Int) (j5 : Int → Option (Bool × (List Int))) : Nat → Int → Option (Bool × (List Int))
 | 0, _ => none
 | n5 + 1, v5 =>
  Ba (fun (v7 : Bool) =>
   AR v7
    (BY N p2 p3 v1 j5 n5 (wI .i64 (v5 + 1)))
    (j5 v5))
  fun j7 =>
  AR ((decide (v5 < p2)))
   ((A4 v1.1 v5).bind fun v9 =>
   (A4 v1.1 ((wI .i64 (v5 - 1)))).bind fun v10 =>
   (p3 ((v9, v10))).bind fun v11 =>
   j7 (!((decide (v11 < 0)))))
   (j7 false)
def BR (N : Nat) (p3 : (Int × Int) → Option Int) (j21 : ((List Int)) → Option (Bool × (List Int))) : Nat → ((List Int) × Int) → Option (Bool × (List Int))
 | 0, _ => none
 | n21 + 1, v21 =>
  AR ((decide (1 ≤ v21.2)))
   ((A4 v21.1 v21.2).bind fun v24 =>
   (A4 v21.1 ((wI .i64 (v21.2 - 1)))).bind fun v25 =>
   (p3 ((v24, v25))).bind fun v26 =>
   AR ((!((decide (v26 < 0)))))
    (j21 v21.1)
    ((A4 v21.1 ((wI .i64 (v21.2 - 1)))).bind fun v28 =>
    (A4 v21.1 v21.2).bind fun v29 =>
    (A4 v21.1 v21.2).bind fun _ =>
    (A4 (v21.1.set ((v21.2).toNat) v28) ((wI .i64 (v21.2 - 1)))).bind fun _ =>
    BR N p3 j21 n21 ((v21.1.set ((v21.2).toNat) v28).set (((wI .i64 (v21.2 - 1))).toNat) v29, (wI .i64 (v21.2 - 1)))))
   (j21 v21.1)
def BP (N : Nat) (p2 : Int) (p3 : (Int × Int) → Option Int) (j33 : ((List Int)) → Option (Bool × (List Int))) : Nat → ((List Int) × Int) → Option (Bool × (List Int))
 | 0, _ => none
 | n33 + 1, v33 =>
  AR ((decide (v33.2 < p2)))
   ((A4 v33.1 v33.2).bind fun v36 =>
   (A4 v33.1 ((wI .i64 (v33.2 - 1)))).bind fun v37 =>
   (p3 ((v36, v37))).bind fun v38 =>
   AR ((!((decide (v38 < 0)))))
    (j33 v33.1)
    ((A4 v33.1 ((wI .i64 (v33.2 - 1)))).bind fun v40 =>
    (A4 v33.1 v33.2).bind fun v41 =>
    (A4 v33.1 v33.2).bind fun _ =>
    (A4 (v33.1.set ((v33.2).toNat) v40) ((wI .i64 (v33.2 - 1)))).bind fun _ =>
    BP N p2 p3 j33 n33 ((v33.1.set ((v33.2).toNat) v40).set (((wI .i64 (v33.2 - 1))).toNat) v41, (wI .i64 (v33.2 + 1)))))
   (j33 v33.1)
def BX (N : Nat) (p1 : Int) (p2 : Int) (p3 : (Int × Int) → Option Int) (j1 : ((List Int)) → Option (Bool × (List Int))) : Nat → ((List Int) × Int × Int) → Option (Bool × (List Int))
 | 0, _ => none
 | n1 + 1, v1 =>
  AR ((decide (v1.2.2 < 5)))
   (Ba (fun (v4 : (List Int) × Int) =>
    BX N p1 p2 p3 j1 n1 (v4.1, v4.2, (wI .i64 (v1.2.2 + 1))))
   fun j4 =>
   BY N p2 p3 v1 (fun (v6 : Int) =>
    AR ((v6 == p2))
     (some (true, v1.1))
     (AR ((decide ((wI .i64 (p2 - p1)) < 50)))
      (some (false, v1.1))
      ((A4 v1.1 ((wI .i64 (v6 - 1)))).bind fun v15 =>
      (A4 v1.1 v6).bind fun v16 =>
      (A4 v1.1 v6).bind fun _ =>
      (A4 (v1.1.set ((v6).toNat) v15) ((wI .i64 (v6 - 1)))).bind fun _ =>
      Ba (fun (v19 : (List Int)) =>
       AR ((decide (2 ≤ (wI .i64 (p2 - v6)))))
        (BP N p2 p3 (fun (v34 : (List Int)) =>
         j4 (v34, v6)) N (v19, (wI .i64 (v6 + 1))))
        (j4 (v19, v6)))
      fun j19 =>
      AR ((decide (2 ≤ (wI .i64 (v6 - p1)))))
       (BR N p3 (fun (v22 : (List Int)) =>
        j19 v22) N ((v1.1.set ((v6).toNat) v15).set (((wI .i64 (v6 - 1))).toNat) v16, (wI .i64 (v6 - 1))))
       (j19 ((v1.1.set ((v6).toNat) v15).set (((wI .i64 (v6 - 1))).toNat) v16))))) N v1.2.1)
   (j1 v1.1)
def Dr (N : Nat) (p0 : List Int) (p1 : Int) (p2 : Int) (p3 : (Int × Int) → Option Int) : Option (Bool × (List Int)) :=
 BX N p1 p2 p3 (fun (v2 : (List Int)) =>
  some (false, v2)) N (p0, (wI .i64 (p1 + 1)), 0)
def CB (N : Nat) (p1 : Int) (p4 : (Int × Int) → Option Int) (v5 : (List Int) × Int × Int) (j7 : Int → Option (Int × (List Int))) : Nat → Int → Option (Int × (List Int))
 | 0, _ => none
 | n7 + 1, v7 =>
  Ba (fun (v9 : Bool) =>
   AR v9
    (CB N p1 p4 v5 j7 n7 (wI .i64 (v7 + 1)))
    (j7 v7))
  fun j9 =>
  AR ((decide (v7 ≤ v5.2.2)))
   ((A4 v5.1 p1).bind fun v11 =>
   (A4 v5.1 v7).bind fun v12 =>
   (p4 ((v11, v12))).bind fun v13 =>
   j9 (!((decide (v13 < 0)))))
   (j9 false)
def Cr (N : Nat) (p1 : Int) (p4 : (Int × Int) → Option Int) (v5 : (List Int) × Int × Int) (v8 : Int) (j15 : Int → Option (Int × (List Int))) : Nat → Int → Option (Int × (List Int))
 | 0, _ => none
 | n15 + 1, v15 =>
  Ba (fun (v17 : Bool) =>
   AR v17
    (Cr N p1 p4 v5 v8 j15 n15 (wI .i64 (v15 - 1)))
    (j15 v15))
  fun j17 =>
  AR ((decide (v8 ≤ v15)))
   ((A4 v5.1 p1).bind fun v19 =>
   (A4 v5.1 v15).bind fun v20 =>
   (p4 ((v19, v20))).bind fun v21 =>
   j17 (decide (v21 < 0)))
   (j17 false)
def Cz (N : Nat) (p1 : Int) (p4 : (Int × Int) → Option Int) (j5 : ((List Int) × Int) → Option (Int × (List Int))) : Nat → ((List Int) × Int × Int) → Option (Int × (List Int))
 | 0, _ => none
 | n5 + 1, v5 =>
  CB N p1 p4 v5 (fun (v8 : Int) =>
   Cr N p1 p4 v5 v8 (fun (v16 : Int) =>
    AR ((decide (v16 < v8)))
     (j5 (v5.1, v8))
     ((A4 v5.1 v16).bind fun v24 =>
     (A4 v5.1 v8).bind fun v25 =>
     (A4 v5.1 v8).bind fun _ =>
     (A4 (v5.1.set ((v8).toNat) v24) v16).bind fun _ =>
     Cz N p1 p4 j5 n5 ((v5.1.set ((v8).toNat) v24).set ((v16).toNat) v25, (wI .i64 (v8 + 1)), (wI .i64 (v16 - 1))))) N v5.2.2) N v5.2.1
def Eb (N : Nat) (p0 : List Int) (p1 : Int) (p2 : Int) (p3 : Int) (p4 : (Int × Int) → Option Int) : Option (Int × (List Int)) :=
 (A4 p0 p3).bind fun v1 =>
 (A4 p0 p1).bind fun v2 =>
 (A4 p0 p1).bind fun _ =>
 (A4 (p0.set ((p1).toNat) v1) p3).bind fun _ =>
 Cz N p1 p4 (fun (v6 : (List Int) × Int) =>
  some (v6.2, v6.1)) N ((p0.set ((p1).toNat) v1).set ((p3).toNat) v2, (wI .i64 (p1 + 1)), (wI .i64 (p2 - 1)))
def Dt (N : Nat) (p0 : List Int) (p1 : Int) (p2 : Int) (p3 : Int) (p4 : (Int × Int) → Option Int) (v1 : Int) (v2 : Int) (j5 : Int → Option (Int × Bool × (List Int))) : Nat → Int → Option (Int × Bool × (List Int))
 | 0, _ => none
 | n5 + 1, v5 =>
  Ba (fun (v7 : Bool) =>
   AR v7
    (Dt N p0 p1 p2 p3 p4 v1 v2 j5 n5 (wI .i64 (v5 + 1)))
    (j5 v5))
  fun j7 =>
  AR ((decide (v5 ≤ (wI .i64 (p2 - 1)))))
   ((A4 ((p0.set ((p1).toNat) v1).set ((p3).toNat) v2) v5).bind fun v9 =>
   (A4 ((p0.set ((p1).toNat) v1).set ((p3).toNat) v2) p1).bind fun v10 =>
   (p4 ((v9, v10))).bind fun v11 =>
   j7 (decide (v11 < 0)))
   (j7 false)
def De (N : Nat) (p0 : List Int) (p1 : Int) (p3 : Int) (p4 : (Int × Int) → Option Int) (v1 : Int) (v2 : Int) (v6 : Int) (j13 : Int → Option (Int × Bool × (List Int))) : Nat → Int → Option (Int × Bool × (List Int))
 | 0, _ => none
 | n13 + 1, v13 =>
  Ba (fun (v15 : Bool) =>
   AR v15
    (De N p0 p1 p3 p4 v1 v2 v6 j13 n13 (wI .i64 (v13 - 1)))
    (j13 v13))
  fun j15 =>
  AR ((decide (v6 ≤ v13)))
   ((A4 ((p0.set ((p1).toNat) v1).set ((p3).toNat) v2) v13).bind fun v17 =>
   (A4 ((p0.set ((p1).toNat) v1).set ((p3).toNat) v2) p1).bind fun v18 =>
   (p4 ((v17, v18))).bind fun v19 =>
   j15 (!((decide (v19 < 0)))))
   (j15 false)
def Db (N : Nat) (p1 : Int) (p4 : (Int × Int) → Option Int) (v30 : (List Int) × Int × Int) (j32 : Int → Option (Int × Bool × (List Int))) : Nat → Int → Option (Int × Bool × (List Int))
 | 0, _ => none
 | n32 + 1, v32 =>
  Ba (fun (v34 : Bool) =>
   AR v34
    (Db N p1 p4 v30 j32 n32 (wI .i64 (v32 + 1)))
    (j32 v32))
  fun j34 =>
  AR ((decide (v32 ≤ v30.2.2)))
   ((A4 v30.1 v32).bind fun v36 =>
   (A4 v30.1 p1).bind fun v37 =>
   (p4 ((v36, v37))).bind fun v38 =>
   j34 (decide (v38 < 0)))
   (j34 false)
def Dd (N : Nat) (p1 : Int) (p4 : (Int × Int) → Option Int) (v30 : (List Int) × Int × Int) (v33 : Int) (j40 : Int → Option (Int × Bool × (List Int))) : Nat → Int → Option (Int × Bool × (List Int))
 | 0, _ => none
 | n40 + 1, v40 =>
  Ba (fun (v42 : Bool) =>
   AR v42
    (Dd N p1 p4 v30 v33 j40 n40 (wI .i64 (v40 - 1)))
    (j40 v40))
  fun j42 =>
  AR ((decide (v33 ≤ v40)))
   ((A4 v30.1 v40).bind fun v44 =>
   (A4 v30.1 p1).bind fun v45 =>
   (p4 ((v44, v45))).bind fun v46 =>
   j42 (!((decide (v46 < 0)))))
   (j42 false)
def Da (N : Nat) (p1 : Int) (p4 : (Int × Int) → Option Int) (j30 : ((List Int) × Int) → Option (Int × Bool × (List Int))) : Nat → ((List Int) × Int × Int) → Option (Int × Bool × (List Int))
 | 0, _ => none
 | n30 + 1, v30 =>
  Db N p1 p4 v30 (fun (v33 : Int) =>
   Dd N p1 p4 v30 v33 (fun (v41 : Int) =>
    AR ((decide (v41 < v33)))
     (j30 (v30.1, v41))
     ((A4 v30.1 v41).bind fun v49 =>
     (A4 v30.1 v33).bind fun v50 =>
     (A4 v30.1 v33).bind fun _ =>
     (A4 (v30.1.set ((v33).toNat) v49) v41).bind fun _ =>
     Da N p1 p4 j30 n30 ((v30.1.set ((v33).toNat) v49).set ((v41).toNat) v50, (wI .i64 (v33 + 1)), (wI .i64 (v41 - 1))))) N v30.2.2) N v30.2.1
def E2 (N : Nat) (p0 : List Int) (p1 : Int) (p2 : Int) (p3 : Int) (p4 : (Int × Int) → Option Int) : Option (Int × Bool × (List Int)) :=
 (A4 p0 p3).bind fun v1 =>
 (A4 p0 p1).bind fun v2 =>
 (A4 p0 p1).bind fun _ =>
 (A4 (p0.set ((p1).toNat) v1) p3).bind fun _ =>
 Dt N p0 p1 p2 p3 p4 v1 v2 (fun (v6 : Int) =>
  De N p0 p1 p3 p4 v1 v2 v6 (fun (v14 : Int) =>
   AR ((decide (v14 < v6)))
    ((A4 ((p0.set ((p1).toNat) v1).set ((p3).toNat) v2) p1).bind fun v22 =>
    (A4 ((p0.set ((p1).toNat) v1).set ((p3).toNat) v2) v14).bind fun v23 =>
    (A4 ((p0.set ((p1).toNat) v1).set ((p3).toNat) v2) v14).bind fun _ =>
    (A4 (((p0.set ((p1).toNat) v1).set ((p3).toNat) v2).set ((v14).toNat) v22) p1).bind fun _ =>
    some (v14, true, (((p0.set ((p1).toNat) v1).set ((p3).toNat) v2).set ((v14).toNat) v22).set ((p1).toNat) v23))
    ((A4 ((p0.set ((p1).toNat) v1).set ((p3).toNat) v2) v14).bind fun v26 =>
    (A4 ((p0.set ((p1).toNat) v1).set ((p3).toNat) v2) v6).bind fun v27 =>
    (A4 ((p0.set ((p1).toNat) v1).set ((p3).toNat) v2) v6).bind fun _ =>
    (A4 (((p0.set ((p1).toNat) v1).set ((p3).toNat) v2).set ((v6).toNat) v26) v14).bind fun _ =>
    Da N p1 p4 (fun (v31 : (List Int) × Int) =>
     (A4 v31.1 p1).bind fun v53 =>
     (A4 v31.1 v31.2).bind fun v54 =>
     (A4 v31.1 v31.2).bind fun _ =>
     (A4 (v31.1.set ((v31.2).toNat) v53) p1).bind fun _ =>
     some (v31.2, false, (v31.1.set ((v31.2).toNat) v53).set ((p1).toNat) v54)) N ((((p0.set ((p1).toNat) v1).set ((p3).toNat) v2).set ((v6).toNat) v26).set ((v14).toNat) v27, (wI .i64 (v6 + 1)), (wI .i64 (v14 - 1))))) N (wI .i64 (p2 - 1))) N (wI .i64 (p1 + 1))
def B3 (N : Nat) (p4 : (Int × Int) → Option Int) (rc : (List Int) → Int → Int → Int → ((Int × Int) → Option Int) → Option ((List Int))) (j1 : Unit → Option ((List Int))) : Nat → ((List Int) × Int × Int × Int × Bool × Bool) → Option ((List Int))
 | 0, _ => none
 | n1 + 1, v1 =>
  AR ((decide ((wI .i64 (v1.2.2.1 - v1.2.1)) ≤ 12)))
   ((Eu N v1.1 v1.2.1 v1.2.2.1 p4).bind fun v4 =>
   some v4)
   (AR ((v1.2.2.2.1 == 0))
    ((Ff N v1.1 v1.2.1 v1.2.2.1 p4).bind fun v6 =>
    some v6)
    (Ba (fun (v7 : (List Int) × Int) =>
     (EO N v7.1 v1.2.1 v1.2.2.1 p4).bind fun v10 =>
     Ba (fun (v11 : (List Int) × Int × Int) =>
      Ba (fun (v14 : (List Int)) =>
       Ba (fun (v21 : Bool) =>
        AR v21
         ((Eb N v14 v1.2.1 v1.2.2.1 v11.2.1 p4).bind fun v27 =>
         B3 N p4 rc j1 n1 (v27.2, v27.1, v1.2.2.1, v7.2, v1.2.2.2.2.1, v1.2.2.2.2.2))
         ((E2 N v14 v1.2.1 v1.2.2.1 v11.2.1 p4).bind fun v28 =>
         AR ((decide ((wI .i64 (v28.1 - v1.2.1)) < (wI .i64 (v1.2.2.1 - v28.1)))))
          ((rc v28.2.2 v1.2.1 v28.1 v7.2 p4).bind fun v30 =>
          B3 N p4 rc j1 n1 (v30, (wI .i64 (v28.1 + 1)), v1.2.2.1, v7.2, (decide ((wI .i64 (x8 ((wI .i64 (v1.2.2.1 - v1.2.1))) 8)) ≤ (wI .i64 (v28.1 - v1.2.1)))), v28.2.1))
          ((rc v28.2.2 ((wI .i64 (v28.1 + 1))) v1.2.2.1 v7.2 p4).bind fun v31 =>
          B3 N p4 rc j1 n1 (v31, v1.2.1, v28.1, v7.2, (decide ((wI .i64 (x8 ((wI .i64 (v1.2.2.1 - v1.2.1))) 8)) ≤ (wI .i64 (v1.2.2.1 - v28.1)))), v28.2.1))))
       fun j21 =>
       AR ((decide (0 < v1.2.1)))
        ((A4 v14 ((wI .i64 (v1.2.1 - 1)))).bind fun v23 =>
        (A4 v14 v11.2.1).bind fun v24 =>
        (p4 ((v23, v24))).bind fun v25 =>
        j21 (!((decide (v25 < 0)))))
        (j21 false))
      fun j14 =>
      Ba (fun (v15 : Bool) =>
       AR v15
        ((Dr N v11.1 v1.2.1 v1.2.2.1 p4).bind fun v19 =>
        AR v19.1
         (some v19.2)
         (j14 v19.2))
        (j14 v11.1))
      fun j15 =>
      AR v1.2.2.2.2.1
       (AR v1.2.2.2.2.2
        (j15 (v11.2.2 == 1))
        (j15 false))
       (j15 false))
     fun j11 =>
     AR ((v10.2 == 2))
      ((Ey N v7.1 v1.2.1 v1.2.2.1 p4).bind fun v13 =>
      j11 (v13, (wI .i64 ((wI .i64 (v1.2.2.1 - 1)) - (wI .i64 (v10.1 - v1.2.1)))), 1))
      (j11 (v7.1, v10.1, v10.2)))
    fun j7 =>
    AR ((!v1.2.2.2.2.1))
     ((Er N v1.1 v1.2.1 v1.2.2.1 p4).bind fun v9 =>
     j7 (v9, (wI .i64 (v1.2.2.2.1 - 1))))
     (j7 (v1.1, v1.2.2.2.1))))
def E3 (N : Nat) (rc : (List Int) → Int → Int → Int → ((Int × Int) → Option Int) → Option ((List Int))) (p0 : List Int) (p1 : Int) (p2 : Int) (p3 : Int) (p4 : (Int × Int) → Option Int) : Option ((List Int)) :=
 B3 N p4 rc (fun (_ : Unit) =>
  none) N (p0, p1, p2, p3, true, true)
def DR (N : Nat) : Nat → (List Int) → Int → Int → Int → ((Int × Int) → Option Int) → Option ((List Int))
 | 0, _, _, _, _, _ => none
 | k + 1, p0, p1, p2, p3, p4 => E3 N (DR N k) p0 p1 p2 p3 p4
def GY (N : Nat) (p0 : List Int) (p1 : Int) (p2 : Int) (p3 : Int) (p4 : (Int × Int) → Option Int) : Option ((List Int)) := DR N N p0 p1 p2 p3 p4
def FI (N : Nat) (p0 : List Int) (p1 : (Int × Int) → Option Int) : Option ((List Int)) :=
 (HR N ((wI .u64 ((p0.length : Int))))).bind fun v1 =>
 (GY N p0 0 ((p0.length : Int)) v1 p1).bind fun v2 =>
 some v2
def GD (_ : Nat) (p0 : Int) : Option Int :=
 (QM ((⟨⟨(yM (yM [0, 1, 1, 2, 1, 2, 2, 3, 1, 2, 2, 3, 2, 3, 3, 4, 1, 2, 2, 3, 2, 3, 3, 4, 2, 3, 3, 4, 3, 4, 4, 5, 1, 2, 2, 3, 2, 3, 3, 4, 2, 3, 3, 4, 3, 4, 4, 5, 2, 3, 3, 4, 3, 4, 4, 5, 3, 4, 4, 5, 4, 5, 5, 6] [1, 2, 2, 3, 2, 3, 3, 4, 2, 3, 3, 4, 3, 4, 4, 5, 2, 3, 3, 4, 3, 4, 4, 5, 3, 4, 4, 5, 4, 5, 5, 6, 2, 3, 3, 4, 3, 4, 4, 5, 3, 4, 4, 5, 4, 5, 5, 6, 3, 4, 4, 5, 4, 5, 5, 6, 4, 5, 5, 6, 5, 6, 6, 7]) (yM [1, 2, 2, 3, 2, 3, 3, 4, 2, 3, 3, 4, 3, 4, 4, 5, 2, 3, 3, 4, 3, 4, 4, 5, 3, 4, 4, 5, 4, 5, 5, 6, 2, 3, 3, 4, 3, 4, 4, 5, 3, 4, 4, 5, 4, 5, 5, 6, 3, 4, 4, 5, 4, 5, 5, 6, 4, 5, 5, 6, 5, 6, 6, 7] [2, 3, 3, 4, 3, 4, 4, 5, 3, 4, 4, 5, 4, 5, 5, 6, 3, 4, 4, 5, 4, 5, 5, 6, 4, 5, 5, 6, 5, 6, 6, 7, 3, 4, 4, 5, 4, 5, 5, 6, 4, 5, 5, 6, 5, 6, 6, 7, 4, 5, 5, 6, 5, 6, 6, 7, 5, 6, 6, 7, 6, 7, 7, 8]))⟩⟩ : ByteArray)) ((AW .u32 p0 24))).bind fun v1 =>
 (QM ((⟨⟨(yM (yM [0, 1, 1, 2, 1, 2, 2, 3, 1, 2, 2, 3, 2, 3, 3, 4, 1, 2, 2, 3, 2, 3, 3, 4, 2, 3, 3, 4, 3, 4, 4, 5, 1, 2, 2, 3, 2, 3, 3, 4, 2, 3, 3, 4, 3, 4, 4, 5, 2, 3, 3, 4, 3, 4, 4, 5, 3, 4, 4, 5, 4, 5, 5, 6] [1, 2, 2, 3, 2, 3, 3, 4, 2, 3, 3, 4, 3, 4, 4, 5, 2, 3, 3, 4, 3, 4, 4, 5, 3, 4, 4, 5, 4, 5, 5, 6, 2, 3, 3, 4, 3, 4, 4, 5, 3, 4, 4, 5, 4, 5, 5, 6, 3, 4, 4, 5, 4, 5, 5, 6, 4, 5, 5, 6, 5, 6, 6, 7]) (yM [1, 2, 2, 3, 2, 3, 3, 4, 2, 3, 3, 4, 3, 4, 4, 5, 2, 3, 3, 4, 3, 4, 4, 5, 3, 4, 4, 5, 4, 5, 5, 6, 2, 3, 3, 4, 3, 4, 4, 5, 3, 4, 4, 5, 4, 5, 5, 6, 3, 4, 4, 5, 4, 5, 5, 6, 4, 5, 5, 6, 5, 6, 6, 7] [2, 3, 3, 4, 3, 4, 4, 5, 3, 4, 4, 5, 4, 5, 5, 6, 3, 4, 4, 5, 4, 5, 5, 6, 4, 5, 5, 6, 5, 6, 6, 7, 3, 4, 4, 5, 4, 5, 5, 6, 4, 5, 5, 6, 5, 6, 6, 7, 4, 5, 5, 6, 5, 6, 6, 7, 5, 6, 6, 7, 6, 7, 7, 8]))⟩⟩ : ByteArray)) ((AM .u32 ((AW .u32 p0 16)) 255))).bind fun v2 =>
 (QM ((⟨⟨(yM (yM [0, 1, 1, 2, 1, 2, 2, 3, 1, 2, 2, 3, 2, 3, 3, 4, 1, 2, 2, 3, 2, 3, 3, 4, 2, 3, 3, 4, 3, 4, 4, 5, 1, 2, 2, 3, 2, 3, 3, 4, 2, 3, 3, 4, 3, 4, 4, 5, 2, 3, 3, 4, 3, 4, 4, 5, 3, 4, 4, 5, 4, 5, 5, 6] [1, 2, 2, 3, 2, 3, 3, 4, 2, 3, 3, 4, 3, 4, 4, 5, 2, 3, 3, 4, 3, 4, 4, 5, 3, 4, 4, 5, 4, 5, 5, 6, 2, 3, 3, 4, 3, 4, 4, 5, 3, 4, 4, 5, 4, 5, 5, 6, 3, 4, 4, 5, 4, 5, 5, 6, 4, 5, 5, 6, 5, 6, 6, 7]) (yM [1, 2, 2, 3, 2, 3, 3, 4, 2, 3, 3, 4, 3, 4, 4, 5, 2, 3, 3, 4, 3, 4, 4, 5, 3, 4, 4, 5, 4, 5, 5, 6, 2, 3, 3, 4, 3, 4, 4, 5, 3, 4, 4, 5, 4, 5, 5, 6, 3, 4, 4, 5, 4, 5, 5, 6, 4, 5, 5, 6, 5, 6, 6, 7] [2, 3, 3, 4, 3, 4, 4, 5, 3, 4, 4, 5, 4, 5, 5, 6, 3, 4, 4, 5, 4, 5, 5, 6, 4, 5, 5, 6, 5, 6, 6, 7, 3, 4, 4, 5, 4, 5, 5, 6, 4, 5, 5, 6, 5, 6, 6, 7, 4, 5, 5, 6, 5, 6, 6, 7, 5, 6, 6, 7, 6, 7, 7, 8]))⟩⟩ : ByteArray)) ((AM .u32 ((AW .u32 p0 8)) 255))).bind fun v3 =>
 (QM ((⟨⟨(yM (yM [0, 1, 1, 2, 1, 2, 2, 3, 1, 2, 2, 3, 2, 3, 3, 4, 1, 2, 2, 3, 2, 3, 3, 4, 2, 3, 3, 4, 3, 4, 4, 5, 1, 2, 2, 3, 2, 3, 3, 4, 2, 3, 3, 4, 3, 4, 4, 5, 2, 3, 3, 4, 3, 4, 4, 5, 3, 4, 4, 5, 4, 5, 5, 6] [1, 2, 2, 3, 2, 3, 3, 4, 2, 3, 3, 4, 3, 4, 4, 5, 2, 3, 3, 4, 3, 4, 4, 5, 3, 4, 4, 5, 4, 5, 5, 6, 2, 3, 3, 4, 3, 4, 4, 5, 3, 4, 4, 5, 4, 5, 5, 6, 3, 4, 4, 5, 4, 5, 5, 6, 4, 5, 5, 6, 5, 6, 6, 7]) (yM [1, 2, 2, 3, 2, 3, 3, 4, 2, 3, 3, 4, 3, 4, 4, 5, 2, 3, 3, 4, 3, 4, 4, 5, 3, 4, 4, 5, 4, 5, 5, 6, 2, 3, 3, 4, 3, 4, 4, 5, 3, 4, 4, 5, 4, 5, 5, 6, 3, 4, 4, 5, 4, 5, 5, 6, 4, 5, 5, 6, 5, 6, 6, 7] [2, 3, 3, 4, 3, 4, 4, 5, 3, 4, 4, 5, 4, 5, 5, 6, 3, 4, 4, 5, 4, 5, 5, 6, 4, 5, 5, 6, 5, 6, 6, 7, 3, 4, 4, 5, 4, 5, 5, 6, 4, 5, 5, 6, 5, 6, 6, 7, 4, 5, 5, 6, 5, 6, 6, 7, 5, 6, 6, 7, 6, 7, 7, 8]))⟩⟩ : ByteArray)) ((AM .u32 p0 255))).bind fun v4 =>
 some ((wI .i64 ((wI .u8 ((wI .u8 ((wI .u8 (v1 + v2)) + v3)) + v4)))))
def GG (_ : Nat) (p0 : Int) : Option Int :=
 some ((AM .i64 ((wI .i64 ((wI .u64 ((wI .u64 ((wI .u64 ((AM .u64 ((wI .u64 ((AW .u64 ((wI .u64 ((AM .u64 ((AW .u64 ((wI .u64 ((AM .u64 ((AW .u64 p0 1)) 6148914691236517205) + (AM .u64 p0 6148914691236517205)))) 2)) 3689348814741910323) + (AM .u64 ((wI .u64 ((AM .u64 ((AW .u64 p0 1)) 6148914691236517205) + (AM .u64 p0 6148914691236517205)))) 3689348814741910323)))) 4) + (wI .u64 ((AM .u64 ((AW .u64 ((wI .u64 ((AM .u64 ((AW .u64 p0 1)) 6148914691236517205) + (AM .u64 p0 6148914691236517205)))) 2)) 3689348814741910323) + (AM .u64 ((wI .u64 ((AM .u64 ((AW .u64 p0 1)) 6148914691236517205) + (AM .u64 p0 6148914691236517205)))) 3689348814741910323)))))) 1085102592571150095) + (AW .u64 ((AM .u64 ((wI .u64 ((AW .u64 ((wI .u64 ((AM .u64 ((AW .u64 ((wI .u64 ((AM .u64 ((AW .u64 p0 1)) 6148914691236517205) + (AM .u64 p0 6148914691236517205)))) 2)) 3689348814741910323) + (AM .u64 ((wI .u64 ((AM .u64 ((AW .u64 p0 1)) 6148914691236517205) + (AM .u64 p0 6148914691236517205)))) 3689348814741910323)))) 4) + (wI .u64 ((AM .u64 ((AW .u64 ((wI .u64 ((AM .u64 ((AW .u64 p0 1)) 6148914691236517205) + (AM .u64 p0 6148914691236517205)))) 2)) 3689348814741910323) + (AM .u64 ((wI .u64 ((AM .u64 ((AW .u64 p0 1)) 6148914691236517205) + (AM .u64 p0 6148914691236517205)))) 3689348814741910323)))))) 1085102592571150095)) 8))) + (AW .u64 ((wI .u64 ((AM .u64 ((wI .u64 ((AW .u64 ((wI .u64 ((AM .u64 ((AW .u64 ((wI .u64 ((AM .u64 ((AW .u64 p0 1)) 6148914691236517205) + (AM .u64 p0 6148914691236517205)))) 2)) 3689348814741910323) + (AM .u64 ((wI .u64 ((AM .u64 ((AW .u64 p0 1)) 6148914691236517205) + (AM .u64 p0 6148914691236517205)))) 3689348814741910323)))) 4) + (wI .u64 ((AM .u64 ((AW .u64 ((wI .u64 ((AM .u64 ((AW .u64 p0 1)) 6148914691236517205) + (AM .u64 p0 6148914691236517205)))) 2)) 3689348814741910323) + (AM .u64 ((wI .u64 ((AM .u64 ((AW .u64 p0 1)) 6148914691236517205) + (AM .u64 p0 6148914691236517205)))) 3689348814741910323)))))) 1085102592571150095) + (AW .u64 ((AM .u64 ((wI .u64 ((AW .u64 ((wI .u64 ((AM .u64 ((AW .u64 ((wI .u64 ((AM .u64 ((AW .u64 p0 1)) 6148914691236517205) + (AM .u64 p0 6148914691236517205)))) 2)) 3689348814741910323) + (AM .u64 ((wI .u64 ((AM .u64 ((AW .u64 p0 1)) 6148914691236517205) + (AM .u64 p0 6148914691236517205)))) 3689348814741910323)))) 4) + (wI .u64 ((AM .u64 ((AW .u64 ((wI .u64 ((AM .u64 ((AW .u64 p0 1)) 6148914691236517205) + (AM .u64 p0 6148914691236517205)))) 2)) 3689348814741910323) + (AM .u64 ((wI .u64 ((AM .u64 ((AW .u64 p0 1)) 6148914691236517205) + (AM .u64 p0 6148914691236517205)))) 3689348814741910323)))))) 1085102592571150095)) 8)))) 16))) + (AW .u64 ((wI .u64 ((wI .u64 ((AM .u64 ((wI .u64 ((AW .u64 ((wI .u64 ((AM .u64 ((AW .u64 ((wI .u64 ((AM .u64 ((AW .u64 p0 1)) 6148914691236517205) + (AM .u64 p0 6148914691236517205)))) 2)) 3689348814741910323) + (AM .u64 ((wI .u64 ((AM .u64 ((AW .u64 p0 1)) 6148914691236517205) + (AM .u64 p0 6148914691236517205)))) 3689348814741910323)))) 4) + (wI .u64 ((AM .u64 ((AW .u64 ((wI .u64 ((AM .u64 ((AW .u64 p0 1)) 6148914691236517205) + (AM .u64 p0 6148914691236517205)))) 2)) 3689348814741910323) + (AM .u64 ((wI .u64 ((AM .u64 ((AW .u64 p0 1)) 6148914691236517205) + (AM .u64 p0 6148914691236517205)))) 3689348814741910323)))))) 1085102592571150095) + (AW .u64 ((AM .u64 ((wI .u64 ((AW .u64 ((wI .u64 ((AM .u64 ((AW .u64 ((wI .u64 ((AM .u64 ((AW .u64 p0 1)) 6148914691236517205) + (AM .u64 p0 6148914691236517205)))) 2)) 3689348814741910323) + (AM .u64 ((wI .u64 ((AM .u64 ((AW .u64 p0 1)) 6148914691236517205) + (AM .u64 p0 6148914691236517205)))) 3689348814741910323)))) 4) + (wI .u64 ((AM .u64 ((AW .u64 ((wI .u64 ((AM .u64 ((AW .u64 p0 1)) 6148914691236517205) + (AM .u64 p0 6148914691236517205)))) 2)) 3689348814741910323) + (AM .u64 ((wI .u64 ((AM .u64 ((AW .u64 p0 1)) 6148914691236517205) + (AM .u64 p0 6148914691236517205)))) 3689348814741910323)))))) 1085102592571150095)) 8))) + (AW .u64 ((wI .u64 ((AM .u64 ((wI .u64 ((AW .u64 ((wI .u64 ((AM .u64 ((AW .u64 ((wI .u64 ((AM .u64 ((AW .u64 p0 1)) 6148914691236517205) + (AM .u64 p0 6148914691236517205)))) 2)) 3689348814741910323) + (AM .u64 ((wI .u64 ((AM .u64 ((AW .u64 p0 1)) 6148914691236517205) + (AM .u64 p0 6148914691236517205)))) 3689348814741910323)))) 4) + (wI .u64 ((AM .u64 ((AW .u64 ((wI .u64 ((AM .u64 ((AW .u64 p0 1)) 6148914691236517205) + (AM .u64 p0 6148914691236517205)))) 2)) 3689348814741910323) + (AM .u64 ((wI .u64 ((AM .u64 ((AW .u64 p0 1)) 6148914691236517205) + (AM .u64 p0 6148914691236517205)))) 3689348814741910323)))))) 1085102592571150095) + (AW .u64 ((AM .u64 ((wI .u64 ((AW .u64 ((wI .u64 ((AM .u64 ((AW .u64 ((wI .u64 ((AM .u64 ((AW .u64 p0 1)) 6148914691236517205) + (AM .u64 p0 6148914691236517205)))) 2)) 3689348814741910323) + (AM .u64 ((wI .u64 ((AM .u64 ((AW .u64 p0 1)) 6148914691236517205) + (AM .u64 p0 6148914691236517205)))) 3689348814741910323)))) 4) + (wI .u64 ((AM .u64 ((AW .u64 ((wI .u64 ((AM .u64 ((AW .u64 p0 1)) 6148914691236517205) + (AM .u64 p0 6148914691236517205)))) 2)) 3689348814741910323) + (AM .u64 ((wI .u64 ((AM .u64 ((AW .u64 p0 1)) 6148914691236517205) + (AM .u64 p0 6148914691236517205)))) 3689348814741910323)))))) 1085102592571150095)) 8)))) 16)))) 32)))))) 127))
def FN (N : Nat) (p0 : Int) : Option Int :=
 AR false
  ((GD N ((wI .u32 p0))).bind fun v2 =>
  some v2)
  ((GG N p0).bind fun v3 =>
  some v3)
def HC (_ : Nat) (p0 : Int) : Option Int := eE p0
def Hb (N : Nat) (j1 : ((List Int)) → Option ((List Int))) : Nat → ((List Int) × Int) → Option ((List Int))
 | 0, _ => none
 | n1 + 1, v1 =>
  AR ((v1.2 != 0))
   ((HC N v1.2).bind fun v4 =>
   (Ej (v1.1.length + (([v4] : List Int)).length ≤ Dz)).bind fun _ =>
   Hb N j1 n1 (v1.1 ++ (([v4] : List Int)), (AM .u64 v1.2 ((wI .u64 (v1.2 - 1))))))
   (j1 v1.1)
def Gj (N : Nat) (p0 : Int) : Option ((List Int)) :=
 Hb N (fun (v2 : (List Int)) =>
  some v2) N (([] : List Int), p0)
def HT (_ : Nat) (p0 : Int) : Option Bool :=
 some ((p0 != p0))
def In (N : Nat) (p0 : Int) (p1 : Int) : Option Int :=
 (HT N p0).bind fun v1 =>
 (HT N p1).bind fun v2 =>
 AR v1
  (AR v2
   (some 0)
   (some ((-1))))
  (AR v2
   (some 1)
   (AR ((decide (p0 < p1)))
    (some ((-1)))
    (AR ((decide (p1 < p0)))
     (some 1)
     (some 0))))
def Ew (N : Nat) (p0 : List Int) (p1 : List Int) (j1 : Unit → Option Int) : Nat → Int → Option Int
 | 0, _ => none
 | n1 + 1, v1 =>
  AR ((decide (v1 < (p0.length : Int))))
   ((A4 p0 v1).bind fun v4 =>
   AR ((decide ((p1.length : Int) ≤ v1)))
    (some 1)
    ((A4 p1 v1).bind fun v6 =>
    (In N v4 v6).bind fun v7 =>
    AR ((v7 != 0))
     (some v7)
     (Ew N p0 p1 j1 n1 (wI .i64 (v1 + 1)))))
   (j1 ())
def Ge (N : Nat) (p0 : List Int) (p1 : List Int) : Option Int :=
 Ew N p0 p1 (fun (_ : Unit) =>
  AR ((decide ((p0.length : Int) < (p1.length : Int))))
   (some ((-1)))
   (some 0)) N 0
def Ii (N : Nat) (p0 : Int) (p1 : Int) : Option Int :=
 (FN N p0).bind fun v1 =>
 (FN N p1).bind fun v2 =>
 AR (((wI .i64 (v1 - v2)) != 0))
  (some ((wI .i64 (v1 - v2))))
  ((Gj N p0).bind fun v4 =>
  (Gj N p1).bind fun v5 =>
  (Ge N v4 v5).bind fun v6 =>
  some v6)
def BU (N : Nat) (p0 : List Int) (p1 : Int) (j1 : Unit → Option Int) : Nat → Int → Option Int
 | 0, _ => none
 | n1 + 1, v1 =>
  AR ((decide (v1 < (p0.length : Int))))
   ((A4 p0 v1).bind fun v4 =>
   AR ((p1 == v4))
    (some v1)
    (BU N p0 p1 j1 n1 (wI .i64 (v1 + 1))))
   (j1 ())
def DP (N : Nat) (p0 : List Int) (p1 : Int) : Option Int :=
 BU N p0 p1 (fun (_ : Unit) =>
  some ((-1))) N 0
def Dl (_ : Nat) (p0 : List (List Bool)) : Option ((List (List Bool))) :=
 (Ej ((([] : List (List Bool))).length + p0.length ≤ Dz)).bind fun _ =>
 some ((([] : List (List Bool))) ++ p0)
def CV (_ : Nat) (p0 : List Bool) : Option ((List Bool)) :=
 (Ej ((([] : List Bool)).length + p0.length ≤ Dz)).bind fun _ =>
 some ((([] : List Bool)) ++ p0)
def EA (N : Nat) (v1 : (List (List Bool))) (j3 : ((List (List Bool))) → Option Am) : Nat → ((List (List Bool)) × Int) → Option Am
 | 0, _ => none
 | n3 + 1, v3 =>
  AR ((decide (v3.2 < (v1.length : Int))))
   ((A4 v3.1 v3.2).bind fun v6 =>
   (CV N v6).bind fun v7 =>
   (A4 v3.1 v3.2).bind fun _ =>
   EA N v1 j3 n3 (v3.1.set ((v3.2).toNat) v7, (wI .i64 (v3.2 + 1))))
   (j3 v3.1)
def Dq (N : Nat) (v2 : (List (List Bool))) (j9 : ((List (List Bool))) → Option Am) : Nat → ((List (List Bool)) × Int) → Option Am
 | 0, _ => none
 | n9 + 1, v9 =>
  AR ((decide (v9.2 < (v2.length : Int))))
   ((A4 v9.1 v9.2).bind fun v12 =>
   (CV N v12).bind fun v13 =>
   (A4 v9.1 v9.2).bind fun _ =>
   Dq N v2 j9 n9 (v9.1.set ((v9.2).toNat) v13, (wI .i64 (v9.2 + 1))))
   (j9 v9.1)
def Hm (N : Nat) (p0 : Am) : Option Am :=
 (Dl N p0.fq).bind fun v1 =>
 (Dl N p0.fk).bind fun v2 =>
 EA N v1 (fun (v4 : (List (List Bool))) =>
  Dq N v2 (fun (v10 : (List (List Bool))) =>
   some ((Am.mk p0.ff p0.fg p0.fj p0.fr v4 v10))) N (v2, 0)) N (v1, 0)
def CM (N : Nat) (p1 : List Int) (j3 : Unit → Option (Aa × Int)) : Nat → Int → Option (Aa × Int)
 | 0, _ => none
 | n3 + 1, v3 =>
  AR ((decide (v3 < (p1.length : Int))))
   (Ba (fun (v6 : Bool) =>
    AR v6
     (some ((Aa.mk (([] : List Int)) (([] : List Int)) (([] : List Int)) (([] : List Am))), 1))
     (CM N p1 j3 n3 (wI .i64 (v3 + 1))))
   fun j6 =>
   AR ((decide (0 < v3)))
    ((A4 p1 v3).bind fun v8 =>
    (A4 p1 ((wI .i64 (v3 - 1)))).bind fun v9 =>
    j6 (decide (v8 ≤ v9)))
    (j6 false))
   (j3 ())
def Eh (N : Nat) (p0 : Aa) (p1 : List Int) (j11 : ((List Int) × (List Int) × (List Int)) → Option (Aa × Int)) : Nat → ((List Int) × (List Int) × (List Int) × Int) → Option (Aa × Int)
 | 0, _ => none
 | n11 + 1, v11 =>
  AR ((decide (v11.2.2.2 < (p1.length : Int))))
   ((A4 p1 v11.2.2.2).bind fun v14 =>
   (DY N v14 ((p0.fb.length : Int))).bind fun v15 =>
   AR ((!v15))
    (some ((Aa.mk (([] : List Int)) (([] : List Int)) (([] : List Int)) (([] : List Am))), 4))
    ((A4 p0.fb v14).bind fun v17 =>
    (Ej (v11.1.length + (([v17] : List Int)).length ≤ Dz)).bind fun _ =>
    (A4 p0.fi v14).bind fun v19 =>
    (Ej (v11.2.1.length + (([v19] : List Int)).length ≤ Dz)).bind fun _ =>
    (A4 p0.fm v14).bind fun v21 =>
    (Ej (v11.2.2.1.length + (([v21] : List Int)).length ≤ Dz)).bind fun _ =>
    Eh N p0 p1 j11 n11 (v11.1 ++ (([v17] : List Int)), v11.2.1 ++ (([v19] : List Int)), v11.2.2.1 ++ (([v21] : List Int)), (wI .i64 (v11.2.2.2 + 1)))))
   (j11 (v11.1, v11.2.1, v11.2.2.1))
def CZ (N : Nat) (p0 : Aa) (p1 : List Int) (j23 : ((List Am)) → Option (Aa × Int)) : Nat → ((List Am) × Int) → Option (Aa × Int)
 | 0, _ => none
 | n23 + 1, v23 =>
  AR ((decide (v23.2 < (p0.fc.length : Int))))
   (Ba (fun (v26 : (List Am)) =>
    CZ N p0 p1 j23 n23 (v26, (wI .i64 (v23.2 + 1))))
   fun j26 =>
   (A4 p0.fc v23.2).bind fun v27 =>
   (DP N p1 v27.fg).bind fun v28 =>
   (DP N p1 v27.fj).bind fun v29 =>
   Ba (fun (v30 : Bool) =>
    AR v30
     ((Hm N v27).bind fun v33 =>
     (Ej (v23.1.length + (([(Am.mk v33.ff v28 v29 v33.fr v33.fq v33.fk)] : List Am)).length ≤ Dz)).bind fun _ =>
     j26 (v23.1 ++ (([(Am.mk v33.ff v28 v29 v33.fr v33.fq v33.fk)] : List Am))))
     (j26 v23.1))
   fun j30 =>
   AR ((decide (0 ≤ v28)))
    (j30 (decide (0 ≤ v29)))
    (j30 false))
   (j23 v23.1)
def Gp (N : Nat) (p0 : Aa) (p1 : List Int) : Option (Aa × Int) :=
 (Cq N p0).bind fun v1 =>
 AR ((v1 != 0))
  (some ((Aa.mk (([] : List Int)) (([] : List Int)) (([] : List Int)) (([] : List Am))), v1))
  (CM N p1 (fun (_ : Unit) =>
   Eh N p0 p1 (fun (v12 : (List Int) × (List Int) × (List Int)) =>
    CZ N p0 p1 (fun (v24 : (List Am)) =>
     some ((Aa.mk v12.1 v12.2.1 v12.2.2 v24), 0)) N (([] : List Am), 0)) N (([] : List Int), ([] : List Int), ([] : List Int), 0)) N 0)
def Bh (_ : Nat) (p0 : List Int) : Option ((List Int)) :=
 (Ej ((([] : List Int)).length + p0.length ≤ Dz)).bind fun _ =>
 some ((([] : List Int)) ++ p0)
def Iw (_ : Nat) (p0 : Int) (p1 : Int) : Option (Int × Int) :=
 some ((wI .u32 ((AW .u64 ((wI .u64 ((wI .u64 p0) * (wI .u64 p1)))) 32))), (wI .u32 ((wI .u64 ((wI .u64 p0) * (wI .u64 p1))))))
def IB (_ : Nat) (p0 : Int) (p1 : Int) : Option (Int × Int) :=
 some ((wI .u64 ((wI .u64 ((wI .u64 ((AW .u64 p0 32) * (AW .u64 p1 32))) + (AW .u64 ((wI .u64 ((wI .u64 ((AW .u64 p0 32) * (AM .u64 p1 4294967295))) + (AW .u64 ((wI .u64 ((AM .u64 p0 4294967295) * (AM .u64 p1 4294967295)))) 32)))) 32))) + (AW .u64 ((wI .u64 ((AM .u64 ((wI .u64 ((wI .u64 ((AW .u64 p0 32) * (AM .u64 p1 4294967295))) + (AW .u64 ((wI .u64 ((AM .u64 p0 4294967295) * (AM .u64 p1 4294967295)))) 32)))) 4294967295) + (wI .u64 ((AM .u64 p0 4294967295) * (AW .u64 p1 32)))))) 32))), (wI .u64 (p0 * p1)))
def Jp (N : Nat) (p0 : Int) (p1 : Int) : Option (Int × Int) :=
 AR false
  ((Iw N ((wI .u32 p0)) ((wI .u32 p1))).bind fun v2 =>
  some ((wI .u64 v2.1), (wI .u64 v2.2)))
  ((IB N p0 p1).bind fun v3 =>
  some (v3.1, v3.2))
def EL (N : Nat) (j9 : ((List Int)) → Option ((List Int))) : Nat → ((List Int) × Int) → Option ((List Int))
 | 0, _ => none
 | n9 + 1, v9 =>
  AR ((decide (v9.2 < (v9.1.length : Int))))
   ((Ej ((0 : Int) ≤ v9.2 ∧ (v9.2).toNat ≤ v9.1.length ∧ v9.1.length ≤ v9.1.length)).bind fun _ =>
   (Ej ((0 : Int) ≤ v9.2 ∧ 0 ≤ (v9.2).toNat ∧ (v9.2).toNat ≤ v9.1.length)).bind fun _ =>
   EL N j9 n9 (Kd v9.1 ((v9.2).toNat) ((((v9.1.drop 0).take ((v9.2).toNat))).take (y8 (((v9.1.drop 0).take ((v9.2).toNat))).length ((v9.1.length - (v9.2).toNat)))), (wI .i64 (v9.2 + (((y8 (((v9.1.drop 0).take ((v9.2).toNat))).length ((v9.1.length - (v9.2).toNat))) : Nat) : Int)))))
   (j9 v9.1)
def Fj (N : Nat) (p0 : List Int) (p1 : Int) : Option ((List Int)) :=
 Ba (fun (_ : Unit) =>
  (Jp N ((wI .u64 ((p0.length : Int)))) ((wI .u64 p1))).bind fun v3 =>
  Ba (fun (_ : Unit) =>
   (Ej ((0 : Int) ≤ (wI .i64 v3.2) ∧ (wI .i64 v3.2) ≤ (wI .i64 v3.2) ∧ (wI .i64 v3.2) ≤ (Dz : Int))).bind fun _ =>
   EL N (fun (v10 : (List Int)) =>
    some v10) N (Kd (zG ((wI .i64 v3.2)).toNat ((0 : Int))) 0 (p0.take (y8 p0.length ((zG ((wI .i64 v3.2)).toNat ((0 : Int))).length))), (((y8 p0.length ((zG ((wI .i64 v3.2)).toNat ((0 : Int))).length)) : Nat) : Int)))
  fun j4 =>
  Ba (fun (v5 : Bool) =>
   AR v5
    (none)
    (j4 ()))
  fun j5 =>
  AR ((decide (0 < v3.1)))
   (j5 true)
   (j5 (decide (9223372036854775807 < v3.2))))
 fun j1 =>
 AR ((decide (p1 < 0)))
  (none)
  (j1 ())
def GC (_ : Nat) (p0 : Am) : Option Bool :=
 Ba (fun (v1 : Bool) =>
  some v1)
 fun j1 =>
 AR ((p0.ff == 3))
  (j1 true)
  (j1 (p0.ff == 4))
def E0 (N : Nat) (p0 : Aa) (j6 : ((List Int)) → Option (Ad × Int)) : Nat → ((List Int) × Int) → Option (Ad × Int)
 | 0, _ => none
 | n6 + 1, v6 =>
  AR ((decide (v6.2 < (p0.fc.length : Int))))
   (Ba (fun (v9 : (List Int)) =>
    E0 N p0 j6 n6 (v9, (wI .i64 (v6.2 + 1))))
   fun j9 =>
   (A4 p0.fc v6.2).bind fun v10 =>
   (GC N v10).bind fun v11 =>
   AR v11
    ((A4 p0.fi v10.fg).bind fun v13 =>
    (Ej (0 ≤ v13)).bind fun _ =>
    (A4 v6.1 v6.2).bind fun _ =>
    j9 (v6.1.set ((v6.2).toNat) ((CX .u8 1 v13))))
    (j9 v6.1))
   (j6 v6.1)
def I1 (N : Nat) (p0 : Aa) : Option (Ad × Int) :=
 (Cq N p0).bind fun v1 =>
 AR ((v1 != 0))
  (some ((Ad.mk (([] : List Int)) (([] : List Int)) (([] : List Int))), v1))
  ((Bh N p0.fi).bind fun v3 =>
  (Fj N (([(-1)] : List Int)) ((p0.fi.length : Int))).bind fun v4 =>
  (Ej ((0 : Int) ≤ (p0.fc.length : Int) ∧ (p0.fc.length : Int) ≤ (p0.fc.length : Int) ∧ (p0.fc.length : Int) ≤ (Dz : Int))).bind fun _ =>
  E0 N p0 (fun (v7 : (List Int)) =>
   some ((Ad.mk v3 v4 v7), 0)) N (zG ((p0.fc.length : Int)).toNat ((0 : Int)), 0))
def FY (_ : Nat) (p0 : Ad) (p1 : Int) : Option Int :=
 (A4 p0.fd p1).bind fun v1 =>
 (Ej (0 ≤ v1)).bind fun _ =>
 Ba (fun (v3 : Int) =>
  some v3)
 fun j3 =>
 (A4 p0.fa p1).bind fun v4 =>
 AR ((decide (0 ≤ v4)))
  ((A4 p0.fa p1).bind fun v6 =>
  (Ej (0 ≤ v6)).bind fun _ =>
  j3 (QE .u8 ((CX .u8 1 v1)) ((CX .u8 1 v6))))
  (j3 (CX .u8 1 v1))
def E1 (N : Nat) (p0 : Aa) (p1 : Ad) (j7 : Unit → Option Int) : Nat → Int → Option Int
 | 0, _ => none
 | n7 + 1, v7 =>
  AR ((decide (v7 < (p0.fb.length : Int))))
   ((A4 p0.fb v7).bind fun v10 =>
   Ba (fun (v11 : Bool) =>
    AR v11
     (some 7)
     ((A4 p1.fd v7).bind fun v20 =>
     (A4 p1.fa v7).bind fun v21 =>
     AR ((v20 == v21))
      (some 1)
      (E1 N p0 p1 j7 n7 (wI .i64 (v7 + 1)))))
   fun j11 =>
   (A4 p1.fd v7).bind fun v12 =>
   AR ((decide (v12 < 0)))
    (j11 true)
    ((A4 p1.fd v7).bind fun v14 =>
    AR ((decide (v10 ≤ v14)))
     (j11 true)
     ((A4 p1.fa v7).bind fun v16 =>
     AR ((decide (v16 < (-1))))
      (j11 true)
      ((A4 p1.fa v7).bind fun v18 =>
      j11 (decide (v10 ≤ v18))))))
   (j7 ())
def EH (N : Nat) (p0 : Aa) (p1 : Ad) (j23 : Unit → Option Int) : Nat → Int → Option Int
 | 0, _ => none
 | n23 + 1, v23 =>
  AR ((decide (v23 < (p0.fc.length : Int))))
   ((A4 p0.fc v23).bind fun v26 =>
   Ba (fun (v27 : Int × Int) =>
    Ba (fun (v33 : Bool) =>
     AR v33
      (some 1)
      (EH N p0 p1 j23 n23 (wI .i64 (v23 + 1))))
    fun j33 =>
    (A4 p1.fe v23).bind fun v34 =>
    AR (((Dy .u8 v27.1 v34) != 0))
     (j33 true)
     ((A4 p1.fe v23).bind fun v36 =>
     j33 ((Dy .u8 v36 v27.2) != 0)))
   fun j27 =>
   (GC N v26).bind fun v28 =>
   AR v28
    ((FY N p1 v26.fg).bind fun v30 =>
    (A4 p0.fb v26.fg).bind fun v31 =>
    (Ej (0 ≤ v31)).bind fun _ =>
    j27 (v30, (wI .u8 ((CX .u8 1 v31) - 1))))
    (j27 (0, 0)))
   (j23 ())
def Gt (N : Nat) (p0 : Aa) (p1 : Ad) : Option Int :=
 (Cq N p0).bind fun v1 =>
 AR ((v1 != 0))
  (some v1)
  (Ba (fun (v3 : Bool) =>
   AR v3
    (some 6)
    (E1 N p0 p1 (fun (_ : Unit) =>
     EH N p0 p1 (fun (_ : Unit) =>
      some 0) N 0) N 0))
  fun j3 =>
  AR (((p1.fd.length : Int) != (p0.fb.length : Int)))
   (j3 true)
   (AR (((p1.fa.length : Int) != (p0.fb.length : Int)))
    (j3 true)
    (j3 ((p1.fe.length : Int) != (p0.fc.length : Int)))))
def Cb (_ : Nat) (p0 : List Int) : Option ((List Int)) :=
 (Ej ((([] : List Int)).length + p0.length ≤ Dz)).bind fun _ =>
 some ((([] : List Int)) ++ p0)
def EI (N : Nat) (p1 : Ad) (j3 : ((List Int)) → Option ((List Ad) × Int)) : Nat → ((List Int) × Int) → Option ((List Ad) × Int)
 | 0, _ => none
 | n3 + 1, v3 =>
  AR ((decide (v3.2 < (p1.fa.length : Int))))
   (Ba (fun (v6 : (List Int)) =>
    EI N p1 j3 n3 (v6, (wI .i64 (v3.2 + 1))))
   fun j6 =>
   (A4 p1.fa v3.2).bind fun v7 =>
   AR ((decide (0 ≤ v7)))
    ((Ej (v3.1.length + (([v3.2] : List Int)).length ≤ Dz)).bind fun _ =>
    j6 (v3.1 ++ (([v3.2] : List Int))))
    (j6 v3.1))
   (j3 v3.1)
def DI (N : Nat) (v4 : (List Int)) (v11 : (List Ad) × Int) (j17 : ((List Int)) → Option ((List Ad) × Int)) : Nat → ((List Int) × Int) → Option ((List Ad) × Int)
 | 0, _ => none
 | n17 + 1, v17 =>
  AR ((decide (v17.2 < (v4.length : Int))))
   (Ba (fun (v20 : (List Int)) =>
    DI N v4 v11 j17 n17 (v20, (wI .i64 (v17.2 + 1))))
   fun j20 =>
   (A4 v4 v17.2).bind fun v21 =>
   (Ej (0 ≤ v17.2)).bind fun _ =>
   AR (((AM .i64 ((AW .i64 v11.2 v17.2)) 1) == 1))
    ((A4 v17.1 v21).bind fun _ =>
    j20 (v17.1.set ((v21).toNat) ((-1))))
    (j20 v17.1))
   (j17 v17.1)
def DH (N : Nat) (p1 : Ad) (v4 : (List Int)) (j11 : ((List Ad)) → Option ((List Ad) × Int)) : Nat → ((List Ad) × Int) → Option ((List Ad) × Int)
 | 0, _ => none
 | n11 + 1, v11 =>
  AR ((decide (v11.2 < (CX .i64 1 ((v4.length : Int))))))
   ((Bh N p1.fd).bind fun v14 =>
   (Bh N p1.fa).bind fun v15 =>
   (Cb N p1.fe).bind fun v16 =>
   DI N v4 v11 (fun (v18 : (List Int)) =>
    (Ej (v11.1.length + (([(Ad.mk v14 v18 v16)] : List Ad)).length ≤ Dz)).bind fun _ =>
    DH N p1 v4 j11 n11 (v11.1 ++ (([(Ad.mk v14 v18 v16)] : List Ad)), (wI .i64 (v11.2 + 1)))) N (v15, 0))
   (j11 v11.1)
def Ig (N : Nat) (p0 : Aa) (p1 : Ad) : Option ((List Ad) × Int) :=
 (Gt N p0 p1).bind fun v1 =>
 AR ((v1 != 0))
  (some (([] : List Ad), v1))
  (EI N p1 (fun (v4 : (List Int)) =>
   (Ej (0 ≤ (v4.length : Int))).bind fun _ =>
   DH N p1 v4 (fun (v12 : (List Ad)) =>
    some (v12, 0)) N (([] : List Ad), 0)) N (([] : List Int), 0))
def Ck (N : Nat) (v1 : (List Ap) × Int) (v4 : Am) (v6 : Int) (v11 : (List Ap) × Int) (v17 : List Bool) (j18 : ((List Ap) × Bool) → Option ((List Ap))) : Nat → ((List Ap) × Bool × Int) → Option ((List Ap))
 | 0, _ => none
 | n18 + 1, v18 =>
  AR ((decide (v18.2.2 < (v17.length : Int))))
   (Ba (fun (v21 : (List Ap) × Bool) =>
    Ck N v1 v4 v6 v11 v17 j18 n18 (v21.1, v21.2, (wI .i64 (v18.2.2 + 1))))
   fun j21 =>
   (A4 v17 v18.2.2).bind fun v22 =>
   (Ej (0 ≤ v18.2.2)).bind fun _ =>
   AR (((AM .u8 ((AW .u8 v6 v18.2.2)) 1) == 0))
    (j21 (v18.1, v18.2.1))
    (Ba (fun (v25 : Bool) =>
     Ba (fun (v27 : Bool) =>
      AR v27
       ((Ej (v18.1.length + (([(Ap.mk v1.2 v11.2 v18.2.2)] : List Ap)).length ≤ Dz)).bind fun _ =>
       j21 (v18.1 ++ (([(Ap.mk v1.2 v11.2 v18.2.2)] : List Ap)), v25))
       (j21 (v18.1, v25)))
     fun j27 =>
     AR ((!v22))
      (j27 (!v4.fr))
      (j27 false))
    fun j25 =>
    AR v18.2.1
     (j25 true)
     (j25 v22)))
   (j18 (v18.1, v18.2.1))
def CH (N : Nat) (v1 : (List Ap) × Int) (v4 : Am) (v6 : Int) (v7 : Int) (j11 : ((List Ap)) → Option ((List Ap))) : Nat → ((List Ap) × Int) → Option ((List Ap))
 | 0, _ => none
 | n11 + 1, v11 =>
  AR ((decide (v11.2 < (v4.fq.length : Int))))
   (Ba (fun (v14 : (List Ap)) =>
    CH N v1 v4 v6 v7 j11 n11 (v14, (wI .i64 (v11.2 + 1))))
   fun j14 =>
   (Ej (0 ≤ v11.2)).bind fun _ =>
   AR (((AM .u8 ((AW .u8 v7 v11.2)) 1) == 0))
    (j14 v11.1)
    ((A4 v4.fq v11.2).bind fun v17 =>
    Ck N v1 v4 v6 v11 v17 (fun (v19 : (List Ap) × Bool) =>
     Ba (fun (v31 : Bool) =>
      AR v31
       ((Ej (v19.1.length + (([(Ap.mk v1.2 v11.2 ((-1)))] : List Ap)).length ≤ Dz)).bind fun _ =>
       j14 (v19.1 ++ (([(Ap.mk v1.2 v11.2 ((-1)))] : List Ap))))
       (j14 v19.1))
     fun j31 =>
     AR v4.fr
      (j31 (!v19.2))
      (j31 false)) N (v11.1, false, 0)))
   (j11 v11.1)
def Ec (N : Nat) (p0 : Aa) (p1 : Ad) (j1 : ((List Ap)) → Option ((List Ap))) : Nat → ((List Ap) × Int) → Option ((List Ap))
 | 0, _ => none
 | n1 + 1, v1 =>
  AR ((decide (v1.2 < (p0.fc.length : Int))))
   ((A4 p0.fc v1.2).bind fun v4 =>
   (FY N p1 v4.fg).bind fun v5 =>
   (FY N p1 v4.fj).bind fun v6 =>
   Ba (fun (v7 : Int) =>
    CH N v1 v4 v6 v7 (fun (v12 : (List Ap)) =>
     Ec N p0 p1 j1 n1 (v12, (wI .i64 (v1.2 + 1)))) N (v1.1, 0))
   fun j7 =>
   (GC N v4).bind fun v8 =>
   AR v8
    ((A4 p1.fe v1.2).bind fun v10 =>
    j7 v10)
    (j7 v5))
   (j1 v1.1)
def GK (N : Nat) (p0 : Aa) (p1 : Ad) : Option ((List Ap)) :=
 Ec N p0 p1 (fun (v2 : (List Ap)) =>
  some v2) N (([] : List Ap), 0)
def FJ (N : Nat) (p0 : Aa) (v1 : (List Ad) × Int) (j3 : Unit → Option (Ad × Ap × Int)) : Nat → Int → Option (Ad × Ap × Int)
 | 0, _ => none
 | n3 + 1, v3 =>
  AR ((decide (v3 < (v1.1.length : Int))))
   ((A4 v1.1 v3).bind fun v6 =>
   (GK N p0 v6).bind fun v7 =>
   AR ((decide (0 < (v7.length : Int))))
    ((A4 v7 0).bind fun v9 =>
    some (v6, v9, 0))
    (FJ N p0 v1 j3 n3 (wI .i64 (v3 + 1))))
   (j3 ())
def I2 (N : Nat) (p0 : Aa) (p1 : Ad) : Option (Ad × Ap × Int) :=
 (Ig N p0 p1).bind fun v1 =>
 AR ((v1.2 != 0))
  (some ((Ad.mk (([] : List Int)) (([] : List Int)) (([] : List Int))), (Ap.mk 0 0 0), v1.2))
  (FJ N p0 v1 (fun (_ : Unit) =>
   some ((Ad.mk (([] : List Int)) (([] : List Int)) (([] : List Int))), (Ap.mk 0 0 0), 15)) N 0)
def Hp (N : Nat) (p0 : Aa) (p1 : Ad) : Option (Bool × Int) :=
 (I2 N p0 p1).bind fun v1 =>
 AR ((v1.2.2 == 0))
  (some (false, 0))
  (AR ((v1.2.2 == 15))
   (some (true, 0))
   (some (false, v1.2.2)))
def Fs (N : Nat) (p0 : Ad) (j2 : ((List Int)) → Option ByteArray) : Nat → ((List Int) × Int) → Option ByteArray
 | 0, _ => none
 | n2 + 1, v2 =>
  AR ((decide (v2.2 < (p0.fd.length : Int))))
   ((A4 p0.fd v2.2).bind fun v5 =>
   (A4 p0.fa v2.2).bind fun v6 =>
   (Ej (v2.1.length + (([(wI .u8 v5), (wI .u8 ((wI .i64 (v6 + 1))))] : List Int)).length ≤ Dz)).bind fun _ =>
   Fs N p0 j2 n2 (v2.1 ++ (([(wI .u8 v5), (wI .u8 ((wI .i64 (v6 + 1))))] : List Int)), (wI .i64 (v2.2 + 1))))
   (j2 v2.1)
def Es (N : Nat) (p0 : Ad) (j8 : ((List Int)) → Option ByteArray) : Nat → ((List Int) × Int) → Option ByteArray
 | 0, _ => none
 | n8 + 1, v8 =>
  AR ((decide (v8.2 < (p0.fe.length : Int))))
   ((A4 p0.fe v8.2).bind fun v11 =>
   (Ej (v8.1.length + (([v11] : List Int)).length ≤ Dz)).bind fun _ =>
   Es N p0 j8 n8 (v8.1 ++ (([v11] : List Int)), (wI .i64 (v8.2 + 1))))
   (j8 v8.1)
def IE (N : Nat) (p0 : Ad) : Option ByteArray :=
 (Ej ((0 : Int) ≤ 0 ∧ 0 ≤ (wI .i64 ((wI .i64 (2 * (p0.fd.length : Int))) + (p0.fe.length : Int))) ∧ (wI .i64 ((wI .i64 (2 * (p0.fd.length : Int))) + (p0.fe.length : Int))) ≤ (Dz : Int))).bind fun _ =>
 Fs N p0 (fun (v3 : (List Int)) =>
  Es N p0 (fun (v9 : (List Int)) =>
   some ((C2 v9))) N (v3, 0)) N (zG (0 : Int).toNat ((0 : Int)), 0)
def FA (N : Nat) (v1 : (List Ae) × Int) (v4 : Int) (j5 : ((List Ae)) → Option ((List Ae))) : Nat → ((List Ae) × Int) → Option ((List Ae))
 | 0, _ => none
 | n5 + 1, v5 =>
  AR ((decide (v5.2 < v4)))
   ((Ej (v5.1.length + (([(Ae.mk 1 v1.2 v5.2)] : List Ae)).length ≤ Dz)).bind fun _ =>
   FA N v1 v4 j5 n5 (v5.1 ++ (([(Ae.mk 1 v1.2 v5.2)] : List Ae)), (wI .i64 (v5.2 + 1))))
   (j5 v5.1)
def DS (N : Nat) (p0 : Aa) (j1 : ((List Ae)) → Option ((List Ae))) : Nat → ((List Ae) × Int) → Option ((List Ae))
 | 0, _ => none
 | n1 + 1, v1 =>
  AR ((decide (v1.2 < (p0.fb.length : Int))))
   ((A4 p0.fb v1.2).bind fun v4 =>
   FA N v1 v4 (fun (v6 : (List Ae)) =>
    DS N p0 j1 n1 (v6, (wI .i64 (v1.2 + 1)))) N (v1.1, 0))
   (j1 v1.1)
def CE (N : Nat) (p0 : Aa) (j9 : ((List Ae)) → Option ((List Ae))) : Nat → ((List Ae) × Int) → Option ((List Ae))
 | 0, _ => none
 | n9 + 1, v9 =>
  AR ((decide (v9.2 < (p0.fb.length : Int))))
   ((Ej (v9.1.length + (([(Ae.mk 2 v9.2 0)] : List Ae)).length ≤ Dz)).bind fun _ =>
   CE N p0 j9 n9 (v9.1 ++ (([(Ae.mk 2 v9.2 0)] : List Ae)), (wI .i64 (v9.2 + 1))))
   (j9 v9.1)
def BC (N : Nat) (p0 : Aa) (j13 : ((List Ae)) → Option ((List Ae))) : Nat → ((List Ae) × Int) → Option ((List Ae))
 | 0, _ => none
 | n13 + 1, v13 =>
  AR ((decide (v13.2 < (p0.fc.length : Int))))
   ((Ej (v13.1.length + (([(Ae.mk 3 v13.2 0)] : List Ae)).length ≤ Dz)).bind fun _ =>
   BC N p0 j13 n13 (v13.1 ++ (([(Ae.mk 3 v13.2 0)] : List Ae)), (wI .i64 (v13.2 + 1))))
   (j13 v13.1)
def JD (N : Nat) (p0 : Aa) : Option ((List Ae)) :=
 DS N p0 (fun (v2 : (List Ae)) =>
  CE N p0 (fun (v10 : (List Ae)) =>
   BC N p0 (fun (v14 : (List Ae)) =>
    some v14) N (v10, 0)) N (v2, 0)) N (([] : List Ae), 0)
def Hz (N : Nat) (p0 : Ad) : Option Ad :=
 (Bh N p0.fd).bind fun v1 =>
 (Bh N p0.fa).bind fun v2 =>
 (Cb N p0.fe).bind fun v3 =>
 some ((Ad.mk v1 v2 v3))
def GS (_ : Nat) (p0 : Am) : Option Bool :=
 Ba (fun (v1 : Bool) =>
  some v1)
 fun j1 =>
 AR ((p0.ff == 3))
  (j1 true)
  (j1 (p0.ff == 4))
def EK (N : Nat) (p0 : Aa) (p2 : Ae) (j7 : ((List Int)) → Option (Bool × (List Int) × (List Int))) : Nat → ((List Int) × Int) → Option (Bool × (List Int) × (List Int))
 | 0, _ => none
 | n7 + 1, v7 =>
  AR ((decide (v7.2 < (p0.fc.length : Int))))
   (Ba (fun (v10 : (List Int)) =>
    EK N p0 p2 j7 n7 (v10, (wI .i64 (v7.2 + 1))))
   fun j10 =>
   (A4 p0.fc v7.2).bind fun v11 =>
   Ba (fun (v12 : Bool) =>
    AR v12
     ((A4 v7.1 v7.2).bind fun v16 =>
     (Ej (0 ≤ p2.fo)).bind fun _ =>
     (A4 v7.1 v7.2).bind fun _ =>
     j10 (v7.1.set ((v7.2).toNat) ((QE .u8 v16 ((CX .u8 1 p2.fo))))))
     (j10 v7.1))
   fun j12 =>
   AR ((v11.fg == p2.fh))
    ((GS N v11).bind fun v14 =>
    j12 v14)
    (j12 false))
   (j7 v7.1)
def Jv (N : Nat) (p0 : Aa) (p1 : Ad) (p2 : Ae) : Option (Bool × (List Int) × (List Int)) :=
 Ba (fun (v1 : Bool) =>
  AR v1
   (some (false, p1.fa, p1.fe))
   ((A4 p1.fa p2.fh).bind fun _ =>
   EK N p0 p2 (fun (v8 : (List Int)) =>
    some (true, p1.fa.set ((p2.fh).toNat) p2.fo, v8)) N (p1.fe, 0)))
 fun j1 =>
 (A4 p1.fa p2.fh).bind fun v2 =>
 AR ((decide (0 ≤ v2)))
  (j1 true)
  ((A4 p1.fd p2.fh).bind fun v4 =>
  j1 (v4 == p2.fo))
def Hl (_ : Nat) (p0 : Ad) (p1 : Int) : Option Int :=
 (A4 p0.fd p1).bind fun v1 =>
 (Ej (0 ≤ v1)).bind fun _ =>
 Ba (fun (v3 : Int) =>
  some v3)
 fun j3 =>
 (A4 p0.fa p1).bind fun v4 =>
 AR ((decide (0 ≤ v4)))
  ((A4 p0.fa p1).bind fun v6 =>
  (Ej (0 ≤ v6)).bind fun _ =>
  j3 (QE .u8 ((CX .u8 1 v1)) ((CX .u8 1 v6))))
  (j3 (CX .u8 1 v1))
def DJ (_ : Nat) (p0 : Int) : Option Int :=
 (QM ((⟨⟨(yM (yM [8, 0, 1, 0, 2, 0, 1, 0, 3, 0, 1, 0, 2, 0, 1, 0, 4, 0, 1, 0, 2, 0, 1, 0, 3, 0, 1, 0, 2, 0, 1, 0, 5, 0, 1, 0, 2, 0, 1, 0, 3, 0, 1, 0, 2, 0, 1, 0, 4, 0, 1, 0, 2, 0, 1, 0, 3, 0, 1, 0, 2, 0, 1, 0] [6, 0, 1, 0, 2, 0, 1, 0, 3, 0, 1, 0, 2, 0, 1, 0, 4, 0, 1, 0, 2, 0, 1, 0, 3, 0, 1, 0, 2, 0, 1, 0, 5, 0, 1, 0, 2, 0, 1, 0, 3, 0, 1, 0, 2, 0, 1, 0, 4, 0, 1, 0, 2, 0, 1, 0, 3, 0, 1, 0, 2, 0, 1, 0]) (yM [7, 0, 1, 0, 2, 0, 1, 0, 3, 0, 1, 0, 2, 0, 1, 0, 4, 0, 1, 0, 2, 0, 1, 0, 3, 0, 1, 0, 2, 0, 1, 0, 5, 0, 1, 0, 2, 0, 1, 0, 3, 0, 1, 0, 2, 0, 1, 0, 4, 0, 1, 0, 2, 0, 1, 0, 3, 0, 1, 0, 2, 0, 1, 0] [6, 0, 1, 0, 2, 0, 1, 0, 3, 0, 1, 0, 2, 0, 1, 0, 4, 0, 1, 0, 2, 0, 1, 0, 3, 0, 1, 0, 2, 0, 1, 0, 5, 0, 1, 0, 2, 0, 1, 0, 3, 0, 1, 0, 2, 0, 1, 0, 4, 0, 1, 0, 2, 0, 1, 0, 3, 0, 1, 0, 2, 0, 1, 0]))⟩⟩ : ByteArray)) p0).bind fun v1 =>
 some ((wI .i64 v1))
def Ei (N : Nat) (p0 : Am) (p2 : Int) (j1 : Unit → Option Bool) : Nat → Int → Option Bool
 | 0, _ => none
 | n1 + 1, v1 =>
  AR ((v1 != 0))
   ((DJ N v1).bind fun v4 =>
   (A4 p0.fk v4).bind fun v5 =>
   (A4 v5 p2).bind fun v6 =>
   AR ((!v6))
    (some false)
    (Ei N p0 p2 j1 n1 (AM .u8 v1 ((wI .u8 (v1 - 1))))))
   (j1 ())
def Hc (N : Nat) (p0 : Am) (p1 : Int) (p2 : Int) : Option Bool :=
 Ei N p0 p2 (fun (_ : Unit) =>
  some true) N p1
def H3 (N : Nat) (p0 : Aa) (p1 : Ad) (p2 : Int) : Option (Bool × (List Int)) :=
 (A4 p0.fc p2).bind fun v1 =>
 (GS N v1).bind fun v2 =>
 AR ((!v2))
  (some (false, p1.fe))
  ((Hl N p1 v1.fg).bind fun v4 =>
  (A4 p1.fe p2).bind fun v5 =>
  Ba (fun (v6 : Bool) =>
   AR v6
    (some (false, p1.fe))
    ((A4 p1.fe p2).bind fun _ =>
    some (true, p1.fe.set ((p2).toNat) v4)))
  fun j6 =>
  (A4 p1.fe p2).bind fun v7 =>
  AR ((v7 == v4))
   (j6 true)
   (AR ((v1.ff == 4))
    ((A4 p1.fd v1.fg).bind fun v10 =>
    (Hc N v1 ((Dy .u8 v5 v4)) v10).bind fun v11 =>
    j6 (!v11))
    (j6 false)))
def GF (N : Nat) (p0 : Aa) (p1 : Ad) (p2 : Ae) : Option (Ad × Bool) :=
 (Hz N p1).bind fun v1 =>
 AR ((p2.ff == 1))
  ((Jv N p0 v1 p2).bind fun v3 =>
  some ((Ad.mk v1.fd v3.2.1 v3.2.2), v3.1))
  (AR ((p2.ff == 3))
   ((H3 N p0 v1 p2.fh).bind fun v5 =>
   some ((Ad.mk v1.fd v1.fa v5.2), v5.1))
   ((A4 v1.fa p2.fh).bind fun v6 =>
   AR ((decide (v6 < 0)))
    (some (v1, false))
    ((A4 v1.fa p2.fh).bind fun _ =>
    Ba (fun (v9 : (List Int)) =>
     some ((Ad.mk v9 (v1.fa.set ((p2.fh).toNat) ((-1))) v1.fe), true))
    fun j9 =>
    AR ((p2.ff == 2))
     ((A4 v1.fd p2.fh).bind fun _ =>
     j9 (v1.fd.set ((p2.fh).toNat) v6))
     (j9 v1.fd))))
def Eg (N : Nat) (p0 : Ae) (p1 : List Int) (p2 : List Int) (p3 : List Int) (p4 : List Am) (p5 : List Int) (p6 : List Int) (p7 : List Int) : Option Bool :=
 (GF N ((Aa.mk p1 p2 p3 p4)) ((Ad.mk p5 p6 p7)) p0).bind fun v1 =>
 some ((!v1.2))
def Bc (N : Nat) (p0 : List Ae) (p1 : Ae → Option Bool) (j1 : Unit → Option Int) : Nat → Int → Option Int
 | 0, _ => none
 | n1 + 1, v1 =>
  AR ((decide (v1 < (p0.length : Int))))
   ((A4 p0 v1).bind fun v4 =>
   (p1 v4).bind fun v5 =>
   AR v5
    (some v1)
    (Bc N p0 p1 j1 n1 (wI .i64 (v1 + 1))))
   (j1 ())
def B0 (N : Nat) (p0 : List Ae) (p1 : Ae → Option Bool) : Option Int :=
 Bc N p0 p1 (fun (_ : Unit) =>
  some ((-1))) N 0
def AZ (N : Nat) (p1 : Ae → Option Bool) (j3 : ((List Ae) × Int) → Option (Nat × (List Ae))) : Nat → ((List Ae) × Int × Int) → Option (Nat × (List Ae))
 | 0, _ => none
 | n3 + 1, v3 =>
  AR ((decide (v3.2.2 < (v3.1.length : Int))))
   (Ba (fun (v6 : (List Ae) × Int) =>
    AZ N p1 j3 n3 (v6.1, v6.2, (wI .i64 (v3.2.2 + 1))))
   fun j6 =>
   (A4 v3.1 v3.2.2).bind fun v7 =>
   (p1 v7).bind fun v8 =>
   AR ((!v8))
    ((A4 v3.1 v3.2.1).bind fun _ =>
    j6 (v3.1.set ((v3.2.1).toNat) v7, (wI .i64 (v3.2.1 + 1))))
    (j6 (v3.1, v3.2.1)))
   (j3 (v3.1, v3.2.1))
def BW (N : Nat) (p0 : List Ae) (p1 : Ae → Option Bool) : Option (Nat × (List Ae)) :=
 (B0 N p0 p1).bind fun v1 =>
 AR ((v1 == (-1)))
  (some (p0.length, p0))
  (AZ N p1 (fun (v4 : (List Ae) × Int) =>
   (Ej ((0 : Int) ≤ v4.2 ∧ (v4.2).toNat ≤ v4.1.length ∧ v4.1.length ≤ v4.1.length)).bind fun _ =>
   (Ej ((0 : Int) ≤ v4.2 ∧ 0 ≤ (v4.2).toNat ∧ (v4.2).toNat ≤ (Kd v4.1 ((v4.2).toNat) (zG ((v4.1.length - (v4.2).toNat)) ((Ae.mk 0 0 0)))).length)).bind fun _ =>
   some ((v4.2).toNat, Kd v4.1 ((v4.2).toNat) (zG ((v4.1.length - (v4.2).toNat)) ((Ae.mk 0 0 0))))) N (p0, v1, (wI .i64 (v1 + 1))))
def Hj (N : Nat) (p0 : Aa) (p1 : Ad) : Option ((List Ae) × Int) :=
 (Gt N p0 p1).bind fun v1 =>
 AR ((v1 != 0))
  (some (([] : List Ae), v1))
  ((JD N p0).bind fun v3 =>
  (BW N v3 ((fun (x : Ae) => Eg N x p0.fb p0.fi p0.fm p0.fc p1.fd p1.fa p1.fe))).bind fun v4 =>
  (Ej (v4.1 ≤ v4.2.length)).bind fun _ =>
  some (v4.2.take v4.1, 0))
def Ie (_ : Nat) (p0 : Ae) : Option Bool :=
 Ba (fun (v1 : Bool) =>
  AR v1
   (some false)
   (Ba (fun (v5 : Bool) =>
    some v5)
   fun j5 =>
   AR ((p0.ff == 1))
    (j5 true)
    (j5 (p0.fo == 0))))
 fun j1 =>
 AR ((decide ((WG p0.fh p0.fo) < 0)))
  (j1 true)
  (AR ((decide (p0.ff < 1)))
   (j1 true)
   (j1 (decide (4 < p0.ff))))
def HE (_ : Nat) (p0 : Aa) (p1 : Ae) : Option Bool :=
 AR ((p1.ff == 3))
  (some ((decide (p1.fh < (p0.fc.length : Int)))))
  (Ba (fun (v2 : Bool) =>
   some v2)
  fun j2 =>
  AR ((decide (p1.fh < (p0.fb.length : Int))))
   (AR ((p1.ff != 1))
    (j2 true)
    ((A4 p0.fb p1.fh).bind fun v5 =>
    j2 (decide (p1.fo < v5))))
   (j2 false))
def H5 (N : Nat) (p0 : Aa) (p1 : Ad) (p2 : Ae) : Option (Ad × Int) :=
 (Ie N p2).bind fun v1 =>
 AR ((!v1))
  (some ((Ad.mk (([] : List Int)) (([] : List Int)) (([] : List Int))), 1))
  ((HE N p0 p2).bind fun v3 =>
  AR ((!v3))
   (some ((Ad.mk (([] : List Int)) (([] : List Int)) (([] : List Int))), 4))
   ((GF N p0 p1 p2).bind fun v5 =>
   AR ((!v5.2))
    (some ((Ad.mk (([] : List Int)) (([] : List Int)) (([] : List Int))), 11))
    (some (v5.1, 0))))
def Ia (N : Nat) (p0 : Aa) (p1 : Ad) (p2 : Ae) : Option (Ad × Int) :=
 (Gt N p0 p1).bind fun v1 =>
 AR ((v1 != 0))
  (some ((Ad.mk (([] : List Int)) (([] : List Int)) (([] : List Int))), v1))
  ((H5 N p0 p1 p2).bind fun v3 =>
  some (v3.1, v3.2))
def CI (N : Nat) (p0 : Aa) (v2 : (List AG) × (List (ByteArray × Int)) × Int) (v6 : (List Ae) × Int) (j8 : ((List AG) × (List (ByteArray × Int))) → Option ((List AG) × Int)) : Nat → ((List AG) × (List (ByteArray × Int)) × Int) → Option ((List AG) × Int)
 | 0, _ => none
 | n8 + 1, v8 =>
  AR ((decide (v8.2.2 < (v6.1.length : Int))))
   ((A4 v6.1 v8.2.2).bind fun v11 =>
   (A4 v8.1 v2.2.2).bind fun v12 =>
   (Ia N p0 ((Ad.mk v12.fp.fd v12.fp.fa v12.fp.fe)) v11).bind fun v13 =>
   AR ((v13.2 != 0))
    (some (([] : List AG), v13.2))
    ((IE N v13.1).bind fun v15 =>
    Ba (fun (v16 : (List AG) × (List (ByteArray × Int)) × Int) =>
     Ba (fun (v24 : (List AG)) =>
      AR ((decide (20000 < (v24.length : Int))))
       (some (([] : List AG), 3))
       (CI N p0 v2 v6 j8 n8 (v24, v16.2.1, (wI .i64 (v8.2.2 + 1)))))
     fun j24 =>
     AR ((decide (0 ≤ v16.2.2)))
      ((A4 v16.1 v2.2.2).bind fun v26 =>
      (Ej (v26.fa.length + (([v16.2.2] : List Int)).length ≤ Dz)).bind fun _ =>
      (A4 v16.1 v2.2.2).bind fun v28 =>
      j24 (v16.1.set ((v2.2.2).toNat) ((AG.mk ((Ad.mk v28.fp.fd v28.fp.fa v28.fp.fe)) v28.fg ((Ae.mk v28.ft.ff v28.ft.fh v28.ft.fo)) (v26.fa ++ (([v16.2.2] : List Int)))))))
      (j24 v16.1))
    fun j16 =>
    AR ((!((Jg v15 v8.2.1).isSome)))
     (Ba (fun (v18 : (List AG) × Int) =>
      j16 (v18.1, Ns v15 v18.2 v8.2.1, v18.2))
     fun j18 =>
     (Hp N p0 v13.1).bind fun v19 =>
     Ba (fun (v20 : Bool) =>
      AR v20
       (j18 (v8.1, (-1)))
       ((Ej (v8.1.length + (([(AG.mk v13.1 v2.2.2 v11 (([] : List Int)))] : List AG)).length ≤ Dz)).bind fun _ =>
       j18 (v8.1 ++ (([(AG.mk v13.1 v2.2.2 v11 (([] : List Int)))] : List AG)), (v8.1.length : Int))))
     fun j20 =>
     AR ((v19.2 != 0))
      (j20 true)
      (j20 (!v19.1)))
     (j16 (v8.1, v8.2.1, ((Jg v15 v8.2.1).getD 0)))))
   (j8 (v8.1, v8.2.1))
def Ed (N : Nat) (p0 : Aa) (j2 : ((List AG)) → Option ((List AG) × Int)) : Nat → ((List AG) × (List (ByteArray × Int)) × Int) → Option ((List AG) × Int)
 | 0, _ => none
 | n2 + 1, v2 =>
  AR ((decide (v2.2.2 < (v2.1.length : Int))))
   ((A4 v2.1 v2.2.2).bind fun v5 =>
   (Hj N p0 ((Ad.mk v5.fp.fd v5.fp.fa v5.fp.fe))).bind fun v6 =>
   AR ((v6.2 != 0))
    (some (([] : List AG), v6.2))
    (CI N p0 v2 v6 (fun (v9 : (List AG) × (List (ByteArray × Int))) =>
     Ed N p0 j2 n2 (v9.1, v9.2, (wI .i64 (v2.2.2 + 1)))) N (v2.1, v2.2.1, 0)))
   (j2 v2.1)
def HA (N : Nat) (p0 : Aa) (p1 : Ad) : Option ((List AG) × Int) :=
 (IE N p1).bind fun v1 =>
 Ed N p0 (fun (v3 : (List AG)) =>
  some (v3, 0)) N (([(AG.mk p1 ((-1)) ((Ae.mk 0 0 0)) (([] : List Int)))] : List AG), Ns v1 0 (([] : List (ByteArray × Int))), 0)
def Co (N : Nat) (p0 : List Int) (p1 : List Int) (j2 : Unit → Option Bool) : Nat → Int → Option Bool
 | 0, _ => none
 | n2 + 1, v2 =>
  AR ((decide (v2 < (p0.length : Int))))
   ((A4 p0 v2).bind fun v5 =>
   (A4 p1 v2).bind fun v6 =>
   AR ((v5 != v6))
    (some false)
    (Co N p0 p1 j2 n2 (wI .i64 (v2 + 1))))
   (j2 ())
def EE (N : Nat) (p0 : List Int) (p1 : List Int) : Option Bool :=
 AR (((p0.length : Int) != (p1.length : Int)))
  (some false)
  (Co N p0 p1 (fun (_ : Unit) =>
   some true) N 0)
def Bs (N : Nat) (p0 : List Int) (p1 : Int → Option Bool) (j1 : Unit → Option Int) : Nat → Int → Option Int
 | 0, _ => none
 | n1 + 1, v1 =>
  AR ((decide (v1 < (p0.length : Int))))
   ((A4 p0 v1).bind fun v4 =>
   (p1 v4).bind fun v5 =>
   AR v5
    (some v1)
    (Bs N p0 p1 j1 n1 (wI .i64 (v1 + 1))))
   (j1 ())
def EN (N : Nat) (p0 : List Int) (p1 : Int → Option Bool) : Option Int :=
 Bs N p0 p1 (fun (_ : Unit) =>
  some ((-1))) N 0
def C8 (N : Nat) (p0 : List Int) (p1 : Int → Option Bool) : Option Bool :=
 (EN N p0 p1).bind fun v1 =>
 some ((decide (0 ≤ v1)))
def Ih (_ : Nat) (p0 : Int) : Option Bool :=
 some ((decide (0 ≤ p0)))
def JK (N : Nat) (p0 : Aa) (p1 : Ad) : Option Bool :=
 Ba (fun (v1 : Bool) =>
  some v1)
 fun j1 =>
 (Gt N p0 p1).bind fun v2 =>
 AR ((v2 == 0))
  ((EE N p1.fd p0.fm).bind fun v4 =>
  AR v4
   ((C8 N p1.fa ((fun (x : Int) => Ih N x))).bind fun v6 =>
   j1 (!v6))
   (j1 false))
  (j1 false)
def Fp (N : Nat) (p0 : AG) (p1 : List Int) (p2 : List Int) (p3 : List Int) (p4 : List Am) : Option Bool :=
 (JK N ((Aa.mk p1 p2 p3 p4)) ((Ad.mk p0.fp.fd p0.fp.fa p0.fp.fe))).bind fun v1 =>
 some v1
def AY (N : Nat) (p0 : List AG) (p1 : AG → Option Bool) (j1 : Unit → Option Int) : Nat → Int → Option Int
 | 0, _ => none
 | n1 + 1, v1 =>
  AR ((decide (v1 < (p0.length : Int))))
   ((A4 p0 v1).bind fun v4 =>
   (p1 ((AG.mk ((Ad.mk v4.fp.fd v4.fp.fa v4.fp.fe)) v4.fg ((Ae.mk v4.ft.ff v4.ft.fh v4.ft.fo)) v4.fa))).bind fun v5 =>
   AR v5
    (some v1)
    (AY N p0 p1 j1 n1 (wI .i64 (v1 + 1))))
   (j1 ())
def CA (N : Nat) (p0 : List AG) (p1 : AG → Option Bool) : Option Int :=
 AY N p0 p1 (fun (_ : Unit) =>
  some ((-1))) N 0
def Bu (N : Nat) (j1 : ((List Ae)) → Option ((List Ae))) : Nat → ((List Ae) × Int × Int) → Option ((List Ae))
 | 0, _ => none
 | n1 + 1, v1 =>
  AR ((decide (v1.2.1 < v1.2.2)))
   ((A4 v1.1 v1.2.2).bind fun v4 =>
   (A4 v1.1 v1.2.1).bind fun v5 =>
   (A4 v1.1 v1.2.1).bind fun _ =>
   (A4 (v1.1.set ((v1.2.1).toNat) v4) v1.2.2).bind fun _ =>
   Bu N j1 n1 ((v1.1.set ((v1.2.1).toNat) v4).set ((v1.2.2).toNat) v5, (wI .i64 (v1.2.1 + 1)), (wI .i64 (v1.2.2 - 1))))
   (j1 v1.1)
def BE (N : Nat) (p0 : List Ae) : Option ((List Ae)) :=
 Bu N (fun (v2 : (List Ae)) =>
  some v2) N (p0, 0, (wI .i64 ((p0.length : Int) - 1)))
def GT (N : Nat) (p0 : List AG) (j1 : ((List Ae)) → Option ((List Ae))) : Nat → (Int × (List Ae)) → Option ((List Ae))
 | 0, _ => none
 | n1 + 1, v1 =>
  (A4 p0 v1.1).bind fun v3 =>
  AR ((decide (0 ≤ v3.fg)))
   ((A4 p0 v1.1).bind fun v5 =>
   (Ej (v1.2.length + (([(Ae.mk v5.ft.ff v5.ft.fh v5.ft.fo)] : List Ae)).length ≤ Dz)).bind fun _ =>
   (A4 p0 v1.1).bind fun v7 =>
   GT N p0 j1 n1 (v7.fg, v1.2 ++ (([(Ae.mk v5.ft.ff v5.ft.fh v5.ft.fo)] : List Ae))))
   (j1 v1.2)
def KV (N : Nat) (p0 : List AG) (p1 : Int) : Option ((List Ae)) :=
 GT N p0 (fun (v2 : (List Ae)) =>
  (BE N v2).bind fun v8 =>
  some v8) N (p1, ([] : List Ae))
def Gw (N : Nat) (p0 : Aa) (p1 : Ad) : Option ((List Ae) × Int) :=
 (Hp N p0 p1).bind fun v1 =>
 AR ((v1.2 != 0))
  (some (([] : List Ae), v1.2))
  (AR ((!v1.1))
   (some (([] : List Ae), 13))
   ((HA N p0 p1).bind fun v4 =>
   AR ((v4.2 != 0))
    (some (([] : List Ae), v4.2))
    ((CA N v4.1 ((fun (x : AG) => Fp N x p0.fb p0.fi p0.fm p0.fc))).bind fun v6 =>
    AR ((decide (v6 < 0)))
     (some (([] : List Ae), 14))
     ((KV N v4.1 v6).bind fun v8 =>
     some (v8, 0)))))
def HO (N : Nat) (p0 : Aa) : Option ((List Ae) × Int) :=
 (I1 N p0).bind fun v1 =>
 AR ((v1.2 != 0))
  (some (([] : List Ae), v1.2))
  ((Gw N p0 v1.1).bind fun v3 =>
  some (v3.1, v3.2))
def FV (N : Nat) (p0 : Aa) (p1 : List Int) : Option (Bool × Int) :=
 (Cq N p0).bind fun v1 =>
 AR ((v1 != 0))
  (some (false, v1))
  ((Gp N p0 p1).bind fun v3 =>
  AR ((v3.2 != 0))
   (some (false, v3.2))
   ((HO N v3.1).bind fun v5 =>
   AR ((v5.2 == 0))
    (some (false, 0))
    (AR ((v5.2 == 3))
     (some (false, v5.2))
     (some (true, 0)))))
def KL (N : Nat) (p0 : Aa) (p1 : Int) : Option (Bool × Int) :=
 (Gj N p1).bind fun v1 =>
 (FV N p0 v1).bind fun v2 =>
 some (v2.1, v2.2)
def HS (N : Nat) (p0 : Aa) (j4 : ((List Int)) → Option ((List Int) × (List (Int × Bool)) × Int)) : Nat → ((List Int) × Int) → Option ((List Int) × (List (Int × Bool)) × Int)
 | 0, _ => none
 | n4 + 1, v4 =>
  AR ((decide (v4.2 < (CX .u64 1 ((p0.fb.length : Int))))))
   ((Ej (v4.1.length + (([v4.2] : List Int)).length ≤ Dz)).bind fun _ =>
   HS N p0 j4 n4 (v4.1 ++ (([v4.2] : List Int)), (wI .u64 (v4.2 + 1))))
   (j4 v4.1)
def HP (N : Nat) (p0 : Aa) (v8 : (List Int)) (j9 : ((List (Int × Bool))) → Option ((List Int) × (List (Int × Bool)) × Int)) : Nat → ((List (Int × Bool)) × Int) → Option ((List Int) × (List (Int × Bool)) × Int)
 | 0, _ => none
 | n9 + 1, v9 =>
  AR ((decide (v9.2 < (v8.length : Int))))
   ((A4 v8 v9.2).bind fun v12 =>
   (KL N p0 v12).bind fun v13 =>
   AR ((v13.2 != 0))
    (some (([] : List Int), ([] : List (Int × Bool)), v13.2))
    (HP N p0 v8 j9 n9 (Ns v12 v13.1 v9.1, (wI .i64 (v9.2 + 1)))))
   (j9 v9.1)
def Ju (N : Nat) (p0 : Aa) : Option ((List Int) × (List (Int × Bool)) × Int) :=
 (Cq N p0).bind fun v1 =>
 AR ((v1 != 0))
  (some (([] : List Int), ([] : List (Int × Bool)), v1))
  ((Ej (0 ≤ (p0.fb.length : Int))).bind fun _ =>
  HS N p0 (fun (v5 : (List Int)) =>
   (FI N v5 ((fun (x : Int × Int) => Ii N x.1 x.2))).bind fun v8 =>
   HP N p0 v8 (fun (v10 : (List (Int × Bool))) =>
    some (v8, v10, 0)) N (([] : List (Int × Bool)), 0)) N (([] : List Int), 0))
def Gs (_ : Nat) (p0 : Int) (p1 : Int) : Option Bool :=
 some (((Dy .u64 p0 p1) == 0))
def DK (N : Nat) (p0 : List Int) (p1 : Int → Option Bool) (j1 : Unit → Option Int) : Nat → Int → Option Int
 | 0, _ => none
 | n1 + 1, v1 =>
  AR ((decide (v1 < (p0.length : Int))))
   ((A4 p0 v1).bind fun v4 =>
   (p1 v4).bind fun v5 =>
   AR v5
    (some v1)
    (DK N p0 p1 j1 n1 (wI .i64 (v1 + 1))))
   (j1 ())
def Ee (N : Nat) (p0 : List Int) (p1 : Int → Option Bool) : Option Int :=
 DK N p0 p1 (fun (_ : Unit) =>
  some ((-1))) N 0
def DF (N : Nat) (p0 : List Int) (p1 : Int → Option Bool) : Option Bool :=
 (Ee N p0 p1).bind fun v1 =>
 some ((decide (0 ≤ v1)))
def Hf (N : Nat) (p0 : List Int) (p1 : List (Int × Bool)) (j1 : ((List Int)) → Option ((List Int))) : Nat → ((List Int) × Int) → Option ((List Int))
 | 0, _ => none
 | n1 + 1, v1 =>
  AR ((decide (v1.2 < (p0.length : Int))))
   (Ba (fun (v4 : (List Int)) =>
    Hf N p0 p1 j1 n1 (v4, (wI .i64 (v1.2 + 1))))
   fun j4 =>
   (A4 p0 v1.2).bind fun v5 =>
   Ba (fun (v6 : Bool) =>
    AR v6
     ((Ej (v1.1.length + (([v5] : List Int)).length ≤ Dz)).bind fun _ =>
     j4 (v1.1 ++ (([v5] : List Int))))
     (j4 v1.1))
   fun j6 =>
   AR (((Jg v5 p1).getD false))
    ((DF N v1.1 ((fun (x : Int) => Gs N x v5))).bind fun v8 =>
    j6 (!v8))
    (j6 false))
   (j1 v1.1)
def JY (N : Nat) (p0 : List Int) (p1 : List (Int × Bool)) : Option ((List Int)) :=
 Hf N p0 p1 (fun (v2 : (List Int)) =>
  some v2) N (([] : List Int), 0)
def HL (N : Nat) (p0 : List Int) (j1 : ((List (List Int))) → Option ((List (List Int)))) : Nat → ((List (List Int)) × Int) → Option ((List (List Int)))
 | 0, _ => none
 | n1 + 1, v1 =>
  AR ((decide (v1.2 < (p0.length : Int))))
   ((A4 p0 v1.2).bind fun v4 =>
   (Gj N v4).bind fun v5 =>
   (Ej (v1.1.length + (([v5] : List (List Int))).length ≤ Dz)).bind fun _ =>
   HL N p0 j1 n1 (v1.1 ++ (([v5] : List (List Int))), (wI .i64 (v1.2 + 1))))
   (j1 v1.1)
def Jy (N : Nat) (p0 : List Int) : Option ((List (List Int))) :=
 HL N p0 (fun (v2 : (List (List Int))) =>
  some v2) N (([] : List (List Int)), 0)
def ME (N : Nat) (p0 : Aa) : Option ((List (List Int)) × Int) :=
 (Ju N p0).bind fun v1 =>
 AR ((v1.2.2 != 0))
  (some (([] : List (List Int)), v1.2.2))
  ((JY N v1.1 v1.2.1).bind fun v3 =>
  (Jy N v3).bind fun v4 =>
  some (v4, 0))
def Gb (_ : Nat) (p0 : List Int) : Option ((List Int)) :=
 (Ej ((([] : List Int)).length + p0.length ≤ Dz)).bind fun _ =>
 some ((([] : List Int)) ++ p0)
def GR (_ : Nat) (p0 : Int) (p1 : List (Int × Bool)) (p2 : Int) : Option Bool :=
 Ba (fun (v1 : Bool) =>
  some v1)
 fun j1 =>
 AR ((!(((Jg p0 p1).getD false))))
  (AR ((p0 != p2))
   (j1 ((Dy .u64 p2 p0) == 0))
   (j1 false))
  (j1 false)
def HF (N : Nat) (p0 : Int) (p1 : List (Int × Bool)) (p2 : List Int) : Option Bool :=
 Ba (fun (v1 : Bool) =>
  some v1)
 fun j1 =>
 AR (((Jg p0 p1).getD false))
  (j1 true)
  ((DF N p2 ((fun (x : Int) => GR N x p1 p0))).bind fun v3 =>
  j1 v3)
def Dx (N : Nat) (p1 : Int → Option Bool) (j3 : ((List Int) × Int) → Option (Nat × (List Int))) : Nat → ((List Int) × Int × Int) → Option (Nat × (List Int))
 | 0, _ => none
 | n3 + 1, v3 =>
  AR ((decide (v3.2.2 < (v3.1.length : Int))))
   (Ba (fun (v6 : (List Int) × Int) =>
    Dx N p1 j3 n3 (v6.1, v6.2, (wI .i64 (v3.2.2 + 1))))
   fun j6 =>
   (A4 v3.1 v3.2.2).bind fun v7 =>
   (p1 v7).bind fun v8 =>
   AR ((!v8))
    ((A4 v3.1 v3.2.1).bind fun _ =>
    j6 (v3.1.set ((v3.2.1).toNat) v7, (wI .i64 (v3.2.1 + 1))))
    (j6 (v3.1, v3.2.1)))
   (j3 (v3.1, v3.2.1))
def Fb (N : Nat) (p0 : List Int) (p1 : Int → Option Bool) : Option (Nat × (List Int)) :=
 (Ee N p0 p1).bind fun v1 =>
 AR ((v1 == (-1)))
  (some (p0.length, p0))
  (Dx N p1 (fun (v4 : (List Int) × Int) =>
   (Ej ((0 : Int) ≤ v4.2 ∧ (v4.2).toNat ≤ v4.1.length ∧ v4.1.length ≤ v4.1.length)).bind fun _ =>
   (Ej ((0 : Int) ≤ v4.2 ∧ 0 ≤ (v4.2).toNat ∧ (v4.2).toNat ≤ (Kd v4.1 ((v4.2).toNat) (zG ((v4.1.length - (v4.2).toNat)) ((0 : Int)))).length)).bind fun _ =>
   some ((v4.2).toNat, Kd v4.1 ((v4.2).toNat) (zG ((v4.1.length - (v4.2).toNat)) ((0 : Int))))) N (p0, v1, (wI .i64 (v1 + 1))))
def LO (N : Nat) (p0 : Aa) : Option ((List (List Int)) × Int) :=
 (Ju N p0).bind fun v1 =>
 AR ((v1.2.2 != 0))
  (some (([] : List (List Int)), v1.2.2))
  ((Gb N v1.1).bind fun v3 =>
  (Fb N v3 ((fun (x : Int) => HF N x v1.2.1 v1.1))).bind fun v4 =>
  (Ej (v4.1 ≤ v4.2.length)).bind fun _ =>
  (Jy N (v4.2.take v4.1)).bind fun v7 =>
  some (v7, 0))
def FR (N : Nat) (p0 : List Int) (p1 : List Int) (j2 : Unit → Option Bool) : Nat → Int → Option Bool
 | 0, _ => none
 | n2 + 1, v2 =>
  AR ((decide (v2 < (p0.length : Int))))
   ((A4 p0 v2).bind fun v5 =>
   (A4 p1 v2).bind fun v6 =>
   AR ((v5 != v6))
    (some false)
    (FR N p0 p1 j2 n2 (wI .i64 (v2 + 1))))
   (j2 ())
def HY (N : Nat) (p0 : List Int) (p1 : List Int) : Option Bool :=
 AR (((p0.length : Int) != (p1.length : Int)))
  (some false)
  (FR N p0 p1 (fun (_ : Unit) =>
   some true) N 0)
def FC (N : Nat) (p0 : List (List Int)) (p1 : List (List Int)) (j2 : Unit → Option Bool) : Nat → Int → Option Bool
 | 0, _ => none
 | n2 + 1, v2 =>
  AR ((decide (v2 < (p0.length : Int))))
   ((A4 p0 v2).bind fun v5 =>
   (A4 p1 v2).bind fun v6 =>
   (HY N v5 v6).bind fun v7 =>
   AR ((!v7))
    (some false)
    (FC N p0 p1 j2 n2 (wI .i64 (v2 + 1))))
   (j2 ())
def Gr (N : Nat) (p0 : List (List Int)) (p1 : List (List Int)) : Option Bool :=
 AR (((p0.length : Int) != (p1.length : Int)))
  (some false)
  (FC N p0 p1 (fun (_ : Unit) =>
   some true) N 0)
def FD (N : Nat) (j1 : Unit → Option Bool) : Nat → Int → Option Bool
 | 0, _ => none
 | n1 + 1, v1 =>
  AR ((decide (v1 < ((([false, true] : List Bool)).length : Int))))
   ((A4 (([false, true] : List Bool)) v1).bind fun v4 =>
   (ES N v4).bind fun v5 =>
   (ME N v5).bind fun v6 =>
   (ES N v4).bind fun v7 =>
   (LO N v7).bind fun v8 =>
   (ES N v4).bind fun v9 =>
   (FV N v9 (([0, 2] : List Int))).bind fun v10 =>
   Ba (fun (v11 : Bool) =>
    AR v11
     (some false)
     (FD N j1 n1 (wI .i64 (v1 + 1))))
   fun j11 =>
   AR ((v6.2 != 0))
    (j11 true)
    (AR ((v8.2 != 0))
     (j11 true)
     (AR ((v10.2 != 0))
      (j11 true)
      (AR v10.1
       (j11 true)
       ((Gr N v6.1 (([([0, 1] : List Int)] : List (List Int)))).bind fun v16 =>
       AR ((!v16))
        (j11 true)
        ((Gr N v8.1 (([([0, 2] : List Int), ([1, 2] : List Int)] : List (List Int)))).bind fun v18 =>
        j11 (!v18)))))))
   (j1 ())
def Fu (N : Nat) : Option Bool :=
 FD N (fun (_ : Unit) =>
  some true) N 0
def Dp (N : Nat) (p0 : Aa) (p1 : Ad) (j3 : Unit → Option Bool) : Nat → Int → Option Bool
 | 0, _ => none
 | n3 + 1, v3 =>
  AR ((decide (v3 < (p1.fd.length : Int))))
   (Ba (fun (v6 : Bool) =>
    AR v6
     (some false)
     (Dp N p0 p1 j3 n3 (wI .i64 (v3 + 1))))
   fun j6 =>
   (A4 p1.fa v3).bind fun v7 =>
   AR ((decide (0 ≤ v7)))
    (j6 true)
    ((A4 p1.fd v3).bind fun v9 =>
    (A4 p0.fm v3).bind fun v10 =>
    j6 (v9 != v10)))
   (j3 ())
def FK (N : Nat) (p0 : Aa) (p1 : Ad) : Option Bool :=
 (DW N p0 p1).bind fun v1 =>
 AR ((v1 != 0))
  (some false)
  (Dp N p0 p1 (fun (_ : Unit) =>
   some true) N 0)
def En (N : Nat) (p0 : List AE) (j1 : ((List Ae)) → Option ((List Ae))) : Nat → (Int × (List Ae)) → Option ((List Ae))
 | 0, _ => none
 | n1 + 1, v1 =>
  (A4 p0 v1.1).bind fun v3 =>
  AR ((decide (0 ≤ v3.fA)))
   ((A4 p0 v1.1).bind fun v5 =>
   (Ej ((([(Ae.mk v5.ft.ff v5.ft.fh v5.ft.fo)] : List Ae)).length + v1.2.length ≤ Dz)).bind fun _ =>
   (A4 p0 v1.1).bind fun v7 =>
   En N p0 j1 n1 (v7.fA, (([(Ae.mk v5.ft.ff v5.ft.fh v5.ft.fo)] : List Ae)) ++ v1.2))
   (j1 v1.2)
def Hh (N : Nat) (p0 : List AE) (p1 : Int) : Option ((List Ae)) :=
 En N p0 (fun (v2 : (List Ae)) =>
  some v2) N (p1, ([] : List Ae))
def CG (N : Nat) (p0 : Aa) (v5 : (List AE) × Bool) (j7 : Unit → Option ((List Ae) × Int)) : Nat → Int → Option ((List Ae) × Int)
 | 0, _ => none
 | n7 + 1, v7 =>
  AR ((decide (v7 < (v5.1.length : Int))))
   ((A4 v5.1 v7).bind fun v10 =>
   (FK N p0 ((Ad.mk v10.fu.fd v10.fu.fa v10.fu.fe))).bind fun v11 =>
   AR v11
    ((Hh N v5.1 v7).bind fun v13 =>
    some (v13, 0))
    (CG N p0 v5 j7 n7 (wI .i64 (v7 + 1))))
   (j7 ())
def EY (N : Nat) (p0 : Aa) (p1 : Ad) : Option ((List Ae) × Int) :=
 (DW N p0 p1).bind fun v1 =>
 AR ((v1 != 0))
  (some (([] : List Ae), v1))
  ((C9 N p0 p1).bind fun v3 =>
  AR ((!v3))
   (some (([] : List Ae), 13))
   ((Di N p0 p1 20000).bind fun v5 =>
   AR ((!v5.2))
    (some (([] : List Ae), 3))
    (CG N p0 v5 (fun (_ : Unit) =>
     some (([] : List Ae), 14)) N 0)))
def FL (N : Nat) (p0 : Aa) : Option ((List Ae) × Int) :=
 (EC N p0).bind fun v1 =>
 AR ((v1.2 != 0))
  (some (([] : List Ae), v1.2))
  ((EY N p0 v1.1).bind fun v3 =>
  some (v3.1, v3.2))
def E8 (N : Nat) (p0 : Aa) (p1 : List Int) : Option (Bool × Int) :=
 (DO N p0 p1).bind fun v1 =>
 AR ((v1.2 != 0))
  (some (false, v1.2))
  ((FL N v1.1).bind fun v3 =>
  AR ((v3.2 == 3))
   (some (false, v3.2))
   (some ((v3.2 != 0), 0)))
def D6 (N : Nat) (p0 : BL) (p1 : List Int) : Option Bool :=
 (Gv N p0).bind fun v1 =>
 Ba (fun (v2 : Bool) =>
  AR v2
   ((Fu N).bind fun v7 =>
   some v7)
   ((Bh N p1).bind fun v8 =>
   (FV N v1.1 v8).bind fun v9 =>
   (E8 N v1.1 p1).bind fun v10 =>
   Ba (fun (v11 : Bool) =>
    some v11)
   fun j11 =>
   AR ((v9.1 == v10.1))
    (j11 (v9.2 == v10.2))
    (j11 false)))
 fun j2 =>
 (Fu N).bind fun v3 =>
 AR ((!v3))
  (j2 true)
  (AR ((!v1.2))
   (j2 true)
   (j2 (decide (6 < (p1.length : Int)))))
def OH {α : Type} (w : α → Prop) (xs : List α) : Prop := ∀ x, x ∈ xs → w x
def YN (n : Int) : Prop := (Lit.int .i64 n).wf = true
def M1 (n : Int) : Prop := (Lit.int .u8 n).wf = true
def ag (n : Int) : Prop := (Lit.int .u16 n).wf = true
def Jk (x : Il) : Prop := M1 x.ff ∧ M1 x.fg ∧ M1 x.fj ∧ (fun _ => True) x.fr ∧ ag x.fw ∧ ag x.fy ∧ True
def Gm (x : BL) : Prop := (OH M1) x.fb ∧ (OH M1) x.fi ∧ (OH M1) x.fm ∧ (OH Jk) x.fv ∧ True
open Go.RowKit
open Go.Proofs
abbrev OZ (x : Il) : List C := [.pure (.val (.int .u8 x.ff)), .pure (.val (.int .u8 x.fg)), .pure (.val (.int .u8 x.fj)), .pure (.val (.bool x.fr)), .pure (.val (.int .u16 x.fw)), .pure (.val (.int .u16 x.fy))]
abbrev Dc (x : BL) : List C := [sC (x.fb.map Ex), sC (x.fi.map Ex), sC (x.fm.map Ex), sC (x.fv.map HM)]
abbrev Bg (x : Am) : List C := [iC x.ff, iC x.fg, iC x.fj, .pure (.val (.bool x.fr)), sC (x.fq.map (Gq eB)), sC (x.fk.map (Gq eB))]
abbrev Ah (x : Aa) : List C := [sC (x.fb.map Ak), sC (x.fi.map Ak), sC (x.fm.map Ak), sC (x.fc.map AT)]
abbrev AL (x : Ad) : List C := [sC (x.fd.map Ak), sC (x.fa.map Ak), sC (x.fe.map Ex)]
abbrev Ok (x : Ap) : List C := [iC x.fB, iC x.fC, iC x.fD]
abbrev DX (x : Ae) : List C := [iC x.ff, iC x.fh, iC x.fo]
abbrev Wj (x : AG) : List C := [sC (x.fp.fd.map Ak), sC (x.fp.fa.map Ak), sC (x.fp.fe.map Ex), iC x.fg, iC x.ft.ff, iC x.ft.fh, iC x.ft.fo, sC (x.fa.map Ak)]
theorem As : Tryz.prog.follows .mixedOrders = true := by kernel_rfl
theorem wq {X : JR} {y : Code} {id : Nat} {ops : Array Oper} {dr : Bool} {Q : Exit → St → Prop} {st : St} {n : Nat} (hn : ops.size = n) (h : Bk zA X ops dr (fun st' => W zA X y Q st') n 0 st []) : W zA X (.seq (.region id ops dr) y) Q st := eR As hn h
theorem wp {X : JR} {y z : Code} {id : Nat} {ops : Array Oper} {dr : Bool} {Q : Exit → St → Prop} {st : St} {n : Nat} (hn : ops.size = n) (h : Bk zA X ops dr (fun st' => W zA X y (Rx (W zA X z Q) Q) st') n 0 st []) : W zA X (.seq (.seq (.region id ops dr) y) z) Q st := AK (eR As hn h)
theorem bg : Gd zA 101 true = true := by kernel_rfl
theorem JE : Gd zA 120 false = true := by kernel_rfl
theorem dq : Gd zA 136 true = true := by kernel_rfl
theorem VJ : Gd zA 149 true = true := by kernel_rfl
theorem Qr : Gd zA 197 false = true := by kernel_rfl
theorem XW : Gd zA 22 false = true := by kernel_rfl
theorem Z9 : Gd zA 23 false = true := by kernel_rfl
theorem bd : Gd zA 25 true = true := by kernel_rfl
theorem A6 : Gd zA 26 false = true := by kernel_rfl
theorem HN : Gd zA 27 false = true := by kernel_rfl
theorem Dk : Gd zA 29 true = true := by kernel_rfl
theorem B4 : Gd zA 3 false = true := by kernel_rfl
theorem Ue : Gd zA 4 false = true := by kernel_rfl
theorem IN : Gd zA 47 false = true := by kernel_rfl
theorem Ca : Gd zA 49 true = true := by kernel_rfl
theorem bi : Gd zA 5 false = true := by kernel_rfl
theorem Pp : Gd zA 61 false = true := by kernel_rfl
theorem cV : Gd zA 66 false = true := by kernel_rfl
theorem bC : Gd zA 67 false = true := by kernel_rfl
theorem D1 : Gd zA 71 false = true := by kernel_rfl
theorem Jf : Gd zA 82 false = true := by kernel_rfl
theorem Hy : Gd zA 84 true = true := by kernel_rfl
theorem Kz : Gd zA 94 true = true := by kernel_rfl
theorem cv : Gd zA 99 false = true := by kernel_rfl
theorem eT : RI zA 4 = true := by kernel_rfl
theorem bu : R3 zA 22 = true := by kernel_rfl
theorem PN : FU zA 120 1 = true := by kernel_rfl
theorem Z7 : FU zA 136 128 = true := by kernel_rfl
theorem aV : FU zA 140 104 = true := by kernel_rfl
theorem R2 : FU zA 149 24 = true := by kernel_rfl
theorem Zy : FU zA 26 24 = true := by kernel_rfl
theorem KS : FU zA 3 8 = true := by kernel_rfl
theorem W5 : FU zA 4 1 = true := by kernel_rfl
theorem ZT : FU zA 49 72 = true := by kernel_rfl
theorem Z5 : FU zA 5 1 = true := by kernel_rfl
theorem WQ : FU zA 61 24 = true := by kernel_rfl
theorem XG : FU zA 71 8 = true := by kernel_rfl
theorem Ww : FU zA 84 80 = true := by kernel_rfl
theorem Rh : FU zA 94 24 = true := by kernel_rfl
theorem Xk : C6 zA 101 0 0 = true := by kernel_rfl
theorem W3 : C6 zA 101 1 1 = true := by kernel_rfl
theorem WI : C6 zA 101 2 2 = true := by kernel_rfl
theorem WB : C6 zA 101 3 3 = true := by kernel_rfl
theorem WW : C6 zA 101 4 4 = true := by kernel_rfl
theorem XC : C6 zA 101 5 5 = true := by kernel_rfl
theorem Py : C6 zA 136 0 0 = true := by kernel_rfl
theorem TH : C6 zA 136 1 3 = true := by kernel_rfl
theorem X5 : C6 zA 136 2 4 = true := by kernel_rfl
theorem TT : C6 zA 136 3 7 = true := by kernel_rfl
theorem Oa : C6 zA 140 0 0 = true := by kernel_rfl
theorem To : C6 zA 140 1 3 = true := by kernel_rfl
theorem XQ : C6 zA 140 2 4 = true := by kernel_rfl
theorem Sv : C6 zA 25 0 0 = true := by kernel_rfl
theorem YR : C6 zA 25 1 1 = true := by kernel_rfl
theorem YO : C6 zA 25 2 2 = true := by kernel_rfl
theorem SR : C6 zA 25 3 3 = true := by kernel_rfl
theorem Bf : C6 zA 29 0 0 = true := by kernel_rfl
theorem F7 : C6 zA 29 1 1 = true := by kernel_rfl
theorem Hg : C6 zA 29 2 2 = true := by kernel_rfl
theorem Cs : C6 zA 29 3 3 = true := by kernel_rfl
theorem Dn : C6 zA 49 0 0 = true := by kernel_rfl
theorem BO : C6 zA 49 1 1 = true := by kernel_rfl
theorem Do : C6 zA 49 2 2 = true := by kernel_rfl
theorem G5 : C6 zA 84 0 0 = true := by kernel_rfl
theorem DA : C6 zA 84 1 1 = true := by kernel_rfl
theorem Ik : C6 zA 84 2 2 = true := by kernel_rfl
theorem Kg : C6 zA 84 3 3 = true := by kernel_rfl
theorem HJ : C6 zA 84 4 4 = true := by kernel_rfl
theorem F5 : C6 zA 84 5 5 = true := by kernel_rfl
theorem G7 : C6 zA 94 0 0 = true := by kernel_rfl
theorem F8 : C6 zA 94 1 1 = true := by kernel_rfl
theorem Ij : C6 zA 94 2 2 = true := by kernel_rfl
theorem dS : AA zA 10 = true := by kernel_rfl
theorem cX : AA zA 100 = true := by kernel_rfl
theorem ZG : AA zA 101 = true := by kernel_rfl
theorem ZU : AA zA 102 = true := by kernel_rfl
theorem ZW : AA zA 103 = true := by kernel_rfl
theorem bt : AA zA 104 = true := by kernel_rfl
theorem Xh : AA zA 105 = true := by kernel_rfl
theorem bf : AA zA 106 = true := by kernel_rfl
theorem cx : AA zA 107 = true := by kernel_rfl
theorem cO : AA zA 108 = true := by kernel_rfl
theorem dC : AA zA 109 = true := by kernel_rfl
theorem dB : AA zA 11 = true := by kernel_rfl
theorem cp : AA zA 110 = true := by kernel_rfl
theorem Xm : AA zA 111 = true := by kernel_rfl
theorem Zz : AA zA 112 = true := by kernel_rfl
theorem Zp : AA zA 113 = true := by kernel_rfl
theorem bJ : AA zA 114 = true := by kernel_rfl
theorem bj : AA zA 117 = true := by kernel_rfl
theorem aR : AA zA 12 = true := by kernel_rfl
theorem Vk : AA zA 120 = true := by kernel_rfl
theorem dt : AA zA 121 = true := by kernel_rfl
theorem bT : AA zA 122 = true := by kernel_rfl
theorem cn : AA zA 124 = true := by kernel_rfl
theorem bn : AA zA 125 = true := by kernel_rfl
theorem cQ : AA zA 126 = true := by kernel_rfl
theorem Zq : AA zA 127 = true := by kernel_rfl
theorem du : AA zA 128 = true := by kernel_rfl
theorem XK : AA zA 129 = true := by kernel_rfl
theorem Wf : AA zA 13 = true := by kernel_rfl
theorem Zw : AA zA 130 = true := by kernel_rfl
theorem bN : AA zA 131 = true := by kernel_rfl
theorem dE : AA zA 132 = true := by kernel_rfl
theorem dk : AA zA 133 = true := by kernel_rfl
theorem cG : AA zA 134 = true := by kernel_rfl
theorem cb : AA zA 135 = true := by kernel_rfl
theorem cS : AA zA 136 = true := by kernel_rfl
theorem bK : AA zA 137 = true := by kernel_rfl
theorem ZV : AA zA 138 = true := by kernel_rfl
theorem bH : AA zA 139 = true := by kernel_rfl
theorem ek : AA zA 14 = true := by kernel_rfl
theorem bo : AA zA 140 = true := by kernel_rfl
theorem da : AA zA 141 = true := by kernel_rfl
theorem bG : AA zA 142 = true := by kernel_rfl
theorem cu : AA zA 143 = true := by kernel_rfl
theorem bP : AA zA 144 = true := by kernel_rfl
theorem c4 : AA zA 145 = true := by kernel_rfl
theorem bV : AA zA 146 = true := by kernel_rfl
theorem cf : AA zA 147 = true := by kernel_rfl
theorem cg : AA zA 148 = true := by kernel_rfl
theorem dD : AA zA 149 = true := by kernel_rfl
theorem eI : AA zA 15 = true := by kernel_rfl
theorem dh : AA zA 150 = true := by kernel_rfl
theorem ct : AA zA 151 = true := by kernel_rfl
theorem bk : AA zA 152 = true := by kernel_rfl
theorem cR : AA zA 153 = true := by kernel_rfl
theorem cT : AA zA 154 = true := by kernel_rfl
theorem XE : AA zA 156 = true := by kernel_rfl
theorem de : AA zA 157 = true := by kernel_rfl
theorem bW : AA zA 158 = true := by kernel_rfl
theorem bh : AA zA 159 = true := by kernel_rfl
theorem cy : AA zA 160 = true := by kernel_rfl
theorem bq : AA zA 161 = true := by kernel_rfl
theorem bF : AA zA 162 = true := by kernel_rfl
theorem co : AA zA 163 = true := by kernel_rfl
theorem cI : AA zA 164 = true := by kernel_rfl
theorem cJ : AA zA 165 = true := by kernel_rfl
theorem di : AA zA 166 = true := by kernel_rfl
theorem dA : AA zA 167 = true := by kernel_rfl
theorem ZD : AA zA 168 = true := by kernel_rfl
theorem bX : AA zA 169 = true := by kernel_rfl
theorem cU : AA zA 17 = true := by kernel_rfl
theorem cW : AA zA 170 = true := by kernel_rfl
theorem Wx : AA zA 171 = true := by kernel_rfl
theorem ZO : AA zA 172 = true := by kernel_rfl
theorem ZK : AA zA 173 = true := by kernel_rfl
theorem ZR : AA zA 174 = true := by kernel_rfl
theorem ZJ : AA zA 176 = true := by kernel_rfl
theorem bU : AA zA 177 = true := by kernel_rfl
theorem cM : AA zA 178 = true := by kernel_rfl
theorem WN : AA zA 179 = true := by kernel_rfl
theorem eK : AA zA 18 = true := by kernel_rfl
theorem bQ : AA zA 180 = true := by kernel_rfl
theorem eD : AA zA 25 = true := by kernel_rfl
theorem dY : AA zA 30 = true := by kernel_rfl
theorem cZ : AA zA 31 = true := by kernel_rfl
theorem Zc : AA zA 33 = true := by kernel_rfl
theorem ep : AA zA 35 = true := by kernel_rfl
theorem dP : AA zA 36 = true := by kernel_rfl
theorem aM : AA zA 37 = true := by kernel_rfl
theorem Wr : AA zA 38 = true := by kernel_rfl
theorem dJ : AA zA 39 = true := by kernel_rfl
theorem dT : AA zA 40 = true := by kernel_rfl
theorem eL : AA zA 41 = true := by kernel_rfl
theorem cA : AA zA 42 = true := by kernel_rfl
theorem eM : AA zA 43 = true := by kernel_rfl
theorem d9 : AA zA 44 = true := by kernel_rfl
theorem dU : AA zA 45 = true := by kernel_rfl
theorem ck : AA zA 46 = true := by kernel_rfl
theorem d7 : AA zA 47 = true := by kernel_rfl
theorem df : AA zA 48 = true := by kernel_rfl
theorem eg : AA zA 50 = true := by kernel_rfl
theorem d6 : AA zA 51 = true := by kernel_rfl
theorem Ze : AA zA 52 = true := by kernel_rfl
theorem dI : AA zA 55 = true := by kernel_rfl
theorem dO : AA zA 56 = true := by kernel_rfl
theorem bm : AA zA 57 = true := by kernel_rfl
theorem dZ : AA zA 58 = true := by kernel_rfl
theorem cF : AA zA 59 = true := by kernel_rfl
theorem Z8 : AA zA 60 = true := by kernel_rfl
theorem dN : AA zA 61 = true := by kernel_rfl
theorem bz : AA zA 62 = true := by kernel_rfl
theorem eG : AA zA 64 = true := by kernel_rfl
theorem bp : AA zA 65 = true := by kernel_rfl
theorem Sy : AA zA 66 = true := by kernel_rfl
theorem bE : AA zA 67 = true := by kernel_rfl
theorem d8 : AA zA 68 = true := by kernel_rfl
theorem cP : AA zA 69 = true := by kernel_rfl
theorem Xz : AA zA 70 = true := by kernel_rfl
theorem eJ : AA zA 71 = true := by kernel_rfl
theorem ca : AA zA 72 = true := by kernel_rfl
theorem dK : AA zA 73 = true := by kernel_rfl
theorem eN : AA zA 74 = true := by kernel_rfl
theorem ew : AA zA 75 = true := by kernel_rfl
theorem ey : AA zA 76 = true := by kernel_rfl
theorem d5 : AA zA 77 = true := by kernel_rfl
theorem dX : AA zA 78 = true := by kernel_rfl
theorem ei : AA zA 79 = true := by kernel_rfl
theorem dy : AA zA 80 = true := by kernel_rfl
theorem eQ : AA zA 81 = true := by kernel_rfl
theorem ef : AA zA 82 = true := by kernel_rfl
theorem dj : AA zA 83 = true := by kernel_rfl
theorem eC : AA zA 85 = true := by kernel_rfl
theorem dV : AA zA 87 = true := by kernel_rfl
theorem eH : AA zA 88 = true := by kernel_rfl
theorem ec : AA zA 89 = true := by kernel_rfl
theorem az : AA zA 90 = true := by kernel_rfl
theorem eO : AA zA 91 = true := by kernel_rfl
theorem dn : AA zA 92 = true := by kernel_rfl
theorem eF : AA zA 93 = true := by kernel_rfl
theorem eo : AA zA 94 = true := by kernel_rfl
theorem eq : AA zA 95 = true := by kernel_rfl
theorem Xp : AA zA 96 = true := by kernel_rfl
theorem YD : AA zA 97 = true := by kernel_rfl
theorem db : AA zA 98 = true := by kernel_rfl
theorem cL : AA zA 99 = true := by kernel_rfl
theorem Rd : Qf zA 145 .u32 = true := by kernel_rfl
theorem Zr : Qf zA 147 .u64 = true := by kernel_rfl
theorem bL : Qf zA 197 .u64 = true := by kernel_rfl
theorem VV : Qf zA 3 .i64 = true := by kernel_rfl
theorem dG : Qf zA 5 .u8 = true := by kernel_rfl
theorem Wi : Qf zA 71 .u64 = true := by kernel_rfl
theorem VH : Tryz.prog.underlying 71 = some (.int .u64) := by kernel_rfl
theorem am : Tryz.prog.underlying 9 = some .string := by kernel_rfl
theorem SH : Tryz.prog.underlying 170 = some (.map 9 3) := by kernel_rfl
theorem O1 : Tryz.prog.underlying 67 = some (.map 71 4) := by kernel_rfl
theorem ZP : Jx zA 136 = some [(0, 3), (3, 1), (4, 3), (7, 1)] := by kernel_rfl
theorem ZQ : Jx zA 140 = some [(0, 3), (3, 1), (4, 3)] := by kernel_rfl
theorem Rw : Jx zA 149 = some [(0, 1), (1, 1), (2, 1)] := by kernel_rfl
theorem SU : Jx zA 29 = some [(0, 1), (1, 1), (2, 1), (3, 1)] := by kernel_rfl
theorem Ke : Jx zA 49 = some [(0, 1), (1, 1), (2, 1)] := by kernel_rfl
theorem Yw : Jx zA 84 = some [(0, 1), (1, 1), (2, 1), (3, 1), (4, 1), (5, 1)] := by kernel_rfl
theorem Y9 : Jx zA 94 = some [(0, 1), (1, 1), (2, 1)] := by kernel_rfl
theorem Iu : sliceB zA 125 140 = true := by kernel_rfl
theorem H1 : sliceB zA 131 136 = true := by kernel_rfl
theorem Io : sliceB zA 162 149 = true := by kernel_rfl
theorem L1 : sliceB zA 22 5 = true := by kernel_rfl
theorem W4 : sliceB zA 23 101 = true := by kernel_rfl
theorem Au : sliceB zA 26 3 = true := by kernel_rfl
theorem DT : sliceB zA 27 84 = true := by kernel_rfl
theorem HW : sliceB zA 38 26 = true := by kernel_rfl
theorem M9 : sliceB zA 46 49 = true := by kernel_rfl
theorem EF : sliceB zA 47 120 = true := by kernel_rfl
theorem F1 : sliceB zA 61 4 = true := by kernel_rfl
theorem Fg : sliceB zA 63 94 = true := by kernel_rfl
theorem A0 : sliceB zA 66 71 = true := by kernel_rfl
theorem E5 : sliceB zA 82 61 = true := by kernel_rfl
theorem dm : (Tryz.prog.underlying 120).isSome = true := by kernel_rfl
theorem Tt : (Tryz.prog.underlying 145).isSome = true := by kernel_rfl
theorem U3 : (Tryz.prog.underlying 147).isSome = true := by kernel_rfl
theorem Z6 : (Tryz.prog.underlying 3).isSome = true := by kernel_rfl
theorem Yv : (Tryz.prog.underlying 5).isSome = true := by kernel_rfl
theorem Wb : (Tryz.prog.underlying 71).isSome = true := by kernel_rfl
theorem S8 : RP zA 9 = true := by kernel_rfl
theorem Wy : IC zA 101 6 = true := by kernel_rfl
theorem Fh : IC zA 120 1 = true := by kernel_rfl
theorem L0 : IC zA 136 8 = true := by kernel_rfl
theorem M7 : IC zA 140 7 = true := by kernel_rfl
theorem JI : IC zA 149 3 = true := by kernel_rfl
theorem Vf : IC zA 197 1 = true := by kernel_rfl
theorem cq : IC zA 25 4 = true := by kernel_rfl
theorem I6 : IC zA 26 1 = true := by kernel_rfl
theorem Z3 : IC zA 27 1 = true := by kernel_rfl
theorem Cg : IC zA 29 4 = true := by kernel_rfl
theorem CP : IC zA 3 1 = true := by kernel_rfl
theorem Qs : IC zA 4 1 = true := by kernel_rfl
theorem dQ : IC zA 47 1 = true := by kernel_rfl
theorem A9 : IC zA 49 3 = true := by kernel_rfl
theorem aa : IC zA 5 1 = true := by kernel_rfl
theorem KF : IC zA 61 1 = true := by kernel_rfl
theorem ez : IC zA 66 1 = true := by kernel_rfl
theorem dM : IC zA 67 1 = true := by kernel_rfl
theorem Bj : IC zA 71 1 = true := by kernel_rfl
theorem YP : IC zA 82 1 = true := by kernel_rfl
theorem DM : IC zA 84 6 = true := by kernel_rfl
theorem Fq : IC zA 94 3 = true := by kernel_rfl
theorem bO : Et zA 101 = some (.agg #[.int .u8 0, .int .u8 0, .int .u8 0, .bool false, .int .u16 0, .int .u16 0]) := by kernel_rfl
theorem NH : Et zA 120 = some (.int .u8 0) := by kernel_rfl
theorem SW : Et zA 136 = some (.agg #[.slice none 0 0, .slice none 0 0, .slice none 0 0, .int .i64 0, .int .i64 0, .int .i64 0, .int .i64 0, .slice none 0 0]) := by kernel_rfl
theorem Ts : Et zA 140 = some (.agg #[.slice none 0 0, .slice none 0 0, .slice none 0 0, .int .i64 0, .int .i64 0, .int .i64 0, .int .i64 0]) := by kernel_rfl
theorem J5 : Et zA 149 = some (.agg #[.int .i64 0, .int .i64 0, .int .i64 0]) := by kernel_rfl
theorem ci : Et zA 197 = some (.int .u64 0) := by kernel_rfl
theorem VK : Et zA 26 = some (.slice none 0 0) := by kernel_rfl
theorem K8 : Et zA 29 = some (.agg #[.slice none 0 0, .slice none 0 0, .slice none 0 0, .slice none 0 0]) := by kernel_rfl
theorem JH : Et zA 3 = some (.int .i64 0) := by kernel_rfl
theorem Uf : Et zA 4 = some (.bool false) := by kernel_rfl
theorem Fc : Et zA 49 = some (.agg #[.slice none 0 0, .slice none 0 0, .slice none 0 0]) := by kernel_rfl
theorem cr : Et zA 5 = some (.int .u8 0) := by kernel_rfl
theorem UR : Et zA 61 = some (.slice none 0 0) := by kernel_rfl
theorem ed : Et zA 66 = some (.slice none 0 0) := by kernel_rfl
theorem ee : Et zA 67 = some (.map none) := by kernel_rfl
theorem Tj : Et zA 71 = some (.int .u64 0) := by kernel_rfl
theorem JS : Et zA 84 = some (.agg #[.int .i64 0, .int .i64 0, .int .i64 0, .bool false, .slice none 0 0, .slice none 0 0]) := by kernel_rfl
theorem Ls : Et zA 94 = some (.agg #[.int .i64 0, .int .i64 0, .int .i64 0]) := by kernel_rfl
set_option maxRecDepth 10000
theorem KP (N : Nat) (p0 : List Int) (p1 : Int) (r : Int) (h : EX N p0 p1 = some r) : An zA 65 [pD (.sl (p0.map Ex)), iD p1] [] (iD r) := by
 unfold EX at h
 refine cw (n := 14) (rs := [.tmp 4]) Tryz.func65 fun w0 S0 => ?_
 refine wq rfl (qa rfl (Ab (wp rfl (qw 2 rfl (AO L1 rfl (AV rfl (Ab ?_)))))))
 refine A7 h (fun h => ?_) fun h => ?_
 ·refine wq rfl (qw 2 rfl ?_)
  refine Bb h fun v2 a2 b2 h => qi L1 aa a2 (Ac b2) rfl (qk bi rfl (Id Yv VV rfl (qe rfl ?_)))
  obtain rfl := sj h
  refine Af (sm [] [(4, iD ((wI .i64 v2)))] [] rfl rfl) (Aq ?_)
  exact ⟨⟨[_], tm, rfl⟩, tv⟩
 ·refine Ai (wq rfl (qe rfl ?_))
  obtain rfl := sj h
  refine Af (sm [] [(4, iD 0)] [] rfl rfl) (Aq ?_)
  exact ⟨⟨[_], tm, rfl⟩, tv⟩
theorem CD (N : Nat) (p0 : Am) (r : Bool) (h : Be N p0 = some r) : An zA 66 [.e (.agg (Bg p0))] [] (bD r) := by
 unfold Be at h
 refine cw (n := 11) (rs := [.tmp 2]) Tryz.func66 fun w0 S0 => ?_
 refine wq rfl (qb rfl (qe rfl ?_))
 refine AN h (fun v1 => mk [(2, bD v1)] []) (fun j1 h => ?_) (fun v1 h => ?_)
 ·refine Ag As rfl (qf G5 rfl (ql B4 rfl (B9 rfl (qm rfl ?_))))
  refine EM 6 h rfl (fun h => ?_) fun h => ?_
  ·refine qw 3 rfl (qp rfl (qe rfl ?_))
   exact sn [] h
  ·refine qf G5 rfl (ql B4 rfl (B9 rfl (qp rfl (qe rfl ?_))))
   exact sn [] h
 ·obtain rfl := sj h
  refine Af (sm [] [(2, bD v1)] [] rfl rfl) (Aq ?_)
  exact ⟨⟨[_], tm, rfl⟩, tv⟩
theorem Ky (N : Nat) (p0 : Int) (p1 : Int) (p2 : Int) (p3 : Bool) (r : (List (List Bool))) (h : EW N p0 p1 p2 p3 = some r) : An zA 67 [iD p0, iD p1, pD (.val (.int .u16 p2)), bD p3] [(1, r.map (Gq eB))] (oD (.own 0)) := by
 unfold EW at h
 refine cw (n := 47) (rs := [.tmp 8]) Tryz.func67 fun w0 S0 => ?_
 refine wq rfl (qa rfl (Ab (wq rfl (qa rfl (Ab (wp rfl (qe rfl ?_)))))))
 refine Ay (L := CO N p0 p1 p2 p3) h (fun v1 => mk [(0, iD p0), (1, iD p1), (2, pD (.val (.int .u16 p2))), (3, bD p3), (9, oD (.own 2001)), (10, iD v1.2)] [(2001, .vec 1 (v1.1.map (Gq eB)))]) (fun v2 => mk [(9, oD (.own 2002))] [(2002, .vec 1 (v2.map (Gq eB)))]) (fun _ _ => rfl) ((A2 9 2010 1 rfl rfl rfl).trans (sm [(2001, 2010)] _ _ rfl rfl)) (fun j1 n1 v1 h => ?_) (fun v2 s h hs => ?_)
 ·unfold CO at h
  refine wp rfl (qw 2 rfl (AV rfl (Ab ?_)))
  refine A7 h (fun h => ?_) fun h => ?_
  ·refine Ai (AK (AF (wq rfl (qa rfl (Ab (wp rfl (qe rfl ?_)))))))
   refine Ay (L := CN N p1 p2 p3 v1) h (fun v4 => mk [(0, iD p0), (1, iD p1), (2, pD (.val (.int .u16 p2))), (3, bD p3), (9, oD (.own 2003)), (10, iD v1.2), (11, oD (.own 2004)), (12, iD v4.2)] [(2003, .vec 1 (v1.1.map (Gq eB))), (2004, .vec 1 (v4.1.map eB))]) (fun v5 => mk [(0, iD p0), (1, iD p1), (2, pD (.val (.int .u16 p2))), (3, bD p3), (9, oD (.own 2005)), (10, iD v1.2), (11, oD (.own 2006))] [(2005, .vec 1 (v1.1.map (Gq eB))), (2006, .vec 1 (v5.map eB))]) (fun _ _ => rfl) ((A2 11 2009 1 rfl rfl rfl).trans (sm [(2003, 2001), (2004, 2009)] _ _ rfl rfl)) (fun j4 n4 v4 h => ?_) (fun v5 s h hs => ?_)
   ·unfold CN at h
    refine wp rfl (qw 2 rfl (AV rfl (Ab ?_)))
    refine A7 h (fun h => ?_) fun h => ?_
    ·refine Ai ?_
     refine AN h (fun v7 => mk [(0, iD p0), (1, iD p1), (2, pD (.val (.int .u16 p2))), (3, bD p3), (9, oD (.own 2007)), (10, iD v1.2), (11, oD (.own 2008)), (12, iD v4.2)] [(2007, .vec 1 (v1.1.map (Gq eB))), (2008, .vec 1 (v7.map eB))]) (fun j7 h => ?_) (fun v7 h => ?_)
     ·refine AF (Ag As rfl (qw 3 rfl ?_))
      refine EM 25 h rfl (fun h => ?_) fun h => ?_
      ·refine qw 2 rfl (B9 rfl (qp rfl (qm rfl ?_)))
       refine EM 30 h rfl (fun h => ?_) fun h => ?_
       ·refine qw 8 rfl (qp rfl (DQ F1 Qs Uf rfl ?_))
        refine Gg h fun c10 h => CJ (f := eB) F1 F1 Qs W5 Uf c10 rfl (qe rfl ?_)
        exact sn [(2007, 2003), (2008, 41)] h
       ·refine qw 2 rfl (KI rfl (qm rfl (AP rfl ?_)))
        refine Gg h fun c11 h => Ga rfl c11 (Ng rfl (by decide) (B9 rfl (qp rfl (DQ F1 Qs Uf rfl ?_))))
        refine Gg h fun c12 h => CJ (f := eB) F1 F1 Qs W5 Uf c12 rfl (qe rfl ?_)
        exact sn [(2007, 2003), (2008, 41)] h
      ·refine qw 3 rfl (qp rfl (qw 3 rfl (KI rfl (qm rfl (AP rfl ?_)))))
       refine Gg h fun c13 h => Ga rfl c13 (Ng rfl (by decide) (B9 rfl (qp rfl (DQ F1 Qs Uf rfl ?_))))
       refine Gg h fun c14 h => CJ (f := eB) F1 F1 Qs W5 Uf c14 rfl (qe rfl ?_)
       exact sn [(2007, 2003), (2008, 41)] h
     ·refine Ag As rfl (qm rfl (AP rfl (qe rfl ?_)))
      exact sn [(2003, 2007), (2004, 2008)] h
    ·refine AQ ?_
     exact sn [(2005, 2003), (2006, 2004)] h
   ·refine Af hs (Ag As rfl (qw 2 rfl (DG (Bt 2006 _ _ rfl rfl) (DQ E5 KF UR rfl ?_))))
    refine Gg h fun c15 h => CJ (f := (Gq eB)) E5 E5 KF WQ UR c15 rfl (qa rfl (Ab (Ag As rfl (qm rfl (AP rfl (qe rfl ?_))))))
    exact sn [(2001, 45)] h
  ·refine AQ ?_
   exact sn [(2002, 2001)] h
 ·refine Af hs (wq rfl (qm rfl (qe rfl ?_)))
  obtain rfl := sj h
  refine Af (sm [(1000, 2002)] [(8, oD (.own 1000))] [(1000, .vec 1 (v2.map (Gq eB)))] rfl rfl) (Aq ?_)
  exact ⟨⟨[_], tm, rfl⟩, ⟨rfl, tv⟩⟩
theorem OL (N : Nat) (p0 : BL) (r : Aa × Bool) (h : Gn N p0 = some r) : An zA 35 [.e (.agg (Dc p0))] [(1, r.1.fb.map Ak), (1, r.1.fi.map Ak), (1, r.1.fm.map Ak), (6, r.1.fc.map AT)] (.tup [.agg [.own 0, .own 1, .own 2, .own 3], .one (.pure (.val (.bool r.2)))]) := by
 unfold Gn at h
 refine cw (n := 152) (rs := [.cell 2 29, .tmp 3]) Tryz.func35 fun w0 S0 => ?_
 refine wq rfl (qb rfl (qz K8 rfl (qa rfl (Ab (AK ?_)))))
 refine AN h (fun v1 => mk [(1, oD (.ptr 1 0)), (2, oD (.ptr 2 0)), (19, bD v1)] [(1, .box (Dc p0)), (2, .box [.pure (.nil0), .pure (.nil0), .pure (.nil0), .pure (.nil0)])]) (fun j1 h => ?_) (fun v1 h => ?_)
 ·refine Ag As rfl (qf Sv rfl (ql XW rfl (AO L1 rfl (FW rfl (qm rfl ?_)))))
  refine EM 14 h rfl (fun h => ?_) fun h => ?_
  ·refine qw 4 rfl (qp rfl (Ab ?_))
   exact sn [] h
  ·refine qf SR rfl (ql Z9 rfl (AO W4 rfl (FW rfl (qp rfl (Ab ?_)))))
   exact sn [] h
 ·refine A7 h (fun h => ?_) fun h => ?_
  ·refine wq rfl (Bp K8 SU rfl (qs Cg rfl (qe rfl ?_)))
   obtain rfl := sj h
   refine Af ((Ar 2 0 2001 1 _ rfl rfl rfl rfl).trans ((Ar 2 1 2002 1 _ rfl rfl rfl rfl).trans ((Ar 2 2 2003 1 _ rfl rfl rfl rfl).trans ((Ar 2 3 2004 6 _ rfl rfl rfl rfl).trans (sm [(1000, 2001), (1001, 2002), (1002, 2003), (1003, 2004)] [(2, oD (.ptr 2 0)), (3, bD false)] [(2, .box [.own 1000, .own 1001, .own 1002, .own 1003]), (1000, .vec 1 ((([] : List Int)).map Ak)), (1001, .vec 1 ((([] : List Int)).map Ak)), (1002, .vec 1 ((([] : List Int)).map Ak)), (1003, .vec 6 ((([] : List Am)).map AT))] rfl rfl))))) (Aq ?_)
   exact ⟨⟨[_, _], ⟨.cellN _ _ _ _ _ _ _ rfl rfl Dk Cg rfl rfl (Kn rfl), tm⟩, rfl⟩, ⟨rfl, rfl, rfl, rfl, tv⟩⟩
  ·refine Ai (wq rfl (qz K8 rfl (Ab (wp rfl (qe rfl ?_)))))
   refine Ay (L := Dh N p0) h (fun v4 => mk [(1, oD (.ptr 1 0)), (2, oD (.ptr 2 0)), (4, oD (.ptr 4 0)), (5, iD v4.2.2.2)] [(1, .box (Dc p0)), (2, .box [.pure (.nil0), .pure (.nil0), .pure (.nil0), .pure (.nil0)]), (4, .box [.own 2005, .own 2006, .own 2007, .pure (.nil0)]), (2005, .vec 1 (v4.1.map Ak)), (2006, .vec 1 (v4.2.1.map Ak)), (2007, .vec 1 (v4.2.2.1.map Ak))]) (fun v5 => mk [(1, oD (.ptr 1 0)), (2, oD (.ptr 2 0)), (4, oD (.ptr 4 0))] [(1, .box (Dc p0)), (2, .box [.pure (.nil0), .pure (.nil0), .pure (.nil0), .pure (.nil0)]), (4, .box [.own 2008, .own 2009, .own 2010, .pure (.nil0)]), (2008, .vec 1 (v5.1.map Ak)), (2009, .vec 1 (v5.2.1.map Ak)), (2010, .vec 1 (v5.2.2.map Ak))]) (fun _ _ => rfl) ((Ar 4 0 2011 1 _ rfl rfl rfl rfl).trans ((Ar 4 1 2012 1 _ rfl rfl rfl rfl).trans ((Ar 4 2 2013 1 _ rfl rfl rfl rfl).trans (sm [(2005, 2011), (2006, 2012), (2007, 2013)] _ _ rfl rfl)))) (fun j4 n4 v4 h => ?_) (fun v5 s h hs => ?_)
   ·unfold Dh at h
    refine wp rfl (qm rfl (qf Sv rfl (ql XW rfl (AO L1 rfl (AV rfl (Ab ?_))))))
    refine A7 h (fun h => ?_) fun h => ?_
    ·refine Ai (AK (AF (wq rfl (qf Sv rfl (ql XW rfl (qm rfl ?_))))))
     refine Bb h fun v7 a7 b7 h => qi L1 aa a7 (Ac b7) rfl (qk bi rfl (Ng rfl (by decide) (Id Yv VV rfl (AP rfl (qa rfl (Ab (wq rfl (qf Bf rfl (ql A6 rfl (qm rfl (DQ Au CP JH rfl ?_)))))))))))
     refine Gg h fun c8 h => CJ (f := Ak) Au Au CP KS JH c8 rfl (qf Bf rfl (qs I6 rfl (Ab (wq rfl (qf F7 rfl (ql A6 rfl (qf YR rfl (ql XW rfl (qm rfl ?_)))))))))
     refine Bq h fun v9 a9 h => Ax [] (KP N p0.fi v4.2.2.2 v9 a9) bp rfl (qm rfl ?_)
     refine Gg h fun c10 h => Ng rfl c10 (DQ Au CP JH rfl ?_)
     refine Gg h fun c11 h => CJ (f := Ak) Au Au CP KS JH c11 rfl (qf F7 rfl (qs I6 rfl (AD (by kernel_rfl) (Ag As rfl (qf Hg rfl (ql A6 rfl (qf YO rfl (ql XW rfl (qm rfl ?_)))))))))
     refine Bq h fun v12 a12 h => Ax [] (KP N p0.fm v4.2.2.2 v12 a12) bp rfl (qm rfl ?_)
     refine Gg h fun c13 h => Ng rfl c13 (DQ Au CP JH rfl ?_)
     refine Gg h fun c14 h => CJ (f := Ak) Au Au CP KS JH c14 rfl (qf Hg rfl (qs I6 rfl (AD (by kernel_rfl) (Ag As rfl (qm rfl (AP rfl (qe rfl ?_)))))))
     exact sn [(2005, 40), (2006, 51), (2007, 62)] h
    ·refine AQ ?_
     exact sn [(2008, 2005), (2009, 2006), (2010, 2007)] h
   ·refine Af hs (wp rfl (qe rfl ?_))
    refine Ay (L := BH N p0 v5) h (fun v15 => mk [(1, oD (.ptr 1 0)), (2, oD (.ptr 2 0)), (4, oD (.ptr 4 0)), (7, iD v15.2)] [(1, .box (Dc p0)), (2, .box [.pure (.nil0), .pure (.nil0), .pure (.nil0), .pure (.nil0)]), (4, .box [.own 2014, .own 2015, .own 2016, .own 2017]), (2014, .vec 1 (v5.1.map Ak)), (2015, .vec 1 (v5.2.1.map Ak)), (2016, .vec 1 (v5.2.2.map Ak)), (2017, .vec 6 (v15.1.map AT))]) (fun v16 => mk [(2, oD (.ptr 2 0)), (4, oD (.ptr 4 0))] [(2, .box [.pure (.nil0), .pure (.nil0), .pure (.nil0), .pure (.nil0)]), (4, .box [.own 2018, .own 2019, .own 2020, .own 2021]), (2018, .vec 1 (v5.1.map Ak)), (2019, .vec 1 (v5.2.1.map Ak)), (2020, .vec 1 (v5.2.2.map Ak)), (2021, .vec 6 (v16.map AT))]) (fun _ _ => rfl) ((Ar 4 3 2039 6 _ rfl rfl rfl rfl).trans (sm [(2014, 2008), (2015, 2009), (2016, 2010), (2017, 2039)] _ _ rfl rfl)) (fun j15 n15 v15 h => ?_) (fun v16 s h hs => ?_)
    ·unfold BH at h
     refine AK ?_
     refine AN h (fun v17 => mk [(1, oD (.ptr 1 0)), (2, oD (.ptr 2 0)), (4, oD (.ptr 4 0)), (7, iD v15.2), (74, bD v17)] [(1, .box (Dc p0)), (2, .box [.pure (.nil0), .pure (.nil0), .pure (.nil0), .pure (.nil0)]), (4, .box [.own 2022, .own 2023, .own 2024, .own 2025]), (2022, .vec 1 (v5.1.map Ak)), (2023, .vec 1 (v5.2.1.map Ak)), (2024, .vec 1 (v5.2.2.map Ak)), (2025, .vec 6 (v15.1.map AT))]) (fun j17 h => ?_) (fun v17 h => ?_)
     ·refine Ag As rfl (qm rfl (qf SR rfl (ql Z9 rfl (AO W4 rfl (AV rfl (qm rfl ?_))))))
      refine EM 69 h rfl (fun h => ?_) fun h => ?_
      ·refine qf Bf rfl (ql A6 rfl (FG Au rfl (FW rfl (qp rfl (Ab ?_)))))
       exact sn [(2022, 2014), (2023, 2015), (2024, 2016), (2025, 2017)] h
      ·refine qw 4 rfl (qp rfl (Ab ?_))
       exact sn [(2022, 2014), (2023, 2015), (2024, 2016), (2025, 2017)] h
     ·refine A7 h (fun h => ?_) fun h => ?_
      ·refine Ai (AK (AF (wq rfl (qf SR rfl (ql Z9 rfl (qm rfl ?_))))))
       refine Bb h fun v20 a20 b20 h => qi W4 Wy a20 (Ac b20) rfl (qK bg Wy rfl (qz bO rfl (qs Wy rfl (Ab (wq rfl (qf Xk rfl (ql bi rfl (Ng rfl (by decide) (Id Yv VV rfl (AP rfl (qf W3 rfl (ql bi rfl (Id Yv VV rfl (qf Bf rfl (ql A6 rfl (FG Au rfl ?_))))))))))))))))
       refine Gg h fun c21 h => Ng rfl c21 (qf WI rfl (ql bi rfl (Id Yv VV rfl (qf Bf rfl (ql A6 rfl (FG Au rfl ?_))))))
       refine Gg h fun c22 h => Ng rfl c22 (Bp JS Yw rfl (qz JS rfl (qs DM rfl (AD (by kernel_rfl) ?_))))
       refine AN h (fun v23 => mk [(1, oD (.ptr 1 0)), (2, oD (.ptr 2 0)), (4, oD (.ptr 4 0)), (7, iD v15.2), (8, oD (.ptr 8 0)), (9, oD (.ptr 9 0))] [(1, .box (Dc p0)), (2, .box [.pure (.nil0), .pure (.nil0), .pure (.nil0), .pure (.nil0)]), (4, .box [.own 2026, .own 2027, .own 2028, .own 2029]), (8, .box (OZ v20)), (9, .box [iC ((wI .i64 (1 + (wI .i64 ((zU v20.ff 4)))))), iC ((zU ((wI .i64 v20.fg)) ((v5.1.length : Int)))), iC ((zU ((wI .i64 v20.fj)) ((v5.1.length : Int)))), .pure (.val (.bool v23)), .pure (.nil0), .pure (.nil0)]), (2026, .vec 1 (v5.1.map Ak)), (2027, .vec 1 (v5.2.1.map Ak)), (2028, .vec 1 (v5.2.2.map Ak)), (2029, .vec 6 (v15.1.map AT))]) (fun j23 h => ?_) (fun v23 h => ?_)
       ·refine Ag As rfl (qf WB rfl (ql Ue rfl (qm rfl ?_)))
        refine EM 104 h rfl (fun h => ?_) fun h => ?_
        ·refine qL Hy DM rfl ?_
         refine Bq h fun v25 a25 h => Ax [] (CD N ((Am.mk ((wI .i64 (1 + (wI .i64 ((zU v20.ff 4)))))) ((zU ((wI .i64 v20.fg)) ((v5.1.length : Int)))) ((zU ((wI .i64 v20.fj)) ((v5.1.length : Int)))) false (([] : List (List Bool))) (([] : List (List Bool))))) v25 a25) Sy rfl (Cc rfl (qp rfl (qf Kg rfl (qs Qs rfl (Ab ?_)))))
         exact sn [(2026, 2022), (2027, 2023), (2028, 2024), (2029, 2025)] h
        ·refine qw 3 rfl (qp rfl (qf Kg rfl (qs Qs rfl (Ab ?_))))
         exact sn [(2026, 2022), (2027, 2023), (2028, 2024), (2029, 2025)] h
       ·refine wq rfl (qf Bf rfl (ql A6 rfl (qf DA rfl (ql B4 rfl ?_))))
        refine Bb h fun v26 a26 b26 h => qI Au CP a26 (Ac b26) rfl (qj B4 (Ac b26) rfl (qf Bf rfl (ql A6 rfl (qf Ik rfl (ql B4 rfl ?_)))))
        refine Bb h fun v27 a27 b27 h => qI Au CP a27 (Ac b27) rfl (qj B4 (Ac b27) rfl (qf WW rfl (ql cv rfl ?_)))
        refine Bq h fun v28 a28 h => Ax [2030] (Ky N v26 v27 v20.fw false v28 a28) bE rfl (qf HJ rfl (qs YP rfl (AD (by kernel_rfl) ?_)))
        refine AN h (fun v29 => mk [(1, oD (.ptr 1 0)), (2, oD (.ptr 2 0)), (4, oD (.ptr 4 0)), (7, iD v15.2), (9, oD (.ptr 9 0))] [(1, .box (Dc p0)), (2, .box [.pure (.nil0), .pure (.nil0), .pure (.nil0), .pure (.nil0)]), (4, .box [.own 2031, .own 2032, .own 2033, .own 2034]), (9, .box [iC ((wI .i64 (1 + (wI .i64 ((zU v20.ff 4)))))), iC ((zU ((wI .i64 v20.fg)) ((v5.1.length : Int)))), iC ((zU ((wI .i64 v20.fj)) ((v5.1.length : Int)))), .pure (.val (.bool v23)), .own 2035, .own 2036]), (2031, .vec 1 (v5.1.map Ak)), (2032, .vec 1 (v5.2.1.map Ak)), (2033, .vec 1 (v5.2.2.map Ak)), (2034, .vec 6 (v15.1.map AT)), (2035, .vec 1 (v28.map (Gq eB))), (2036, .vec 1 (v29.map (Gq eB)))]) (fun j29 h => ?_) (fun v29 h => ?_)
        ·refine wq rfl (qf G5 rfl (ql B4 rfl (B9 rfl (Ab ?_))))
         refine A7 h (fun h => ?_) fun h => ?_
         ·refine Ag As rfl (qf Bf rfl (ql A6 rfl (qf DA rfl (ql B4 rfl ?_))))
          refine Bb h fun v31 a31 b31 h => qI Au CP a31 (Ac b31) rfl (qj B4 (Ac b31) rfl (qf Bf rfl (ql A6 rfl (qf DA rfl (ql B4 rfl ?_)))))
          refine Bb h fun v32 a32 b32 h => qI Au CP a32 (Ac b32) rfl (qj B4 (Ac b32) rfl (qf XC rfl (ql cv rfl ?_)))
          refine Bq h fun v33 a33 h => Ax [2037] (Ky N v31 v32 v20.fy true v33 a33) bE rfl (qf F5 rfl (qs YP rfl (AD (by kernel_rfl) ?_)))
          exact sn [(2031, 2026), (2032, 2027), (2033, 2028), (2034, 2029), (2035, 2030), (2036, 2037)] h
         ·refine Ai ?_
          exact WK _ h ((Ar 9 5 2038 1 _ rfl rfl rfl rfl).trans (sm [(2031, 2026), (2032, 2027), (2033, 2028), (2034, 2029), (2035, 2030), (2036, 2038)] _ _ rfl rfl))
        ·refine Ag As rfl (qf Cs rfl (ql HN rfl (qL Hy DM rfl (DG (Bt 2035 _ _ rfl rfl) (DG (Bt 2036 _ _ rfl rfl) (DQ DT DM JS rfl ?_))))))
         refine Gg h fun c34 h => CJ (f := AT) DT DT DM Ww JS c34 rfl (qf Cs rfl (qs Z3 rfl (Ab (Ag As rfl (qm rfl (AP rfl (qe rfl ?_)))))))
         exact sn [(2014, 2031), (2015, 2032), (2016, 2033), (2017, 149)] h
      ·refine AQ ?_
       exact sn [(2018, 2022), (2019, 2023), (2020, 2024), (2021, 2025)] h
    ·refine Af hs (wq rfl (qL Dk Cg rfl (qs Cg rfl (qe rfl ?_))))
     obtain rfl := sj h
     refine Af (sm [(1000, 2018), (1001, 2019), (1002, 2020), (1003, 2021)] [(2, oD (.ptr 2 0)), (3, bD true)] [(2, .box [.own 1000, .own 1001, .own 1002, .own 1003]), (1000, .vec 1 (v5.1.map Ak)), (1001, .vec 1 (v5.2.1.map Ak)), (1002, .vec 1 (v5.2.2.map Ak)), (1003, .vec 6 (v16.map AT))] rfl rfl) (Aq ?_)
     exact ⟨⟨[_, _], ⟨.cellN _ _ _ _ _ _ _ rfl rfl Dk Cg rfl rfl (Kn rfl), tm⟩, rfl⟩, ⟨rfl, rfl, rfl, rfl, tv⟩⟩
theorem JL (N : Nat) (p0 : List (List Bool)) (p1 : Int) (p2 : Int) (r : Bool) (h : El N p0 p1 p2 = some r) : An zA 98 [pD (.sl (p0.map (Gq eB))), iD p1, iD p2] [] (bD r) := by
 unfold El at h
 refine cw (n := 24) (rs := [.tmp 6]) Tryz.func98 fun w0 S0 => ?_
 refine wq rfl (qa rfl (Ab (wp rfl (qm rfl (AO E5 rfl (qm rfl (BB rfl (Ab ?_))))))))
 refine A7 h (fun h => ?_) fun h => ?_
 ·refine wq rfl (qe rfl ?_)
  obtain rfl := sj h
  refine Af (sm [] [(6, bD false)] [] rfl rfl) (Aq ?_)
  exact ⟨⟨[_], tm, rfl⟩, tv⟩
 ·refine Ai (wp rfl (qe rfl ?_))
  refine Ay (L := CQ N p0 p1 p2) h (fun v2 => mk [(0, pD (.sl (p0.map (Gq eB)))), (1, iD p1), (2, iD p2), (7, iD v2)] []) (fun v3 => mk [] []) (fun _ _ => rfl) (sm [] _ _ rfl rfl) (fun j2 n2 v2 h => ?_) (fun v3 s h hs => ?_)
  ·unfold CQ at h
   refine wp rfl (qw 2 rfl (AV rfl (Ab ?_)))
   refine A7 h (fun h => ?_) fun h => ?_
   ·refine Ai (AK (AF (wq rfl (qw 2 rfl ?_))))
    refine Bb h fun v5 a5 b5 h => qi E5 KF a5 (Ac b5) rfl (qk Pp rfl (AO F1 rfl (qm rfl (BB rfl (Ab ?_)))))
    refine A7 h (fun h => ?_) fun h => ?_
    ·refine wq rfl (qe rfl ?_)
     obtain rfl := sj h
     refine Af (sm [] [(6, bD false)] [] rfl rfl) (Aq ?_)
     exact ⟨⟨[_], tm, rfl⟩, tv⟩
    ·refine Ai (Ag As rfl (qm rfl (AP rfl (qe rfl ?_))))
     exact sn [] h
   ·refine AQ ?_
    exact sn [] h
  ·refine Af hs (wq rfl (qe rfl ?_))
   obtain rfl := sj h
   refine Af (sm [] [(6, bD true)] [] rfl rfl) (Aq ?_)
   exact ⟨⟨[_], tm, rfl⟩, tv⟩
theorem MQ (N : Nat) (p0 : Aa) (p1 : Am) (r : Int) (h : Fy N p0 p1 = some r) : An zA 64 [.e (.agg (Ah p0)), .e (.agg (Bg p1))] [] (iD r) := by
 unfold Fy at h
 refine cw (n := 101) (rs := [.tmp 4]) Tryz.func64 fun w0 S0 => ?_
 refine wq rfl (qb rfl (qb rfl (qa rfl (Ab (AK ?_)))))
 refine AN h (fun v1 => mk [(2, oD (.ptr 2 0)), (3, oD (.ptr 3 0)), (22, bD v1)] [(2, .box (Ah p0)), (3, .box (Bg p1))]) (fun j1 h => ?_) (fun v1 h => ?_)
 ·refine Ag As rfl (qf G5 rfl (ql B4 rfl (AV rfl (qm rfl ?_))))
  refine EM 10 h rfl (fun h => ?_) fun h => ?_
  ·refine qw 3 rfl (qp rfl (qw 4 rfl (qu rfl (qu rfl (qn rfl (qp rfl (Ab ?_)))))))
   exact sn [] h
  ·refine qf G5 rfl (ql B4 rfl (FW rfl (qp rfl (qm rfl ?_))))
   refine EM 15 h rfl (fun h => ?_) fun h => ?_
   ·refine qw 3 rfl (qu rfl (qu rfl (qn rfl (qp rfl (Ab ?_)))))
    exact sn [] h
   ·refine qf Kg rfl (ql Ue rfl (qm rfl ?_))
    refine EM 18 h rfl (fun h => ?_) fun h => ?_
    ·refine qL Hy DM rfl ?_
     refine Bq h fun v5 a5 h => Ax [] (CD N p1 v5 a5) Sy rfl (qp rfl (qp rfl (Ab ?_)))
     exact sn [] h
    ·refine qw 2 rfl (qp rfl (qp rfl (Ab ?_)))
     exact sn [] h
 ·refine A7 h (fun h => ?_) fun h => ?_
  ·refine wq rfl (qe rfl ?_)
   obtain rfl := sj h
   refine Af (sm [] [(4, iD 1)] [] rfl rfl) (Aq ?_)
   exact ⟨⟨[_], tm, rfl⟩, tv⟩
  ·refine Ai (wq rfl (qf Bf rfl (ql A6 rfl (AO Au rfl (qa rfl (Ab (AK ?_)))))))
   refine AN h (fun v7 => mk [(2, oD (.ptr 2 0)), (3, oD (.ptr 3 0)), (45, bD v7)] [(2, .box (Ah p0)), (3, .box (Bg p1))]) (fun j7 h => ?_) (fun v7 h => ?_)
   ·refine Ag As rfl (qf DA rfl (ql B4 rfl (AV rfl (qm rfl ?_))))
    refine EM 29 h rfl (fun h => ?_) fun h => ?_
    ·refine qw 4 rfl (qp rfl (qw 4 rfl (qp rfl (qw 5 rfl (qp rfl (Ab ?_))))))
     exact sn [] h
    ·refine qf DA rfl (ql B4 rfl (qm rfl (Df rfl (qp rfl (qm rfl ?_)))))
     refine EM 35 h rfl (fun h => ?_) fun h => ?_
     ·refine qw 3 rfl (qp rfl (qw 5 rfl (qp rfl (Ab ?_))))
      exact sn [] h
     ·refine qf Ik rfl (ql B4 rfl (AV rfl (qp rfl (qm rfl ?_))))
      refine EM 40 h rfl (fun h => ?_) fun h => ?_
      ·refine qw 4 rfl (qp rfl (Ab ?_))
       exact sn [] h
      ·refine qf Ik rfl (ql B4 rfl (qm rfl (Df rfl (qp rfl (Ab ?_)))))
       exact sn [] h
   ·refine A7 h (fun h => ?_) fun h => ?_
    ·refine wq rfl (qe rfl ?_)
     obtain rfl := sj h
     refine Af (sm [] [(4, iD 4)] [] rfl rfl) (Aq ?_)
     exact ⟨⟨[_], tm, rfl⟩, tv⟩
    ·refine Ai (wp rfl (qf HJ rfl (ql Jf rfl (qf Bf rfl (ql A6 rfl (qf DA rfl (ql B4 rfl ?_)))))))
     refine Bb h fun v12 a12 b12 h => qi Au CP a12 (Ac b12) rfl (qk B4 rfl (qf Bf rfl (ql A6 rfl (qf Ik rfl (ql B4 rfl ?_)))))
     refine Bb h fun v13 a13 b13 h => qi Au CP a13 (Ac b13) rfl (qk B4 rfl ?_)
     refine Bq h fun v14 a14 h => Ax [] (JL N p1.fq v12 v13 v14 a14) db rfl (Cc rfl (AD (by kernel_rfl) ?_))
     refine A7 h (fun h => ?_) fun h => ?_
     ·refine wq rfl (qe rfl ?_)
      obtain rfl := sj h
      refine Af (sm [] [(4, iD 6)] [] rfl rfl) (Aq ?_)
      exact ⟨⟨[_], tm, rfl⟩, tv⟩
     ·refine Ai (wp rfl (qf G5 rfl (ql B4 rfl (BB rfl (Ab ?_)))))
      refine A7 h (fun h => ?_) fun h => ?_
      ·refine wp rfl (qf F5 rfl (ql Jf rfl (AO E5 rfl (BB rfl (Ab ?_)))))
       refine A7 h (fun h => ?_) fun h => ?_
       ·refine wq rfl (qe rfl ?_)
        obtain rfl := sj h
        refine Af (sm [] [(4, iD 6)] [] rfl rfl) (Aq ?_)
        exact ⟨⟨[_], tm, rfl⟩, tv⟩
       ·refine Ai (wq rfl (qe rfl ?_))
        obtain rfl := sj h
        refine Af (sm [] [(4, iD 0)] [] rfl rfl) (Aq ?_)
        exact ⟨⟨[_], tm, rfl⟩, tv⟩
      ·refine Ai (wp rfl (qf F5 rfl (ql Jf rfl (qf Bf rfl (ql A6 rfl (qf DA rfl (ql B4 rfl ?_)))))))
       refine Bb h fun v18 a18 b18 h => qi Au CP a18 (Ac b18) rfl (qk B4 rfl (qf Bf rfl (ql A6 rfl (qf DA rfl (ql B4 rfl ?_)))))
       refine Bb h fun v19 a19 b19 h => qi Au CP a19 (Ac b19) rfl (qk B4 rfl ?_)
       refine Bq h fun v20 a20 h => Ax [] (JL N p1.fk v18 v19 v20 a20) db rfl (Cc rfl (AD (by kernel_rfl) ?_))
       refine A7 h (fun h => ?_) fun h => ?_
       ·refine wq rfl (qe rfl ?_)
        obtain rfl := sj h
        refine Af (sm [] [(4, iD 6)] [] rfl rfl) (Aq ?_)
        exact ⟨⟨[_], tm, rfl⟩, tv⟩
       ·refine Ai (wp rfl (qe rfl ?_))
        refine Ay (L := Ci N p1) h (fun v22 => mk [(3, oD (.ptr 3 0)), (6, iD v22)] [(3, .box (Bg p1))]) (fun v23 => mk [] []) (fun _ _ => rfl) (sm [] _ _ rfl rfl) (fun j22 n22 v22 h => ?_) (fun v23 s h hs => ?_)
        ·unfold Ci at h
         refine wp rfl (qm rfl (qf F5 rfl (ql Jf rfl (AO E5 rfl (AV rfl (Ab ?_))))))
         refine A7 h (fun h => ?_) fun h => ?_
         ·refine Ai (AK (AF (wq rfl (qf F5 rfl (ql Jf rfl (qm rfl ?_))))))
          refine Bb h fun v25 a25 b25 h => qi E5 KF a25 (Ac b25) rfl (qk Pp rfl (qm rfl ?_))
          refine Bb h fun v26 a26 b26 h => qi F1 Qs a26 (Ac b26) rfl (qk Ue rfl (Cc rfl (Ab ?_)))
          refine A7 h (fun h => ?_) fun h => ?_
          ·refine wq rfl (qe rfl ?_)
           obtain rfl := sj h
           refine Af (sm [] [(4, iD 1)] [] rfl rfl) (Aq ?_)
           exact ⟨⟨[_], tm, rfl⟩, tv⟩
          ·refine Ai (Ag As rfl (qm rfl (AP rfl (qe rfl ?_))))
           exact sn [] h
         ·refine AQ ?_
          exact sn [] h
        ·refine Af hs (wq rfl (qe rfl ?_))
         obtain rfl := sj h
         refine Af (sm [] [(4, iD 0)] [] rfl rfl) (Aq ?_)
         exact ⟨⟨[_], tm, rfl⟩, tv⟩
theorem ET (N : Nat) (p0 : Aa) (r : Int) (h : BK N p0 = some r) : An zA 33 [.e (.agg (Ah p0))] [] (iD r) := by
 unfold BK at h
 refine cw (n := 102) (rs := [.tmp 2]) Tryz.func33 fun w0 S0 => ?_
 refine wq rfl (qb rfl (qa rfl (Ab (AK ?_))))
 refine AN h (fun v1 => mk [(1, oD (.ptr 1 0)), (16, bD v1)] [(1, .box (Ah p0))]) (fun j1 h => ?_) (fun v1 h => ?_)
 ·refine Ag As rfl (qf Bf rfl (ql A6 rfl (AO Au rfl (FW rfl (qm rfl ?_)))))
  refine EM 11 h rfl (fun h => ?_) fun h => ?_
  ·refine qw 4 rfl (qp rfl (Ab ?_))
   exact sn [] h
  ·refine qf Cs rfl (ql HN rfl (AO DT rfl (FW rfl (qp rfl (Ab ?_)))))
   exact sn [] h
 ·refine A7 h (fun h => ?_) fun h => ?_
  ·refine wq rfl (qe rfl ?_)
   obtain rfl := sj h
   refine Af (sm [] [(2, iD 3)] [] rfl rfl) (Aq ?_)
   exact ⟨⟨[_], tm, rfl⟩, tv⟩
  ·refine Ai (AK ?_)
   refine AN h (fun v4 => mk [(1, oD (.ptr 1 0)), (32, bD v4)] [(1, .box (Ah p0))]) (fun j4 h => ?_) (fun v4 h => ?_)
   ·refine Ag As rfl (qf F7 rfl (ql A6 rfl (AO Au rfl (qf Bf rfl (ql A6 rfl (AO Au rfl (BB rfl (qm rfl ?_))))))))
    refine EM 24 h rfl (fun h => ?_) fun h => ?_
    ·refine qw 7 rfl (qp rfl (Ab ?_))
     exact sn [] h
    ·refine qf Hg rfl (ql A6 rfl (AO Au rfl (qf Bf rfl (ql A6 rfl (AO Au rfl (BB rfl (qp rfl (Ab ?_))))))))
     exact sn [] h
   ·refine A7 h (fun h => ?_) fun h => ?_
    ·refine wq rfl (qe rfl ?_)
     obtain rfl := sj h
     refine Af (sm [] [(2, iD 6)] [] rfl rfl) (Aq ?_)
     exact ⟨⟨[_], tm, rfl⟩, tv⟩
    ·refine Ai (wp rfl (qe rfl ?_))
     refine Ay (L := Br N p0) h (fun v7 => mk [(1, oD (.ptr 1 0)), (3, iD v7)] [(1, .box (Ah p0))]) (fun v8 => mk [(1, oD (.ptr 1 0))] [(1, .box (Ah p0))]) (fun _ _ => rfl) (sm [] _ _ rfl rfl) (fun j7 n7 v7 h => ?_) (fun v8 s h hs => ?_)
     ·unfold Br at h
      refine wp rfl (qm rfl (qf Bf rfl (ql A6 rfl (AO Au rfl (AV rfl (Ab ?_))))))
      refine A7 h (fun h => ?_) fun h => ?_
      ·refine Ai (AK (AF (wq rfl (qf Bf rfl (ql A6 rfl (qm rfl ?_))))))
       refine Bb h fun v10 a10 b10 h => qi Au CP a10 (Ac b10) rfl (qk B4 rfl (qe rfl ?_))
       refine AN h (fun v11 => mk [(1, oD (.ptr 1 0)), (3, iD v7), (84, bD v11)] [(1, .box (Ah p0))]) (fun j11 h => ?_) (fun v11 h => ?_)
       ·refine Ag As rfl (qm rfl (AV rfl (qm rfl ?_)))
        refine EM 47 h rfl (fun h => ?_) fun h => ?_
        ·refine qw 2 rfl (qp rfl (qw 7 rfl (qp rfl (qw 8 rfl (qp rfl (qw 7 rfl (qp rfl (qw 8 rfl (qp rfl (Ab ?_))))))))))
         exact sn [] h
        ·refine qm rfl (FW rfl (qp rfl (qm rfl ?_)))
         refine EM 51 h rfl (fun h => ?_) fun h => ?_
         ·refine qw 6 rfl (qp rfl (qw 8 rfl (qp rfl (qw 7 rfl (qp rfl (qw 8 rfl (qp rfl (Ab ?_))))))))
          exact sn [] h
         ·refine qf F7 rfl (ql A6 rfl (qm rfl ?_))
          refine Bb h fun v14 a14 b14 h => qi Au CP a14 (Ac b14) rfl (qk B4 rfl (AV rfl (qp rfl (qm rfl ?_))))
          refine EM 59 h rfl (fun h => ?_) fun h => ?_
          ·refine qw 7 rfl (qp rfl (qw 7 rfl (qp rfl (qw 8 rfl (qp rfl (Ab ?_))))))
           exact sn [] h
          ·refine qf F7 rfl (ql A6 rfl (qm rfl ?_))
           refine Bb h fun v16 a16 b16 h => qi Au CP a16 (Ac b16) rfl (qk B4 rfl (qm rfl (Df rfl (qp rfl (qm rfl ?_)))))
           refine EM 68 h rfl (fun h => ?_) fun h => ?_
           ·refine qw 6 rfl (qp rfl (qw 8 rfl (qp rfl (Ab ?_))))
            exact sn [] h
           ·refine qf Hg rfl (ql A6 rfl (qm rfl ?_))
            refine Bb h fun v18 a18 b18 h => qi Au CP a18 (Ac b18) rfl (qk B4 rfl (AV rfl (qp rfl (qm rfl ?_))))
            refine EM 76 h rfl (fun h => ?_) fun h => ?_
            ·refine qw 7 rfl (qp rfl (Ab ?_))
             exact sn [] h
            ·refine qf Hg rfl (ql A6 rfl (qm rfl ?_))
             refine Bb h fun v20 a20 b20 h => qi Au CP a20 (Ac b20) rfl (qk B4 rfl (qm rfl (Df rfl (qp rfl (Ab ?_)))))
             exact sn [] h
       ·refine A7 h (fun h => ?_) fun h => ?_
        ·refine wq rfl (qe rfl ?_)
         obtain rfl := sj h
         refine Af (sm [] [(2, iD 7)] [] rfl rfl) (Aq ?_)
         exact ⟨⟨[_], tm, rfl⟩, tv⟩
        ·refine Ai (Ag As rfl (qm rfl (AP rfl (qe rfl ?_))))
         exact sn [] h
      ·refine AQ ?_
       exact sn [] h
     ·refine Af hs (wp rfl (qe rfl ?_))
      refine Ay (L := Bm N p0) h (fun v22 => mk [(1, oD (.ptr 1 0)), (5, iD v22)] [(1, .box (Ah p0))]) (fun v23 => mk [] []) (fun _ _ => rfl) (sm [] _ _ rfl rfl) (fun j22 n22 v22 h => ?_) (fun v23 s h hs => ?_)
      ·unfold Bm at h
       refine wp rfl (qm rfl (qf Cs rfl (ql HN rfl (AO DT rfl (AV rfl (Ab ?_))))))
       refine A7 h (fun h => ?_) fun h => ?_
       ·refine Ai (AK (AF (wq rfl (qL Dk Cg rfl (qf Cs rfl (ql HN rfl (qm rfl ?_)))))))
        refine Bb h fun v25 a25 b25 h => qi DT DM a25 (Ac b25) rfl (qK Hy DM rfl ?_)
        refine Bq h fun v26 a26 h => Ax [] (MQ N p0 v25 v26 a26) eG rfl (qa rfl (AD (by kernel_rfl) (wq rfl (qm rfl (BB rfl (Ab ?_))))))
        refine A7 h (fun h => ?_) fun h => ?_
        ·refine wq rfl (qm rfl (qe rfl ?_))
         obtain rfl := sj h
         refine Af (sm [] [(2, iD v26)] [] rfl rfl) (Aq ?_)
         exact ⟨⟨[_], tm, rfl⟩, tv⟩
        ·refine Ai (Ag As rfl (qm rfl (AP rfl (qe rfl ?_))))
         exact sn [] h
       ·refine AQ ?_
        exact sn [] h
      ·refine Af hs (wq rfl (qe rfl ?_))
       obtain rfl := sj h
       refine Af (sm [] [(2, iD 0)] [] rfl rfl) (Aq ?_)
       exact ⟨⟨[_], tm, rfl⟩, tv⟩
theorem NP (N : Nat) (p0 : Int) (r : (List Int)) (h : Ip N p0 = some r) : An zA 55 [iD p0] [(1, r.map Ak)] (oD (.own 0)) := by
 unfold Ip at h
 refine cw (n := 21) (rs := [.tmp 2]) Tryz.func55 fun w0 S0 => ?_
 refine wq rfl (qa rfl (Ab (wq rfl (qa rfl (Ab (wp rfl (qe rfl ?_)))))))
 refine Ay (L := F6 N p0) h (fun v1 => mk [(0, iD p0), (3, oD (.own 2001)), (4, iD v1.2)] [(2001, .vec 1 (v1.1.map Ak))]) (fun v2 => mk [(3, oD (.own 2002))] [(2002, .vec 1 (v2.map Ak))]) (fun _ _ => rfl) ((A2 3 2004 1 rfl rfl rfl).trans (sm [(2001, 2004)] _ _ rfl rfl)) (fun j1 n1 v1 h => ?_) (fun v2 s h hs => ?_)
 ·unfold F6 at h
  refine wp rfl (qw 2 rfl ?_)
  refine Gg h fun c3 h => Ga rfl c3 (FW rfl (Ab ?_))
  refine A7 h (fun h => ?_) fun h => ?_
  ·refine Ai ?_
   refine AN h (fun v5 => mk [(0, iD p0), (3, oD (.own 2003)), (4, iD v1.2)] [(2003, .vec 1 (v5.map Ak))]) (fun j5 h => ?_) (fun v5 h => ?_)
   ·refine AF (wq rfl (qw 2 rfl ?_))
    refine Gg h fun c6 h => Ga rfl c6 (Ng rfl (by decide) (B9 rfl (Ab ?_)))
    refine A7 h (fun h => ?_) fun h => ?_
    ·refine Ag As rfl (qw 2 rfl (DQ Au CP JH rfl ?_))
     refine Gg h fun c8 h => CJ (f := Ak) Au Au CP KS JH c8 rfl (qe rfl ?_)
     exact sn [(2003, 19)] h
    ·refine Ai ?_
     exact sn [(2003, 2001)] h
   ·refine Ag As rfl (qm rfl (AP rfl (qe rfl ?_)))
    exact sn [(2001, 2003)] h
  ·refine AQ ?_
   exact sn [(2002, 2001)] h
 ·refine Af hs (wq rfl (qm rfl (qe rfl ?_)))
  obtain rfl := sj h
  refine Af (sm [(1000, 2002)] [(2, oD (.own 1000))] [(1000, .vec 1 (v2.map Ak))] rfl rfl) (Aq ?_)
  exact ⟨⟨[_], tm, rfl⟩, ⟨rfl, tv⟩⟩
theorem Mu (N : Nat) (p0 : List Int) (p1 : List Int) (r : Bool) (h : Hs N p0 p1 = some r) : An zA 56 [pD (.sl (p0.map Ak)), pD (.sl (p1.map Ak))] [] (bD r) := by
 unfold Hs at h
 refine cw (n := 40) (rs := [.tmp 4]) Tryz.func56 fun w0 S0 => ?_
 refine wq rfl (qa rfl (Ab (wp rfl (qm rfl (AO Au rfl (qm rfl (AO Au rfl (BB rfl (Ab ?_)))))))))
 refine A7 h (fun h => ?_) fun h => ?_
 ·refine wq rfl (qm rfl (AO Au rfl (qm rfl (AO Au rfl (AV rfl (qe rfl ?_))))))
  obtain rfl := sj h
  refine Af (sm [] [(4, bD ((decide ((p0.length : Int) < (p1.length : Int)))))] [] rfl rfl) (Aq ?_)
  exact ⟨⟨[_], tm, rfl⟩, tv⟩
 ·refine Ai (wp rfl (qe rfl ?_))
  refine Ay (L := Fm N p0 p1) h (fun v2 => mk [(0, pD (.sl (p0.map Ak))), (1, pD (.sl (p1.map Ak))), (5, iD v2)] []) (fun v3 => mk [] []) (fun _ _ => rfl) (sm [] _ _ rfl rfl) (fun j2 n2 v2 h => ?_) (fun v3 s h hs => ?_)
  ·unfold Fm at h
   refine wp rfl (qw 2 rfl (AO Au rfl (AV rfl (Ab ?_))))
   refine A7 h (fun h => ?_) fun h => ?_
   ·refine Ai (AK (AF (wq rfl (qw 2 rfl ?_))))
    refine Bb h fun v5 a5 b5 h => qi Au CP a5 (Ac b5) rfl (qk B4 rfl (qw 2 rfl ?_))
    refine Bb h fun v6 a6 b6 h => qi Au CP a6 (Ac b6) rfl (qk B4 rfl (BB rfl (AD (by kernel_rfl) ?_)))
    refine A7 h (fun h => ?_) fun h => ?_
    ·refine wq rfl (qw 2 rfl ?_)
     refine Bb h fun v8 a8 b8 h => qi Au CP a8 (Ac b8) rfl (qk B4 rfl (qw 2 rfl ?_))
     refine Bb h fun v9 a9 b9 h => qi Au CP a9 (Ac b9) rfl (qk B4 rfl (AV rfl (qa rfl (AD (by kernel_rfl) ?_))))
     obtain rfl := sj h
     refine Af (sm [] [(4, bD ((decide (v8 < v9))))] [] rfl rfl) (Aq ?_)
     exact ⟨⟨[_], tm, rfl⟩, tv⟩
    ·refine Ai (Ag As rfl (qm rfl (AP rfl (qe rfl ?_))))
     exact sn [] h
   ·refine AQ ?_
    exact sn [] h
  ·refine Af hs (wq rfl (qe rfl ?_))
   obtain rfl := sj h
   refine Af (sm [] [(4, bD false)] [] rfl rfl) (Aq ?_)
   exact ⟨⟨[_], tm, rfl⟩, tv⟩
theorem NF (N : Nat) (p0 : Int) (r : (List (List Int))) (h : DE N p0 = some r) : An zA 30 [iD p0] [(1, r.map (Gq Ak))] (oD (.own 0)) := by
 unfold DE at h
 refine cw (n := 53) (rs := [.tmp 2]) Tryz.func30 fun w0 S0 => ?_
 refine wq rfl (qa rfl (Ab (wq rfl (qa rfl (Ab (wp rfl (qe rfl ?_)))))))
 refine Ay (L := FM N p0) h (fun v1 => mk [(0, iD p0), (3, oD (.own 2001)), (4, iD v1.2)] [(2001, .vec 1 (v1.1.map (Gq Ak)))]) (fun v2 => mk [(3, oD (.own 2002))] [(2002, .vec 1 (v2.map (Gq Ak)))]) (fun _ _ => rfl) ((A2 3 2007 1 rfl rfl rfl).trans (sm [(2001, 2007)] _ _ rfl rfl)) (fun j1 n1 v1 h => ?_) (fun v2 s h hs => ?_)
 ·unfold FM at h
  refine wp rfl (qw 2 rfl ?_)
  refine Gg h fun c3 h => I5 rfl c3 (AV rfl (Ab ?_))
  refine A7 h (fun h => ?_) fun h => ?_
  ·refine Ai (AK (AF (wq rfl (qw 2 rfl ?_))))
   refine Bq h fun v5 a5 h => Ax [2003] (NP N v1.2 v5 a5) dI rfl (DG (Bt 2003 _ _ rfl rfl) (DQ HW I6 VK rfl ?_))
   refine Gg h fun c6 h => CJ (f := (Gq Ak)) HW HW I6 Zy VK c6 rfl (qa rfl (Ab (wq rfl (qm rfl (FG HW rfl (Cy rfl (qe rfl ?_)))))))
   refine Ay (L := FQ N) h (fun v7 => mk [(0, iD p0), (3, oD (.own 2004)), (4, iD v1.2), (5, iD v7.2)] [(2004, .vec 1 (v7.1.map (Gq Ak)))]) (fun v8 => mk [(0, iD p0), (3, oD (.own 2005)), (4, iD v1.2)] [(2005, .vec 1 (v8.map (Gq Ak)))]) (fun _ _ => rfl) (sm [(2004, 16)] _ _ rfl rfl) (fun j7 n7 v7 h => ?_) (fun v8 s h hs => ?_)
   ·unfold FQ at h
    refine AK ?_
    refine AN h (fun v9 => mk [(0, iD p0), (3, oD (.own 2006)), (4, iD v1.2), (5, iD v7.2), (33, bD v9)] [(2006, .vec 1 (v7.1.map (Gq Ak)))]) (fun j9 h => ?_) (fun v9 h => ?_)
    ·refine Ag As rfl (qm rfl (FW rfl (qm rfl ?_)))
     refine EM 22 h rfl (fun h => ?_) fun h => ?_
     ·refine qw 2 rfl ?_
      refine Bb h fun v11 a11 b11 h => qI HW I6 a11 (Ac b11) rfl (qj A6 (Ac b11) rfl (qw 2 rfl (Cy rfl ?_)))
      refine Bb h fun v12 a12 b12 h => qI HW I6 a12 (Ac b12) rfl (qj A6 (Ac b12) rfl ?_)
      refine Bq h fun v13 a13 h => Ax [] (Mu N v11 v12 v13 a13) dO rfl (qp rfl (AD (by kernel_rfl) ?_))
      exact sn [(2006, 2004)] h
     ·refine qw 10 rfl (qp rfl (AD (by kernel_rfl) ?_))
      exact sn [(2006, 2004)] h
    ·refine A7 h (fun h => ?_) fun h => ?_
     ·refine Ai (AK (AF (Ag As rfl (qw 4 rfl (Cy rfl (qw 2 rfl (Cy rfl ?_)))))))
      refine Bb h fun v15 a15 b15 h => qI HW I6 a15 (Ac b15) rfl (qj A6 (Ac b15) rfl (qw 2 rfl ?_))
      refine Bb h fun v16 a16 b16 h => qI HW I6 a16 (Ac b16) rfl (qj A6 (Ac b16) rfl ?_)
      refine Bb h fun v17 a17 b17 h => qI HW I6 a17 (Ac b17) rfl ?_
      refine A8 rfl rfl rfl rfl (Ac b17) rfl I6 rfl (D8 rfl) (A5 (Gq Ak) v7.1 _ v15) ?_
      refine Bb h fun v18 a18 b18 h => qI HW I6 a18 (Ac b18) rfl ?_
      refine A8 rfl rfl rfl rfl (Ac b18) rfl I6 rfl (D8 rfl) (A5 (Gq Ak) (v7.1.set ((v7.2).toNat) v15) _ v16) ?_
      refine AD (by kernel_rfl) (Ag As rfl (qm rfl (Cy rfl (qe rfl ?_))))
      exact sn [(2004, 2006)] h
     ·refine AQ ?_
      exact sn [(2005, 2006)] h
   ·refine Af hs (Ag As rfl (qm rfl (AP rfl (qe rfl ?_))))
    exact sn [(2001, 2005)] h
  ·refine AQ ?_
   exact sn [(2002, 2001)] h
 ·refine Af hs (wq rfl (qm rfl (qe rfl ?_)))
  obtain rfl := sj h
  refine Af (sm [(1000, 2002)] [(2, oD (.own 1000))] [(1000, .vec 1 (v2.map (Gq Ak)))] rfl rfl) (Aq ?_)
  exact ⟨⟨[_], tm, rfl⟩, ⟨rfl, tv⟩⟩
theorem J0 (N : Nat) (p0 : List Int) (p1 : Int) (r : Int) (h : EG N p0 p1 = some r) : An zA 57 [pD (.sl (p0.map Ak)), iD p1] [] (iD r) := by
 unfold EG at h
 refine cw (n := 19) (rs := [.tmp 4]) Tryz.func57 fun w0 S0 => ?_
 refine wq rfl (qa rfl (Ab (wp rfl (qe rfl ?_))))
 refine Ay (L := Ct N p0 p1) h (fun v1 => mk [(0, pD (.sl (p0.map Ak))), (1, iD p1), (5, iD v1)] []) (fun v2 => mk [] []) (fun _ _ => rfl) (sm [] _ _ rfl rfl) (fun j1 n1 v1 h => ?_) (fun v2 s h hs => ?_)
 ·unfold Ct at h
  refine wp rfl (qw 2 rfl (AO Au rfl (AV rfl (Ab ?_))))
  refine A7 h (fun h => ?_) fun h => ?_
  ·refine Ai (AK (AF (wq rfl (qw 2 rfl ?_))))
   refine Bb h fun v4 a4 b4 h => qi Au CP a4 (Ac b4) rfl (qk B4 rfl (qm rfl (B9 rfl (Ab ?_))))
   refine A7 h (fun h => ?_) fun h => ?_
   ·refine wq rfl (qm rfl (qe rfl ?_))
    obtain rfl := sj h
    refine Af (sm [] [(4, iD v1)] [] rfl rfl) (Aq ?_)
    exact ⟨⟨[_], tm, rfl⟩, tv⟩
   ·refine Ai (Ag As rfl (qm rfl (AP rfl (qe rfl ?_))))
    exact sn [] h
  ·refine AQ ?_
   exact sn [] h
 ·refine Af hs (wq rfl (qe rfl ?_))
  obtain rfl := sj h
  refine Af (sm [] [(4, iD ((-1)))] [] rfl rfl) (Aq ?_)
  exact ⟨⟨[_], tm, rfl⟩, tv⟩
theorem JJ (N : Nat) (p0 : List (List Bool)) (r : (List (List Bool))) (h : Ek N p0 = some r) : An zA 92 [pD (.sl (p0.map (Gq eB)))] [(1, r.map (Gq eB))] (oD (.own 0)) := by
 unfold Ek at h
 refine cw (n := 21) (rs := [.tmp 2]) Tryz.func92 fun w0 S0 => ?_
 refine wq rfl (qa rfl (Ab (wq rfl (qa rfl (Ab (wp rfl (qe rfl ?_)))))))
 refine Ay (L := CR N p0) h (fun v1 => mk [(0, pD (.sl (p0.map (Gq eB)))), (3, oD (.own 2001)), (4, iD v1.2)] [(2001, .vec 1 (v1.1.map (Gq eB)))]) (fun v2 => mk [(3, oD (.own 2002))] [(2002, .vec 1 (v2.map (Gq eB)))]) (fun _ _ => rfl) ((A2 3 2003 1 rfl rfl rfl).trans (sm [(2001, 2003)] _ _ rfl rfl)) (fun j1 n1 v1 h => ?_) (fun v2 s h hs => ?_)
 ·unfold CR at h
  refine wp rfl (qw 2 rfl (AO E5 rfl (AV rfl (Ab ?_))))
  refine A7 h (fun h => ?_) fun h => ?_
  ·refine Ai (AK (AF (Ag As rfl (qm rfl (DQ F1 Qs Uf rfl (qw 2 rfl ?_))))))
   refine Bb h fun v4 a4 b4 h => qi E5 KF a4 (Ac b4) rfl (qk Pp rfl ?_)
   refine Gg h fun c5 h => JV (f := eB) F1 F1 Qs W5 Uf (fun _ => rfl) c5 rfl (DG (Bt 17 _ _ rfl rfl) (DQ E5 KF UR rfl ?_))
   refine Gg h fun c6 h => CJ (f := (Gq eB)) E5 E5 KF WQ UR c6 rfl (qa rfl (Ab (Ag As rfl (qm rfl (AP rfl (qe rfl ?_))))))
   exact sn [(2001, 19)] h
  ·refine AQ ?_
   exact sn [(2002, 2001)] h
 ·refine Af hs (wq rfl (qm rfl (qe rfl ?_)))
  obtain rfl := sj h
  refine Af (sm [(1000, 2002)] [(2, oD (.own 1000))] [(1000, .vec 1 (v2.map (Gq eB)))] rfl rfl) (Aq ?_)
  exact ⟨⟨[_], tm, rfl⟩, ⟨rfl, tv⟩⟩
theorem Mh (N : Nat) (p0 : Am) (p1 : Int) (p2 : Int) (r : Am) (h : F4 N p0 p1 p2 = some r) : An zA 58 [.e (.agg (Bg p0)), iD p1, iD p2] [(1, r.fq.map (Gq eB)), (1, r.fk.map (Gq eB))] (.e (.agg [iC r.ff, iC r.fg, iC r.fj, .pure (.val (.bool r.fr)), .own 0, .own 1])) := by
 unfold F4 at h
 refine cw (n := 20) (rs := [.cell 6 84]) Tryz.func58 fun w0 S0 => ?_
 refine wq rfl (qb rfl (qz JS rfl (Ab (wq rfl (qf G5 rfl (ql B4 rfl (qw 2 rfl (qf Kg rfl (ql Ue rfl (qf HJ rfl (ql Jf rfl ?_)))))))))))
 refine Bq h fun v1 a1 h => Ax [2001] (JJ N p0.fq v1 a1) dn rfl (qf F5 rfl (ql Jf rfl ?_))
 refine Bq h fun v2 a2 h => Ax [2002] (JJ N p0.fk v2 a2) dn rfl (Bp JS Yw rfl (qs DM rfl (AD (by kernel_rfl) ?_)))
 obtain rfl := sj h
 refine Af (sm [(1000, 2001), (1001, 2002)] [(6, oD (.ptr 6 0))] [(6, .box [iC p0.ff, iC p1, iC p2, .pure (.val (.bool p0.fr)), .own 1000, .own 1001]), (1000, .vec 1 (v1.map (Gq eB))), (1001, .vec 1 (v2.map (Gq eB)))] rfl rfl) (Aq ?_)
 exact ⟨⟨[_], ⟨.cellN _ _ _ _ _ _ _ rfl rfl Hy DM rfl rfl (Kn rfl), tv⟩, rfl⟩, ⟨rfl, rfl, tv⟩⟩
theorem IQ (N : Nat) (p0 : Aa) (p1 : List Int) (r : Aa × Int) (h : DO N p0 p1 = some r) : An zA 31 [.e (.agg (Ah p0)), pD (.sl (p1.map Ak))] [(1, r.1.fb.map Ak), (1, r.1.fi.map Ak), (1, r.1.fm.map Ak), (6, r.1.fc.map AT)] (.tup [.agg [.own 0, .own 1, .own 2, .own 3], .one (iC r.2)]) := by
 unfold DO at h
 refine cw (n := 124) (rs := [.cell 4 29, .tmp 5]) Tryz.func31 fun w0 S0 => ?_
 refine wq rfl (qb rfl (qz K8 rfl (qa rfl (Ab (wp rfl (qL Dk Cg rfl ?_))))))
 refine Bq h fun v1 a1 h => Ax [] (ET N p0 v1 a1) Zc rfl (qa rfl (Ab (wq rfl (qm rfl (BB rfl (Ab ?_))))))
 refine A7 h (fun h => ?_) fun h => ?_
 ·refine wq rfl (Bp K8 SU rfl (qm rfl (qs Cg rfl (qe rfl ?_))))
  obtain rfl := sj h
  refine Af ((Ar 4 0 2001 1 _ rfl rfl rfl rfl).trans ((Ar 4 1 2002 1 _ rfl rfl rfl rfl).trans ((Ar 4 2 2003 1 _ rfl rfl rfl rfl).trans ((Ar 4 3 2004 6 _ rfl rfl rfl rfl).trans (sm [(1000, 2001), (1001, 2002), (1002, 2003), (1003, 2004)] [(4, oD (.ptr 4 0)), (5, iD v1)] [(4, .box [.own 1000, .own 1001, .own 1002, .own 1003]), (1000, .vec 1 ((([] : List Int)).map Ak)), (1001, .vec 1 ((([] : List Int)).map Ak)), (1002, .vec 1 ((([] : List Int)).map Ak)), (1003, .vec 6 ((([] : List Am)).map AT))] rfl rfl))))) (Aq ?_)
  exact ⟨⟨[_, _], ⟨.cellN _ _ _ _ _ _ _ rfl rfl Dk Cg rfl rfl (Kn rfl), tm⟩, rfl⟩, ⟨rfl, rfl, rfl, rfl, tv⟩⟩
 ·refine Ai (wp rfl (qe rfl ?_))
  refine Ay (L := A1 N p1) h (fun v3 => mk [(1, pD (.sl (p1.map Ak))), (2, oD (.ptr 2 0)), (4, oD (.ptr 4 0)), (7, iD v3)] [(2, .box (Ah p0)), (4, .box [.pure (.nil0), .pure (.nil0), .pure (.nil0), .pure (.nil0)])]) (fun v4 => mk [(1, pD (.sl (p1.map Ak))), (2, oD (.ptr 2 0)), (4, oD (.ptr 4 0))] [(2, .box (Ah p0)), (4, .box [.pure (.nil0), .pure (.nil0), .pure (.nil0), .pure (.nil0)])]) (fun _ _ => rfl) (sm [] _ _ rfl rfl) (fun j3 n3 v3 h => ?_) (fun v4 s h hs => ?_)
  ·unfold A1 at h
   refine wp rfl (qw 2 rfl (AO Au rfl (AV rfl (Ab ?_))))
   refine A7 h (fun h => ?_) fun h => ?_
   ·refine Ai (AK (AF (wq rfl (qw 2 rfl ?_))))
    refine Bb h fun v6 a6 b6 h => qi Au CP a6 (Ac b6) rfl (qk B4 rfl (qw 2 rfl (Cy rfl ?_)))
    refine Bb h fun v7 a7 b7 h => qi Au CP a7 (Ac b7) rfl (qk B4 rfl (L2 rfl (AD (by kernel_rfl) ?_)))
    refine A7 h (fun h => ?_) fun h => ?_
    ·refine wq rfl (Bp K8 SU rfl (qs Cg rfl (qe rfl ?_)))
     obtain rfl := sj h
     refine Af ((Ar 4 0 2005 1 _ rfl rfl rfl rfl).trans ((Ar 4 1 2006 1 _ rfl rfl rfl rfl).trans ((Ar 4 2 2007 1 _ rfl rfl rfl rfl).trans ((Ar 4 3 2008 6 _ rfl rfl rfl rfl).trans (sm [(1000, 2005), (1001, 2006), (1002, 2007), (1003, 2008)] [(4, oD (.ptr 4 0)), (5, iD 1)] [(4, .box [.own 1000, .own 1001, .own 1002, .own 1003]), (1000, .vec 1 ((([] : List Int)).map Ak)), (1001, .vec 1 ((([] : List Int)).map Ak)), (1002, .vec 1 ((([] : List Int)).map Ak)), (1003, .vec 6 ((([] : List Am)).map AT))] rfl rfl))))) (Aq ?_)
     exact ⟨⟨[_, _], ⟨.cellN _ _ _ _ _ _ _ rfl rfl Dk Cg rfl rfl (Kn rfl), tm⟩, rfl⟩, ⟨rfl, rfl, rfl, rfl, tv⟩⟩
    ·refine Ai (Ag As rfl (qm rfl (AP rfl (qe rfl ?_))))
     exact sn [] h
   ·refine AQ ?_
    exact sn [] h
  ·refine Af hs (wq rfl (qz K8 rfl (Ab (wp rfl (qe rfl ?_)))))
   refine Ay (L := C7 N p0 p1) h (fun v9 => mk [(1, pD (.sl (p1.map Ak))), (2, oD (.ptr 2 0)), (4, oD (.ptr 4 0)), (8, oD (.ptr 8 0)), (9, iD v9.2.2.2)] [(2, .box (Ah p0)), (4, .box [.pure (.nil0), .pure (.nil0), .pure (.nil0), .pure (.nil0)]), (8, .box [.own 2009, .own 2010, .own 2011, .pure (.nil0)]), (2009, .vec 1 (v9.1.map Ak)), (2010, .vec 1 (v9.2.1.map Ak)), (2011, .vec 1 (v9.2.2.1.map Ak))]) (fun v10 => mk [(1, pD (.sl (p1.map Ak))), (2, oD (.ptr 2 0)), (4, oD (.ptr 4 0)), (8, oD (.ptr 8 0))] [(2, .box (Ah p0)), (4, .box [.pure (.nil0), .pure (.nil0), .pure (.nil0), .pure (.nil0)]), (8, .box [.own 2012, .own 2013, .own 2014, .pure (.nil0)]), (2012, .vec 1 (v10.1.map Ak)), (2013, .vec 1 (v10.2.1.map Ak)), (2014, .vec 1 (v10.2.2.map Ak))]) (fun _ _ => rfl) ((Ar 8 0 2022 1 _ rfl rfl rfl rfl).trans ((Ar 8 1 2023 1 _ rfl rfl rfl rfl).trans ((Ar 8 2 2024 1 _ rfl rfl rfl rfl).trans (sm [(2009, 2022), (2010, 2023), (2011, 2024)] _ _ rfl rfl)))) (fun j9 n9 v9 h => ?_) (fun v10 s h hs => ?_)
   ·unfold C7 at h
    refine wp rfl (qw 2 rfl (AO Au rfl (AV rfl (Ab ?_))))
    refine A7 h (fun h => ?_) fun h => ?_
    ·refine Ai (AK (AF (wq rfl (qw 2 rfl ?_))))
     refine Bb h fun v12 a12 b12 h => qi Au CP a12 (Ac b12) rfl (qk B4 rfl (qa rfl (Ab (AK ?_))))
     refine AN h (fun v13 => mk [(1, pD (.sl (p1.map Ak))), (2, oD (.ptr 2 0)), (4, oD (.ptr 4 0)), (8, oD (.ptr 8 0)), (9, iD v9.2.2.2), (10, iD v12), (56, bD v13)] [(2, .box (Ah p0)), (4, .box [.pure (.nil0), .pure (.nil0), .pure (.nil0), .pure (.nil0)]), (8, .box [.own 2015, .own 2016, .own 2017, .pure (.nil0)]), (2015, .vec 1 (v9.1.map Ak)), (2016, .vec 1 (v9.2.1.map Ak)), (2017, .vec 1 (v9.2.2.1.map Ak))]) (fun j13 h => ?_) (fun v13 h => ?_)
     ·refine Ag As rfl (qm rfl (AV rfl (qm rfl ?_)))
      refine EM 50 h rfl (fun h => ?_) fun h => ?_
      ·refine qw 5 rfl (qp rfl (Ab ?_))
       exact sn [(2015, 2009), (2016, 2010), (2017, 2011)] h
      ·refine qm rfl (qf Bf rfl (ql A6 rfl (AO Au rfl (Df rfl (qp rfl (Ab ?_))))))
       exact sn [(2015, 2009), (2016, 2010), (2017, 2011)] h
     ·refine A7 h (fun h => ?_) fun h => ?_
      ·refine wq rfl (Bp K8 SU rfl (qs Cg rfl (qe rfl ?_)))
       obtain rfl := sj h
       refine Af ((Ar 4 0 2018 1 _ rfl rfl rfl rfl).trans ((Ar 4 1 2019 1 _ rfl rfl rfl rfl).trans ((Ar 4 2 2020 1 _ rfl rfl rfl rfl).trans ((Ar 4 3 2021 6 _ rfl rfl rfl rfl).trans (sm [(1000, 2018), (1001, 2019), (1002, 2020), (1003, 2021)] [(4, oD (.ptr 4 0)), (5, iD 4)] [(4, .box [.own 1000, .own 1001, .own 1002, .own 1003]), (1000, .vec 1 ((([] : List Int)).map Ak)), (1001, .vec 1 ((([] : List Int)).map Ak)), (1002, .vec 1 ((([] : List Int)).map Ak)), (1003, .vec 6 ((([] : List Am)).map AT))] rfl rfl))))) (Aq ?_)
       exact ⟨⟨[_, _], ⟨.cellN _ _ _ _ _ _ _ rfl rfl Dk Cg rfl rfl (Kn rfl), tm⟩, rfl⟩, ⟨rfl, rfl, rfl, rfl, tv⟩⟩
      ·refine Ai (wq rfl (qf Bf rfl (ql A6 rfl (qf Bf rfl (ql A6 rfl (qm rfl ?_))))))
       refine Bb h fun v16 a16 b16 h => qi Au CP a16 (Ac b16) rfl (qk B4 rfl (DQ Au CP JH rfl ?_))
       refine Gg h fun c17 h => CJ (f := Ak) Au Au CP KS JH c17 rfl (qf Bf rfl (qs I6 rfl (AD (by kernel_rfl) (wq rfl (qf F7 rfl (ql A6 rfl (qf F7 rfl (ql A6 rfl (qm rfl ?_)))))))))
       refine Bb h fun v18 a18 b18 h => qi Au CP a18 (Ac b18) rfl (qk B4 rfl (DQ Au CP JH rfl ?_))
       refine Gg h fun c19 h => CJ (f := Ak) Au Au CP KS JH c19 rfl (qf F7 rfl (qs I6 rfl (AD (by kernel_rfl) (Ag As rfl (qf Hg rfl (ql A6 rfl (qf Hg rfl (ql A6 rfl (qm rfl ?_)))))))))
       refine Bb h fun v20 a20 b20 h => qi Au CP a20 (Ac b20) rfl (qk B4 rfl (DQ Au CP JH rfl ?_))
       refine Gg h fun c21 h => CJ (f := Ak) Au Au CP KS JH c21 rfl (qf Hg rfl (qs I6 rfl (AD (by kernel_rfl) (Ag As rfl (qm rfl (AP rfl (qe rfl ?_)))))))
       exact sn [(2009, 66), (2010, 76), (2011, 86)] h
    ·refine AQ ?_
     exact sn [(2012, 2009), (2013, 2010), (2014, 2011)] h
   ·refine Af hs (wp rfl (qe rfl ?_))
    refine Ay (L := BJ N p0 p1) h (fun v22 => mk [(1, pD (.sl (p1.map Ak))), (2, oD (.ptr 2 0)), (4, oD (.ptr 4 0)), (8, oD (.ptr 8 0)), (11, iD v22.2)] [(2, .box (Ah p0)), (4, .box [.pure (.nil0), .pure (.nil0), .pure (.nil0), .pure (.nil0)]), (8, .box [.own 2025, .own 2026, .own 2027, .own 2028]), (2025, .vec 1 (v10.1.map Ak)), (2026, .vec 1 (v10.2.1.map Ak)), (2027, .vec 1 (v10.2.2.map Ak)), (2028, .vec 6 (v22.1.map AT))]) (fun v23 => mk [(4, oD (.ptr 4 0)), (8, oD (.ptr 8 0))] [(4, .box [.pure (.nil0), .pure (.nil0), .pure (.nil0), .pure (.nil0)]), (8, .box [.own 2029, .own 2030, .own 2031, .own 2032]), (2029, .vec 1 (v10.1.map Ak)), (2030, .vec 1 (v10.2.1.map Ak)), (2031, .vec 1 (v10.2.2.map Ak)), (2032, .vec 6 (v23.map AT))]) (fun _ _ => rfl) ((Ar 8 3 2041 6 _ rfl rfl rfl rfl).trans (sm [(2025, 2012), (2026, 2013), (2027, 2014), (2028, 2041)] _ _ rfl rfl)) (fun j22 n22 v22 h => ?_) (fun v23 s h hs => ?_)
    ·unfold BJ at h
     refine wp rfl (qm rfl (qf Cs rfl (ql HN rfl (AO DT rfl (AV rfl (Ab ?_))))))
     refine A7 h (fun h => ?_) fun h => ?_
     ·refine Ai ?_
      refine AN h (fun v25 => mk [(1, pD (.sl (p1.map Ak))), (2, oD (.ptr 2 0)), (4, oD (.ptr 4 0)), (8, oD (.ptr 8 0)), (11, iD v22.2)] [(2, .box (Ah p0)), (4, .box [.pure (.nil0), .pure (.nil0), .pure (.nil0), .pure (.nil0)]), (8, .box [.own 2033, .own 2034, .own 2035, .own 2036]), (2033, .vec 1 (v10.1.map Ak)), (2034, .vec 1 (v10.2.1.map Ak)), (2035, .vec 1 (v10.2.2.map Ak)), (2036, .vec 6 (v25.map AT))]) (fun j25 h => ?_) (fun v25 h => ?_)
      ·refine AF (wq rfl (qf Cs rfl (ql HN rfl (qm rfl ?_))))
       refine Bb h fun v26 a26 b26 h => qi DT DM a26 (Ac b26) rfl (qK Hy DM rfl (qz JS rfl (qs DM rfl (Ab (wq rfl (qm rfl (qf DA rfl (ql B4 rfl ?_))))))))
       refine Bq h fun v27 a27 h => Ax [] (J0 N p1 v26.fg v27 a27) bm rfl (qm rfl (qf Ik rfl (ql B4 rfl ?_)))
       refine Bq h fun v28 a28 h => Ax [] (J0 N p1 v26.fj v28 a28) bm rfl (qa rfl (qa rfl (AD (by kernel_rfl) ?_)))
       refine AN h (fun v29 => mk [(1, pD (.sl (p1.map Ak))), (2, oD (.ptr 2 0)), (4, oD (.ptr 4 0)), (8, oD (.ptr 8 0)), (11, iD v22.2), (12, oD (.ptr 12 0)), (13, iD v27), (14, iD v28), (113, bD v29)] [(2, .box (Ah p0)), (4, .box [.pure (.nil0), .pure (.nil0), .pure (.nil0), .pure (.nil0)]), (8, .box [.own 2037, .own 2038, .own 2039, .own 2040]), (12, .box (Bg v26)), (2037, .vec 1 (v10.1.map Ak)), (2038, .vec 1 (v10.2.1.map Ak)), (2039, .vec 1 (v10.2.2.map Ak)), (2040, .vec 6 (v22.1.map AT))]) (fun j29 h => ?_) (fun v29 h => ?_)
       ·refine Ag As rfl (qm rfl (Df rfl (qm rfl ?_)))
        refine EM 110 h rfl (fun h => ?_) fun h => ?_
        ·refine qm rfl (Df rfl (qp rfl (Ab ?_)))
         exact sn [(2037, 2025), (2038, 2026), (2039, 2027), (2040, 2028)] h
        ·refine qw 2 rfl (qp rfl (Ab ?_))
         exact sn [(2037, 2025), (2038, 2026), (2039, 2027), (2040, 2028)] h
       ·refine A7 h (fun h => ?_) fun h => ?_
        ·refine Ag As rfl (qf Cs rfl (ql HN rfl (qL Hy DM rfl (qw 2 rfl ?_))))
         refine Bq h fun v32 a32 h => Ax [] ((Mh N v26 v27 v28 v32 a32).share rfl) dZ rfl (DQ DT DM JS rfl ?_)
         refine Gg h fun c33 h => CJ (f := AT) DT DT DM Ww JS c33 rfl (qf Cs rfl (qs Z3 rfl (AD (by kernel_rfl) ?_)))
         exact sn [(2033, 2037), (2034, 2038), (2035, 2039), (2036, 121)] h
        ·refine Ai ?_
         exact sn [(2033, 2037), (2034, 2038), (2035, 2039), (2036, 2040)] h
      ·refine Ag As rfl (qm rfl (AP rfl (qe rfl ?_)))
       exact sn [(2025, 2033), (2026, 2034), (2027, 2035), (2028, 2036)] h
     ·refine AQ ?_
      exact sn [(2029, 2025), (2030, 2026), (2031, 2027), (2032, 2028)] h
    ·refine Af hs (wq rfl (qL Dk Cg rfl (qs Cg rfl (qe rfl ?_))))
     obtain rfl := sj h
     refine Af (sm [(1000, 2029), (1001, 2030), (1002, 2031), (1003, 2032)] [(4, oD (.ptr 4 0)), (5, iD 0)] [(4, .box [.own 1000, .own 1001, .own 1002, .own 1003]), (1000, .vec 1 (v10.1.map Ak)), (1001, .vec 1 (v10.2.1.map Ak)), (1002, .vec 1 (v10.2.2.map Ak)), (1003, .vec 6 (v23.map AT))] rfl rfl) (Aq ?_)
     exact ⟨⟨[_, _], ⟨.cellN _ _ _ _ _ _ _ rfl rfl Dk Cg rfl rfl (Kn rfl), tm⟩, rfl⟩, ⟨rfl, rfl, rfl, rfl, tv⟩⟩
theorem J3 (N : Nat) (p0 : Aa) (r : Ad × Int) (h : EC N p0 = some r) : An zA 59 [.e (.agg (Ah p0))] [(1, r.1.fd.map Ak), (1, r.1.fa.map Ak), (1, r.1.fe.map Ex)] (.tup [.agg [.own 0, .own 1, .own 2], .one (iC r.2)]) := by
 unfold EC at h
 refine cw (n := 68) (rs := [.cell 2 49, .tmp 3]) Tryz.func59 fun w0 S0 => ?_
 refine wq rfl (qb rfl (qz Fc rfl (qa rfl (Ab (wp rfl (qL Dk Cg rfl ?_))))))
 refine Bq h fun v1 a1 h => Ax [] (ET N p0 v1 a1) Zc rfl (qa rfl (Ab (wq rfl (qm rfl (BB rfl (Ab ?_))))))
 refine A7 h (fun h => ?_) fun h => ?_
 ·refine wq rfl (Bp Fc Ke rfl (qm rfl (qs A9 rfl (qe rfl ?_))))
  obtain rfl := sj h
  refine Af ((Ar 2 0 2001 1 _ rfl rfl rfl rfl).trans ((Ar 2 1 2002 1 _ rfl rfl rfl rfl).trans ((Ar 2 2 2003 1 _ rfl rfl rfl rfl).trans (sm [(1000, 2001), (1001, 2002), (1002, 2003)] [(2, oD (.ptr 2 0)), (3, iD v1)] [(2, .box [.own 1000, .own 1001, .own 1002]), (1000, .vec 1 ((([] : List Int)).map Ak)), (1001, .vec 1 ((([] : List Int)).map Ak)), (1002, .vec 1 ((([] : List Int)).map Ex))] rfl rfl)))) (Aq ?_)
  exact ⟨⟨[_, _], ⟨.cellN _ _ _ _ _ _ _ rfl rfl Ca A9 rfl rfl (Kn rfl), tm⟩, rfl⟩, ⟨rfl, rfl, rfl, tv⟩⟩
 ·refine Ai (wq rfl (qz Fc rfl (Ab (wp rfl (qe rfl ?_)))))
  refine Ay (L := Cx N p0) h (fun v3 => mk [(1, oD (.ptr 1 0)), (2, oD (.ptr 2 0)), (5, oD (.ptr 5 0)), (6, iD v3.2.2)] [(1, .box (Ah p0)), (2, .box [.pure (.nil0), .pure (.nil0), .pure (.nil0)]), (5, .box [.own 2004, .own 2005, .pure (.nil0)]), (2004, .vec 1 (v3.1.map Ak)), (2005, .vec 1 (v3.2.1.map Ak))]) (fun v4 => mk [(1, oD (.ptr 1 0)), (2, oD (.ptr 2 0)), (5, oD (.ptr 5 0))] [(1, .box (Ah p0)), (2, .box [.pure (.nil0), .pure (.nil0), .pure (.nil0)]), (5, .box [.own 2006, .own 2007, .pure (.nil0)]), (2006, .vec 1 (v4.1.map Ak)), (2007, .vec 1 (v4.2.map Ak))]) (fun _ _ => rfl) ((Ar 5 0 2008 1 _ rfl rfl rfl rfl).trans ((Ar 5 1 2009 1 _ rfl rfl rfl rfl).trans (sm [(2004, 2008), (2005, 2009)] _ _ rfl rfl))) (fun j3 n3 v3 h => ?_) (fun v4 s h hs => ?_)
  ·unfold Cx at h
   refine wp rfl (qm rfl (qf Bf rfl (ql A6 rfl (AO Au rfl (AV rfl (Ab ?_))))))
   refine A7 h (fun h => ?_) fun h => ?_
   ·refine Ai (AK (AF (wq rfl (qf Dn rfl (ql A6 rfl (qf F7 rfl (ql A6 rfl (qm rfl ?_))))))))
    refine Bb h fun v6 a6 b6 h => qi Au CP a6 (Ac b6) rfl (qk B4 rfl (DQ Au CP JH rfl ?_))
    refine Gg h fun c7 h => CJ (f := Ak) Au Au CP KS JH c7 rfl (qf Dn rfl (qs I6 rfl (AD (by kernel_rfl) (Ag As rfl (qf BO rfl (ql A6 rfl (DQ Au CP JH rfl ?_)))))))
    refine Gg h fun c8 h => CJ (f := Ak) Au Au CP KS JH c8 rfl (qf BO rfl (qs I6 rfl (Ab (Ag As rfl (qm rfl (AP rfl (qe rfl ?_)))))))
    exact sn [(2004, 30), (2005, 35)] h
   ·refine AQ ?_
    exact sn [(2006, 2004), (2007, 2005)] h
  ·refine Af hs (wp rfl (qe rfl ?_))
   refine Ay (L := Bv N p0) h (fun v9 => mk [(1, oD (.ptr 1 0)), (2, oD (.ptr 2 0)), (5, oD (.ptr 5 0)), (7, iD v9.2)] [(1, .box (Ah p0)), (2, .box [.pure (.nil0), .pure (.nil0), .pure (.nil0)]), (5, .box [.own 2010, .own 2011, .own 2012]), (2010, .vec 1 (v4.1.map Ak)), (2011, .vec 1 (v4.2.map Ak)), (2012, .vec 1 (v9.1.map Ex))]) (fun v10 => mk [(2, oD (.ptr 2 0)), (5, oD (.ptr 5 0))] [(2, .box [.pure (.nil0), .pure (.nil0), .pure (.nil0)]), (5, .box [.own 2013, .own 2014, .own 2015]), (2013, .vec 1 (v4.1.map Ak)), (2014, .vec 1 (v4.2.map Ak)), (2015, .vec 1 (v10.map Ex))]) (fun _ _ => rfl) ((Ar 5 2 2019 1 _ rfl rfl rfl rfl).trans (sm [(2010, 2006), (2011, 2007), (2012, 2019)] _ _ rfl rfl)) (fun j9 n9 v9 h => ?_) (fun v10 s h hs => ?_)
   ·unfold Bv at h
    refine wp rfl (qm rfl (qf Cs rfl (ql HN rfl (AO DT rfl (AV rfl (Ab ?_))))))
    refine A7 h (fun h => ?_) fun h => ?_
    ·refine Ai (AK (AF (wq rfl (qe rfl ?_))))
     refine AN h (fun v12 => mk [(1, oD (.ptr 1 0)), (2, oD (.ptr 2 0)), (5, oD (.ptr 5 0)), (7, iD v9.2), (8, pD (.val (.int .u8 v12)))] [(1, .box (Ah p0)), (2, .box [.pure (.nil0), .pure (.nil0), .pure (.nil0)]), (5, .box [.own 2016, .own 2017, .own 2018]), (2016, .vec 1 (v4.1.map Ak)), (2017, .vec 1 (v4.2.map Ak)), (2018, .vec 1 (v9.1.map Ex))]) (fun j12 h => ?_) (fun v12 h => ?_)
     ·refine wq rfl (qf Cs rfl (ql HN rfl (qm rfl ?_)))
      refine Bb h fun v13 a13 b13 h => qi DT DM a13 (Ac b13) rfl (qK Hy DM rfl ?_)
      refine Bq h fun v14 a14 h => Ax [] (CD N v13 v14 a14) Sy rfl (Ab ?_)
      refine A7 h (fun h => ?_) fun h => ?_
      ·refine Ag As rfl (qf F7 rfl (ql A6 rfl (qf Cs rfl (ql HN rfl (qm rfl ?_)))))
       refine Bb h fun v16 a16 b16 h => qi DT DM a16 (Ac b16) rfl (qg DA rfl (qk B4 rfl ?_))
       refine Bb h fun v17 a17 b17 h => qi Au CP a17 (Ac b17) rfl (qk B4 rfl ?_)
       refine Gg h fun c18 h => I5 rfl c18 (qa rfl (AD (by kernel_rfl) ?_))
       exact sn [(2016, 2010), (2017, 2011), (2018, 2012)] h
      ·refine Ai ?_
       exact sn [(2016, 2010), (2017, 2011), (2018, 2012)] h
     ·refine Ag As rfl (qf Do rfl (ql IN rfl (qm rfl (DQ EF Fh NH rfl ?_))))
      refine Gg h fun c19 h => CJ (f := Ex) EF EF Fh PN NH c19 rfl (qf Do rfl (qs dQ rfl (Ab (Ag As rfl (qm rfl (AP rfl (qe rfl ?_)))))))
      exact sn [(2010, 2016), (2011, 2017), (2012, 65)] h
    ·refine AQ ?_
     exact sn [(2013, 2010), (2014, 2011), (2015, 2012)] h
   ·refine Af hs (wq rfl (qL Ca A9 rfl (qs A9 rfl (qe rfl ?_))))
    obtain rfl := sj h
    refine Af (sm [(1000, 2013), (1001, 2014), (1002, 2015)] [(2, oD (.ptr 2 0)), (3, iD 0)] [(2, .box [.own 1000, .own 1001, .own 1002]), (1000, .vec 1 (v4.1.map Ak)), (1001, .vec 1 (v4.2.map Ak)), (1002, .vec 1 (v10.map Ex))] rfl rfl) (Aq ?_)
    exact ⟨⟨[_, _], ⟨.cellN _ _ _ _ _ _ _ rfl rfl Ca A9 rfl rfl (Kn rfl), tm⟩, rfl⟩, ⟨rfl, rfl, rfl, tv⟩⟩
theorem Mr (N : Nat) (p0 : Ad) (r : Ad) (h : E9 N p0 = some r) : An zA 131 [.e (.agg (AL p0))] [(1, r.fd.map Ak), (1, r.fa.map Ak), (1, r.fe.map Ex)] (.e (.agg [.own 0, .own 1, .own 2])) := by
 unfold E9 at h
 refine cw (n := 16) (rs := [.cell 2 49]) Tryz.func131 fun w0 S0 => ?_
 refine wq rfl (qb rfl (qz Fc rfl (Ab (wq rfl (DQ Au CP JH rfl (qf Dn rfl (ql A6 rfl ?_)))))))
 refine Gg h fun c1 h => JV (f := Ak) Au Au CP KS JH (fun _ => rfl) c1 rfl (DQ Au CP JH rfl (qf BO rfl (ql A6 rfl ?_)))
 refine Gg h fun c2 h => JV (f := Ak) Au Au CP KS JH (fun _ => rfl) c2 rfl (DQ EF Fh NH rfl (qf Do rfl (ql IN rfl ?_)))
 refine Gg h fun c3 h => JV (f := Ex) EF EF Fh PN NH (fun _ => rfl) c3 rfl (Bp Fc Ke rfl (qs A9 rfl (AD (by kernel_rfl) ?_)))
 obtain rfl := sj h
 refine Af (sm [(1000, 6), (1001, 10), (1002, 14)] [(2, oD (.ptr 2 0))] [(2, .box [.own 1000, .own 1001, .own 1002]), (1000, .vec 1 (((([] : List Int)) ++ p0.fd).map Ak)), (1001, .vec 1 (((([] : List Int)) ++ p0.fa).map Ak)), (1002, .vec 1 (((([] : List Int)) ++ p0.fe).map Ex))] rfl rfl) (Aq ?_)
 exact ⟨⟨[_], ⟨.cellN _ _ _ _ _ _ _ rfl rfl Ca A9 rfl rfl (Kn rfl), tv⟩, rfl⟩, ⟨rfl, rfl, rfl, tv⟩⟩
theorem N8 (N : Nat) (p0 : Ad) (r : (List Ad)) (h : Fe N p0 = some r) : An zA 93 [.e (.agg (AL p0))] [(3, r.map FF)] (oD (.own 0)) := by
 unfold Fe at h
 refine cw (n := 62) (rs := [.tmp 2]) Tryz.func93 fun w0 S0 => ?_
 refine wq rfl (qb rfl (qa rfl (Ab (wq rfl (qa rfl (Ab (wp rfl (qe rfl ?_))))))))
 refine Ay (L := C0 N p0) h (fun v1 => mk [(1, oD (.ptr 1 0)), (3, iD v1.1), (4, iD v1.2)] [(1, .box (AL p0))]) (fun v2 => mk [(1, oD (.ptr 1 0)), (3, iD v2)] [(1, .box (AL p0))]) (fun _ _ => rfl) (sm [] _ _ rfl rfl) (fun j1 n1 v1 h => ?_) (fun v2 s h hs => ?_)
 ·unfold C0 at h
  refine wp rfl (qm rfl (qf BO rfl (ql A6 rfl (AO Au rfl (AV rfl (Ab ?_))))))
  refine A7 h (fun h => ?_) fun h => ?_
  ·refine Ai ?_
   refine AN h (fun v4 => mk [(1, oD (.ptr 1 0)), (3, iD v4), (4, iD v1.2)] [(1, .box (AL p0))]) (fun j4 h => ?_) (fun v4 h => ?_)
   ·refine AF (wq rfl (qf BO rfl (ql A6 rfl (qm rfl ?_))))
    refine Bb h fun v5 a5 b5 h => qi Au CP a5 (Ac b5) rfl (qk B4 rfl (Df rfl (Ab ?_)))
    refine A7 h (fun h => ?_) fun h => ?_
    ·refine Ag As rfl (qm rfl (AP rfl (qe rfl ?_)))
     exact sn [] h
    ·refine Ai ?_
     exact sn [] h
   ·refine Ag As rfl (qm rfl (AP rfl (qe rfl ?_)))
    exact sn [] h
  ·refine AQ ?_
   exact sn [] h
 ·refine Af hs (wq rfl (qa rfl (Ab (wp rfl (qe rfl ?_)))))
  refine Ay (L := BI N p0 v2) h (fun v7 => mk [(1, oD (.ptr 1 0)), (3, iD v2), (5, oD (.own 2001)), (6, iD v7.2)] [(1, .box (AL p0)), (2001, .vec 3 (v7.1.map FF))]) (fun v8 => mk [(5, oD (.own 2002))] [(2002, .vec 3 (v8.map FF))]) (fun _ _ => rfl) ((A2 5 2022 3 rfl rfl rfl).trans (sm [(2001, 2022)] _ _ rfl rfl)) (fun j7 n7 v7 h => ?_) (fun v8 s h hs => ?_)
  ·unfold BI at h
   refine wp rfl (qw 2 rfl ?_)
   refine Gg h fun c9 h => I5 rfl c9 (AV rfl (Ab ?_))
   refine A7 h (fun h => ?_) fun h => ?_
   ·refine Ai (AK (AF (wq rfl (qL Ca A9 rfl ?_))))
    refine Bq h fun v11 a11 h => Ax [2003, 2004, 2005] (Mr N p0 v11 a11) bN rfl (qz Fc rfl (qs A9 rfl (Ab (wq rfl (qa rfl (Ab (wp rfl (qe rfl ?_))))))))
    refine Ay (L := Cf N p0 v7) h (fun v12 => mk [(1, oD (.ptr 1 0)), (3, iD v2), (5, oD (.own 2009)), (6, iD v7.2), (7, oD (.ptr 7 0)), (8, iD v12.2.1), (9, iD v12.2.2)] [(1, .box (AL p0)), (7, .box [.own 2006, .own 2007, .own 2008]), (2006, .vec 1 (v11.fd.map Ak)), (2007, .vec 1 (v12.1.map Ak)), (2008, .vec 1 (v11.fe.map Ex)), (2009, .vec 3 (v7.1.map FF))]) (fun v13 => mk [(1, oD (.ptr 1 0)), (3, iD v2), (5, oD (.own 2013)), (6, iD v7.2), (7, oD (.ptr 7 0))] [(1, .box (AL p0)), (7, .box [.own 2010, .own 2011, .own 2012]), (2010, .vec 1 (v11.fd.map Ak)), (2011, .vec 1 (v13.map Ak)), (2012, .vec 1 (v11.fe.map Ex)), (2013, .vec 3 (v7.1.map FF))]) (fun _ _ => rfl) (sm [(2006, 2003), (2007, 2004), (2008, 2005), (2009, 2001)] _ _ rfl rfl) (fun j12 n12 v12 h => ?_) (fun v13 s h hs => ?_)
    ·unfold Cf at h
     refine wp rfl (qm rfl (qf BO rfl (ql A6 rfl (AO Au rfl (AV rfl (Ab ?_))))))
     refine A7 h (fun h => ?_) fun h => ?_
     ·refine Ai ?_
      refine AN h (fun v15 => mk [(1, oD (.ptr 1 0)), (3, iD v2), (5, oD (.own 2017)), (6, iD v7.2), (7, oD (.ptr 7 0)), (8, iD v15.2), (9, iD v12.2.2)] [(1, .box (AL p0)), (7, .box [.own 2014, .own 2015, .own 2016]), (2014, .vec 1 (v11.fd.map Ak)), (2015, .vec 1 (v15.1.map Ak)), (2016, .vec 1 (v11.fe.map Ex)), (2017, .vec 3 (v7.1.map FF))]) (fun j15 h => ?_) (fun v15 h => ?_)
      ·refine AF (wp rfl (qf BO rfl (ql A6 rfl (qm rfl ?_))))
       refine Bb h fun v16 a16 b16 h => qi Au CP a16 (Ac b16) rfl (qk B4 rfl (AV rfl (Ab ?_)))
       refine A7 h (fun h => ?_) fun h => ?_
       ·refine AQ ?_
        exact sn [(2014, 2006), (2015, 2007), (2016, 2008), (2017, 2009)] h
       ·refine Ai ?_
        refine AN h (fun v18 => mk [(1, oD (.ptr 1 0)), (3, iD v2), (5, oD (.own 2021)), (6, iD v7.2), (7, oD (.ptr 7 0)), (8, iD v12.2.1), (9, iD v12.2.2)] [(1, .box (AL p0)), (7, .box [.own 2018, .own 2019, .own 2020]), (2018, .vec 1 (v11.fd.map Ak)), (2019, .vec 1 (v18.map Ak)), (2020, .vec 1 (v11.fe.map Ex)), (2021, .vec 3 (v7.1.map FF))]) (fun j18 h => ?_) (fun v18 h => ?_)
        ·refine wq rfl (qw 2 rfl ?_)
         refine Gg h fun c19 h => Ga rfl c19 (Ng rfl (by decide) (B9 rfl (Ab ?_)))
         refine A7 h (fun h => ?_) fun h => ?_
         ·refine Ag As rfl (qf BO rfl (ql A6 rfl (qm rfl ?_)))
          refine Bb h fun v21 a21 b21 h => qI Au CP a21 (Ac b21) rfl ?_
          refine A8 rfl rfl rfl rfl (Ac b21) rfl CP rfl (D8 rfl) (A5 Ak v12.1 _ ((-1))) ?_
          refine Ab ?_
          exact sn [(2018, 2006), (2019, 2007), (2020, 2008), (2021, 2009)] h
         ·refine Ai ?_
          exact sn [(2018, 2006), (2019, 2007), (2020, 2008), (2021, 2009)] h
        ·refine Ag As rfl (qm rfl (AP rfl (qe rfl ?_)))
         exact sn [(2014, 2018), (2015, 2019), (2016, 2020), (2017, 2021)] h
      ·refine Ag As rfl (qm rfl (AP rfl (qe rfl ?_)))
       exact sn [(2006, 2014), (2007, 2015), (2008, 2016), (2009, 2017)] h
     ·refine AQ ?_
      exact sn [(2010, 2006), (2011, 2007), (2012, 2008), (2013, 2009)] h
    ·refine Af hs (Ag As rfl (qm rfl (qL Ca A9 rfl (DG (Bt 2010 _ _ rfl rfl) (DG (Bt 2011 _ _ rfl rfl) (DG (Bt 2012 _ _ rfl rfl) (DQ M9 A9 Fc rfl ?_)))))))
     refine Gg h fun c22 h => CJ (f := FF) M9 M9 A9 ZT Fc c22 rfl (qa rfl (Ab (Ag As rfl (qm rfl (AP rfl (qe rfl ?_))))))
     exact sn [(2001, 60)] h
   ·refine AQ ?_
    exact sn [(2002, 2001)] h
  ·refine Af hs (wq rfl (qm rfl (qe rfl ?_)))
   obtain rfl := sj h
   refine Af (sm [(1000, 2002)] [(2, oD (.own 1000))] [(1000, .vec 3 (v8.map FF))] rfl rfl) (Aq ?_)
   exact ⟨⟨[_], tm, rfl⟩, ⟨rfl, tv⟩⟩
theorem E7 (N : Nat) (p0 : Ad) (p1 : Int) (r : Int) (h : Ce N p0 p1 = some r) : An zA 96 [.e (.agg (AL p0)), iD p1] [] (pD (.val (.int .u8 r))) := by
 unfold Ce at h
 refine cw (n := 27) (rs := [.tmp 4]) Tryz.func96 fun w0 S0 => ?_
 refine wq rfl (qb rfl (qa rfl (Ab (wq rfl (qf Dn rfl (ql A6 rfl (qm rfl ?_)))))))
 refine Bb h fun v1 a1 b1 h => qi Au CP a1 (Ac b1) rfl (qk B4 rfl ?_)
 refine Gg h fun c2 h => I5 rfl c2 (qe rfl ?_)
 refine AN h (fun v3 => mk [(5, pD (.val (.int .u8 v3)))] []) (fun j3 h => ?_) (fun v3 h => ?_)
 ·refine wq rfl (qf BO rfl (ql A6 rfl (qm rfl ?_)))
  refine Bb h fun v4 a4 b4 h => qi Au CP a4 (Ac b4) rfl (qk B4 rfl (Df rfl (Ab ?_)))
  refine A7 h (fun h => ?_) fun h => ?_
  ·refine Ag As rfl (qm rfl (qf BO rfl (ql A6 rfl (qm rfl ?_))))
   refine Bb h fun v6 a6 b6 h => qi Au CP a6 (Ac b6) rfl (qk B4 rfl ?_)
   refine Gg h fun c7 h => I5 rfl c7 (X0 rfl (qe rfl ?_))
   exact sn [] h
  ·refine Ai ?_
   exact sn [] h
 ·refine wq rfl (qm rfl (qe rfl ?_))
  obtain rfl := sj h
  refine Af (sm [] [(4, pD (.val (.int .u8 v3)))] [] rfl rfl) (Aq ?_)
  exact ⟨⟨[_], tm, rfl⟩, tv⟩
theorem Hv (N : Nat) (p0 : Int) (p1 : Int) (r : Bool) (h : CS N p0 p1 = some r) : An zA 97 [pD (.val (.int .u8 p0)), iD p1] [] (bD r) := by
 unfold CS at h
 refine cw (n := 10) (rs := [.tmp 4]) Tryz.func97 fun w0 S0 => ?_
 refine wq rfl (qa rfl (Ab (wq rfl (qw 2 rfl ?_))))
 refine Gg h fun c1 h => Ga rfl c1 (IT rfl (B9 rfl (qe rfl ?_)))
 obtain rfl := sj h
 refine Af (sm [] [(4, bD (((AM .u8 ((AW .u8 p0 p1)) 1) == 1)))] [] rfl rfl) (Aq ?_)
 exact ⟨⟨[_], tm, rfl⟩, tv⟩
theorem MX (N : Nat) (p0 : Aa) (p1 : Ad) (r : (List Ap)) (h : Fw N p0 p1 = some r) : An zA 132 [.e (.agg (Ah p0)), .e (.agg (AL p1))] [(3, r.map A3)] (oD (.own 0)) := by
 unfold Fw at h
 refine cw (n := 111) (rs := [.tmp 4]) Tryz.func132 fun w0 S0 => ?_
 refine wq rfl (qb rfl (qb rfl (qa rfl (Ab (wq rfl (qa rfl (Ab (wp rfl (qe rfl ?_)))))))))
 refine Ay (L := C5 N p0 p1) h (fun v1 => mk [(2, oD (.ptr 2 0)), (3, oD (.ptr 3 0)), (5, oD (.own 2001)), (6, iD v1.2)] [(2, .box (Ah p0)), (3, .box (AL p1)), (2001, .vec 3 (v1.1.map A3))]) (fun v2 => mk [(5, oD (.own 2002))] [(2002, .vec 3 (v2.map A3))]) (fun _ _ => rfl) ((A2 5 2013 3 rfl rfl rfl).trans (sm [(2001, 2013)] _ _ rfl rfl)) (fun j1 n1 v1 h => ?_) (fun v2 s h hs => ?_)
 ·unfold C5 at h
  refine wp rfl (qm rfl (qf Cs rfl (ql HN rfl (AO DT rfl (AV rfl (Ab ?_))))))
  refine A7 h (fun h => ?_) fun h => ?_
  ·refine Ai (AK (AF (wq rfl (qf Cs rfl (ql HN rfl (qm rfl ?_))))))
   refine Bb h fun v4 a4 b4 h => qi DT DM a4 (Ac b4) rfl (qK Hy DM rfl (qz JS rfl (qs DM rfl (Ab (wq rfl (qL Ca A9 rfl (qf DA rfl (ql B4 rfl ?_))))))))
   refine Bq h fun v5 a5 h => Ax [] (E7 N p1 v4.fg v5 a5) Xp rfl (qe rfl ?_)
   refine AN h (fun v6 => mk [(2, oD (.ptr 2 0)), (3, oD (.ptr 3 0)), (5, oD (.own 2003)), (6, iD v1.2), (7, oD (.ptr 7 0)), (8, pD (.val (.int .u8 v6)))] [(2, .box (Ah p0)), (3, .box (AL p1)), (7, .box (Bg v4)), (2003, .vec 3 (v1.1.map A3))]) (fun j6 h => ?_) (fun v6 h => ?_)
   ·refine wq rfl (qL Hy DM rfl ?_)
    refine Bq h fun v7 a7 h => Ax [] (CD N v4 v7 a7) Sy rfl (Ab ?_)
    refine A7 h (fun h => ?_) fun h => ?_
    ·refine Ag As rfl (qf Do rfl (ql IN rfl (qm rfl ?_)))
     refine Bb h fun v9 a9 b9 h => qi EF Fh a9 (Ac b9) rfl (qk JE rfl (qe rfl ?_))
     exact sn [(2003, 2001)] h
    ·refine Ai ?_
     exact sn [(2003, 2001)] h
   ·refine wq rfl (qe rfl ?_)
    refine Ay (L := BN N p0 p1 v1 v4 v6) h (fun v10 => mk [(2, oD (.ptr 2 0)), (3, oD (.ptr 3 0)), (5, oD (.own 2004)), (6, iD v1.2), (7, oD (.ptr 7 0)), (8, pD (.val (.int .u8 v6))), (9, iD v10.2)] [(2, .box (Ah p0)), (3, .box (AL p1)), (7, .box (Bg v4)), (2004, .vec 3 (v10.1.map A3))]) (fun v11 => mk [(2, oD (.ptr 2 0)), (3, oD (.ptr 3 0)), (5, oD (.own 2005)), (6, iD v1.2)] [(2, .box (Ah p0)), (3, .box (AL p1)), (2005, .vec 3 (v11.map A3))]) (fun _ _ => rfl) (sm [(2004, 2003)] _ _ rfl rfl) (fun j10 n10 v10 h => ?_) (fun v11 s h hs => ?_)
    ·unfold BN at h
     refine wp rfl (qm rfl (qf Bf rfl (ql A6 rfl (qf DA rfl (ql B4 rfl ?_)))))
     refine Bb h fun v12 a12 b12 h => qi Au CP a12 (Ac b12) rfl (qk B4 rfl (AV rfl (Ab ?_)))
     refine A7 h (fun h => ?_) fun h => ?_
     ·refine Ai ?_
      refine AN h (fun v14 => mk [(2, oD (.ptr 2 0)), (3, oD (.ptr 3 0)), (5, oD (.own 2006)), (6, iD v1.2), (7, oD (.ptr 7 0)), (8, pD (.val (.int .u8 v6))), (9, iD v10.2)] [(2, .box (Ah p0)), (3, .box (AL p1)), (7, .box (Bg v4)), (2006, .vec 3 (v14.map A3))]) (fun j14 h => ?_) (fun v14 h => ?_)
      ·refine AF (wp rfl (qw 2 rfl ?_))
       refine Bq h fun v15 a15 h => Ax [] (Hv N v6 v10.2 v15 a15) YD rfl (Cc rfl (Ab ?_))
       refine A7 h (fun h => ?_) fun h => ?_
       ·refine AQ ?_
        exact sn [(2006, 2004)] h
       ·refine Ai (wq rfl (qa rfl (Ab (wp rfl (qe rfl ?_)))))
        refine Ay (L := Bw N p0 p1 v1 v4 v10) h (fun v17 => mk [(2, oD (.ptr 2 0)), (3, oD (.ptr 3 0)), (5, oD (.own 2007)), (6, iD v1.2), (7, oD (.ptr 7 0)), (8, pD (.val (.int .u8 v6))), (9, iD v10.2), (10, bD v17.2.1), (11, iD v17.2.2)] [(2, .box (Ah p0)), (3, .box (AL p1)), (7, .box (Bg v4)), (2007, .vec 3 (v17.1.map A3))]) (fun v18 => mk [(2, oD (.ptr 2 0)), (3, oD (.ptr 3 0)), (5, oD (.own 2008)), (6, iD v1.2), (7, oD (.ptr 7 0)), (8, pD (.val (.int .u8 v6))), (9, iD v10.2), (10, bD v18.2)] [(2, .box (Ah p0)), (3, .box (AL p1)), (7, .box (Bg v4)), (2008, .vec 3 (v18.1.map A3))]) (fun _ _ => rfl) (sm [(2007, 2004)] _ _ rfl rfl) (fun j17 n17 v17 h => ?_) (fun v18 s h hs => ?_)
        ·unfold Bw at h
         refine wp rfl (qm rfl (qf Bf rfl (ql A6 rfl (qf Ik rfl (ql B4 rfl ?_)))))
         refine Bb h fun v19 a19 b19 h => qi Au CP a19 (Ac b19) rfl (qk B4 rfl (AV rfl (Ab ?_)))
         refine A7 h (fun h => ?_) fun h => ?_
         ·refine Ai ?_
          refine AN h (fun v21 => mk [(2, oD (.ptr 2 0)), (3, oD (.ptr 3 0)), (5, oD (.own 2009)), (6, iD v1.2), (7, oD (.ptr 7 0)), (8, pD (.val (.int .u8 v6))), (9, iD v10.2), (10, bD v21.2), (11, iD v17.2.2)] [(2, .box (Ah p0)), (3, .box (AL p1)), (7, .box (Bg v4)), (2009, .vec 3 (v21.1.map A3))]) (fun j21 h => ?_) (fun v21 h => ?_)
          ·refine AF (wp rfl (qL Ca A9 rfl (qf Ik rfl (ql B4 rfl ?_))))
           refine Bq h fun v22 a22 h => Ax [] (E7 N p1 v4.fj v22 a22) Xp rfl (qm rfl ?_)
           refine Bq h fun v23 a23 h => Ax [] (Hv N v22 v17.2.2 v23 a23) YD rfl (Cc rfl (Ab ?_))
           refine A7 h (fun h => ?_) fun h => ?_
           ·refine AQ ?_
            exact sn [(2009, 2007)] h
           ·refine Ai ?_
            refine AN h (fun v25 => mk [(2, oD (.ptr 2 0)), (3, oD (.ptr 3 0)), (5, oD (.own 2010)), (6, iD v1.2), (7, oD (.ptr 7 0)), (8, pD (.val (.int .u8 v6))), (9, iD v10.2), (10, bD v25), (11, iD v17.2.2)] [(2, .box (Ah p0)), (3, .box (AL p1)), (7, .box (Bg v4)), (2010, .vec 3 (v17.1.map A3))]) (fun j25 h => ?_) (fun v25 h => ?_)
            ·refine Ag As rfl (qw 2 rfl ?_)
             refine EM 67 h rfl (fun h => ?_) fun h => ?_
             ·refine qw 8 rfl (qp rfl (qe rfl ?_))
              exact sn [(2010, 2007)] h
             ·refine qf HJ rfl (ql Jf rfl (qm rfl ?_))
              refine Bb h fun v27 a27 b27 h => qi E5 KF a27 (Ac b27) rfl (qk Pp rfl (qm rfl ?_))
              refine Bb h fun v28 a28 b28 h => qi F1 Qs a28 (Ac b28) rfl (qk Ue rfl (qp rfl (qe rfl ?_)))
              exact sn [(2010, 2007)] h
            ·refine AN h (fun v29 => mk [(2, oD (.ptr 2 0)), (3, oD (.ptr 3 0)), (5, oD (.own 2011)), (6, iD v1.2), (7, oD (.ptr 7 0)), (8, pD (.val (.int .u8 v6))), (9, iD v10.2), (10, bD v25), (11, iD v17.2.2), (90, bD v29)] [(2, .box (Ah p0)), (3, .box (AL p1)), (7, .box (Bg v4)), (2011, .vec 3 (v17.1.map A3))]) (fun j29 h => ?_) (fun v29 h => ?_)
             ·refine Ag As rfl (qf Kg rfl (ql Ue rfl (Cc rfl (qm rfl ?_))))
              refine EM 80 h rfl (fun h => ?_) fun h => ?_
              ·refine qf HJ rfl (ql Jf rfl (qm rfl ?_))
               refine Bb h fun v31 a31 b31 h => qi E5 KF a31 (Ac b31) rfl (qk Pp rfl (qm rfl ?_))
               refine Bb h fun v32 a32 b32 h => qi F1 Qs a32 (Ac b32) rfl (qk Ue rfl (Cc rfl (qp rfl (Ab ?_))))
               exact sn [(2011, 2010)] h
              ·refine qw 9 rfl (qp rfl (Ab ?_))
               exact sn [(2011, 2010)] h
             ·refine A7 h (fun h => ?_) fun h => ?_
              ·refine Ag As rfl (qw 4 rfl (Bp J5 Rw rfl (DQ Io JI J5 rfl ?_)))
               refine Gg h fun c34 h => CJ (f := A3) Io Io JI R2 J5 c34 rfl (qe rfl ?_)
               exact sn [(2009, 97)] h
              ·refine Ai ?_
               exact sn [(2009, 2011)] h
          ·refine Ag As rfl (qm rfl (AP rfl (qe rfl ?_)))
           exact sn [(2007, 2009)] h
         ·refine AQ ?_
          exact sn [(2008, 2007)] h
        ·refine Af hs ?_
         refine AN h (fun v35 => mk [(2, oD (.ptr 2 0)), (3, oD (.ptr 3 0)), (5, oD (.own 2012)), (6, iD v1.2), (7, oD (.ptr 7 0)), (8, pD (.val (.int .u8 v6))), (9, iD v10.2), (103, bD v35)] [(2, .box (Ah p0)), (3, .box (AL p1)), (7, .box (Bg v4)), (2012, .vec 3 (v18.1.map A3))]) (fun j35 h => ?_) (fun v35 h => ?_)
         ·refine Ag As rfl (qf Kg rfl (ql Ue rfl (qm rfl ?_)))
          refine EM 100 h rfl (fun h => ?_) fun h => ?_
          ·refine qm rfl (Cc rfl (qp rfl (Ab ?_)))
           exact sn [(2012, 2008)] h
          ·refine qw 2 rfl (qp rfl (Ab ?_))
           exact sn [(2012, 2008)] h
         ·refine A7 h (fun h => ?_) fun h => ?_
          ·refine Ag As rfl (qw 3 rfl (Bp J5 Rw rfl (DQ Io JI J5 rfl ?_)))
           refine Gg h fun c38 h => CJ (f := A3) Io Io JI R2 J5 c38 rfl (qe rfl ?_)
           exact sn [(2006, 109)] h
          ·refine Ai ?_
           exact sn [(2006, 2012)] h
      ·refine Ag As rfl (qm rfl (AP rfl (qe rfl ?_)))
       exact sn [(2004, 2006)] h
     ·refine AQ ?_
      exact sn [(2005, 2004)] h
    ·refine Af hs (Ag As rfl (qm rfl (AP rfl (qe rfl ?_))))
     exact sn [(2001, 2005)] h
  ·refine AQ ?_
   exact sn [(2002, 2001)] h
 ·refine Af hs (wq rfl (qm rfl (qe rfl ?_)))
  obtain rfl := sj h
  refine Af (sm [(1000, 2002)] [(4, oD (.own 1000))] [(1000, .vec 3 (v2.map A3))] rfl rfl) (Aq ?_)
  exact ⟨⟨[_], tm, rfl⟩, ⟨rfl, tv⟩⟩
theorem MB (N : Nat) (p0 : Aa) (p1 : Ad) (r : Bool) (h : E4 N p0 p1 = some r) : An zA 94 [.e (.agg (Ah p0)), .e (.agg (AL p1))] [] (bD r) := by
 unfold E4 at h
 refine cw (n := 10) (rs := [.tmp 4]) Tryz.func94 fun w0 S0 => ?_
 refine wq rfl (qb rfl (qb rfl (qa rfl (Ab (wq rfl (qL Dk Cg rfl (qL Ca A9 rfl ?_)))))))
 refine Bq h fun v1 a1 h => Ax [2001] (MX N p0 p1 v1 a1) dE rfl (FG Io rfl (B9 rfl (qe rfl ?_)))
 obtain rfl := sj h
 refine Af (sm [] [(4, bD (((v1.length : Int) == 0)))] [] rfl rfl) (Aq ?_)
 exact ⟨⟨[_], tm, rfl⟩, tv⟩
theorem G9 (N : Nat) (p0 : Aa) (p1 : Ad) (r : Bool) (h : C9 N p0 p1 = some r) : An zA 60 [.e (.agg (Ah p0)), .e (.agg (AL p1))] [] (bD r) := by
 unfold C9 at h
 refine cw (n := 22) (rs := [.tmp 4]) Tryz.func60 fun w0 S0 => ?_
 refine wq rfl (qb rfl (qb rfl (qa rfl (Ab (wq rfl (qL Ca A9 rfl ?_))))))
 refine Bq h fun v1 a1 h => Ax [2001] (N8 N p1 v1 a1) eF rfl (qa rfl (Ab (wp rfl (qe rfl ?_))))
 refine Ay (L := Cp N p0 v1) h (fun v2 => mk [(2, oD (.ptr 2 0)), (5, oD (.own 2002)), (6, iD v2)] [(2, .box (Ah p0)), (2002, .vec 3 (v1.map FF))]) (fun v3 => mk [] []) (fun _ _ => rfl) (sm [(2002, 2001)] _ _ rfl rfl) (fun j2 n2 v2 h => ?_) (fun v3 s h hs => ?_)
 ·unfold Cp at h
  refine wp rfl (qw 2 rfl (FG M9 rfl (AV rfl (Ab ?_))))
  refine A7 h (fun h => ?_) fun h => ?_
  ·refine Ai (AK (AF (wq rfl (qL Dk Cg rfl (qw 2 rfl ?_)))))
   refine Bb h fun v5 a5 b5 h => qI M9 A9 a5 (Ac b5) rfl (qJ Ca A9 (Ac b5) rfl ?_)
   refine Bq h fun v6 a6 h => Ax [] (MB N p0 v5 v6 a6) eo rfl (Cc rfl (AD (by kernel_rfl) ?_))
   refine A7 h (fun h => ?_) fun h => ?_
   ·refine wq rfl (qe rfl ?_)
    obtain rfl := sj h
    refine Af (sm [] [(4, bD false)] [] rfl rfl) (Aq ?_)
    exact ⟨⟨[_], tm, rfl⟩, tv⟩
   ·refine Ai (Ag As rfl (qm rfl (AP rfl (qe rfl ?_))))
    exact sn [] h
  ·refine AQ ?_
   exact sn [] h
 ·refine Af hs (wq rfl (qe rfl ?_))
  obtain rfl := sj h
  refine Af (sm [] [(4, bD true)] [] rfl rfl) (Aq ?_)
  exact ⟨⟨[_], tm, rfl⟩, tv⟩
end Go.Lift
