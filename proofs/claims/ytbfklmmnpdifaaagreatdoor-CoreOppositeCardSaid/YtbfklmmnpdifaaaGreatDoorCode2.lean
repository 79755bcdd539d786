/- Lemmas for CoreOppositeCardSaid, which YtbfklmmnpdifaaaGreatDoorFinC5 proves. -/
import Derived.Test.YtbfklmmnpdifaaaGreatDoorTypes
import Derived.Test.YtbfklmmnpdifaaaGreatDoorProg
import Derived.KernelRfl
open Int renaming tmod → zB7
open List renaming append → zE3, replicate → zA6
open Nat renaming min → zF1
open Go.Proofs.Tryz renaming prog → zA0
namespace Go.Lift
open IntKind renaming wrap → wI
def Ek (_ : Nat) (p0 : List Int) (p1 : Int) : Option Int :=
 AR ((decide (p1 < (p0.length : Int))))
  ((Bs p0 p1).bind fun v2 =>
  some ((wI .i64 v2)))
  (some 0)
def A8 (_ : Nat) (p0 : Al) : Option Bool :=
 Bd (fun (v1 : Bool) =>
  some v1)
 fun j1 =>
 AR ((p0.fg == 3))
  (j1 true)
  (j1 (p0.fg == 4))
def Cq (N : Nat) (p1 : Int) (p2 : Int) (p3 : Bool) (v1 : (List (List Bool)) × Int) (j4 : ((List Bool)) → Option ((List (List Bool)))) : Nat → ((List Bool) × Int) → Option ((List (List Bool)))
 | 0, _ => none
 | n4 + 1, v4 =>
  AR ((decide (v4.2 < p1)))
   (Bd (fun (v7 : (List Bool)) =>
    Cq N p1 p2 p3 v1 j4 n4 (v7, (wI .i64 (v4.2 + 1))))
   fun j7 =>
   AR p3
    (AR ((v1.2 == v4.2))
     ((DH (v4.1.length + (([true] : List Bool)).length ≤ C2)).bind fun _ =>
     j7 (v4.1 ++ (([true] : List Bool))))
     ((DH (0 ≤ (wI .i64 ((wI .i64 (3 * v1.2)) + v4.2)))).bind fun _ =>
     (DH (v4.1.length + (([((zB7 ((AY .u16 p2 ((wI .i64 ((wI .i64 (3 * v1.2)) + v4.2))))) 2) == 0)] : List Bool)).length ≤ C2)).bind fun _ =>
     j7 (v4.1 ++ (([((zB7 ((AY .u16 p2 ((wI .i64 ((wI .i64 (3 * v1.2)) + v4.2))))) 2) == 0)] : List Bool)))))
    ((DH (0 ≤ (wI .i64 ((wI .i64 (3 * v1.2)) + v4.2)))).bind fun _ =>
    (DH (v4.1.length + (([((zB7 ((AY .u16 p2 ((wI .i64 ((wI .i64 (3 * v1.2)) + v4.2))))) 2) == 0)] : List Bool)).length ≤ C2)).bind fun _ =>
    j7 (v4.1 ++ (([((zB7 ((AY .u16 p2 ((wI .i64 ((wI .i64 (3 * v1.2)) + v4.2))))) 2) == 0)] : List Bool)))))
   (j4 v4.1)
def Co (N : Nat) (p0 : Int) (p1 : Int) (p2 : Int) (p3 : Bool) (j1 : ((List (List Bool))) → Option ((List (List Bool)))) : Nat → ((List (List Bool)) × Int) → Option ((List (List Bool)))
 | 0, _ => none
 | n1 + 1, v1 =>
  AR ((decide (v1.2 < p0)))
   (Cq N p1 p2 p3 v1 (fun (v5 : (List Bool)) =>
    (DH (v1.1.length + (([v5] : List (List Bool))).length ≤ C2)).bind fun _ =>
    Co N p0 p1 p2 p3 j1 n1 (v1.1 ++ (([v5] : List (List Bool))), (wI .i64 (v1.2 + 1)))) N (([] : List Bool), 0))
   (j1 v1.1)
def Ei (N : Nat) (p0 : Int) (p1 : Int) (p2 : Int) (p3 : Bool) : Option ((List (List Bool))) :=
 Co N p0 p1 p2 p3 (fun (v2 : (List (List Bool))) =>
  some v2) N (([] : List (List Bool)), 0)
def CP (N : Nat) (p0 : BF) (j4 : ((List Int) × (List Int) × (List Int)) → Option (Aa × Bool)) : Nat → ((List Int) × (List Int) × (List Int) × Int) → Option (Aa × Bool)
 | 0, _ => none
 | n4 + 1, v4 =>
  AR ((decide (v4.2.2.2 < (p0.fa.length : Int))))
   ((Bs p0.fa v4.2.2.2).bind fun v7 =>
   (DH (v4.1.length + (([(wI .i64 (1 + (wI .i64 ((zB7 v7 3)))))] : List Int)).length ≤ C2)).bind fun _ =>
   (Ek N p0.fh v4.2.2.2).bind fun v9 =>
   (DH ((wI .i64 (1 + (wI .i64 ((zB7 v7 3))))) ≠ 0)).bind fun _ =>
   (DH (v4.2.1.length + (([(zB7 v9 ((wI .i64 (1 + (wI .i64 ((zB7 v7 3)))))))] : List Int)).length ≤ C2)).bind fun _ =>
   (Ek N p0.fq v4.2.2.2).bind fun v12 =>
   (DH ((wI .i64 (1 + (wI .i64 ((zB7 v7 3))))) ≠ 0)).bind fun _ =>
   (DH (v4.2.2.1.length + (([(zB7 v12 ((wI .i64 (1 + (wI .i64 ((zB7 v7 3)))))))] : List Int)).length ≤ C2)).bind fun _ =>
   CP N p0 j4 n4 (v4.1 ++ (([(wI .i64 (1 + (wI .i64 ((zB7 v7 3)))))] : List Int)), v4.2.1 ++ (([(zB7 v9 ((wI .i64 (1 + (wI .i64 ((zB7 v7 3)))))))] : List Int)), v4.2.2.1 ++ (([(zB7 v12 ((wI .i64 (1 + (wI .i64 ((zB7 v7 3)))))))] : List Int)), (wI .i64 (v4.2.2.2 + 1))))
   (j4 (v4.1, v4.2.1, v4.2.2.1))
def BA (N : Nat) (p0 : BF) (v5 : (List Int) × (List Int) × (List Int)) (j15 : ((List Al)) → Option (Aa × Bool)) : Nat → ((List Al) × Int) → Option (Aa × Bool)
 | 0, _ => none
 | n15 + 1, v15 =>
  Bd (fun (v17 : Bool) =>
   AR v17
    ((Bs p0.fw v15.2).bind fun v20 =>
    (DH ((v5.1.length : Int) ≠ 0)).bind fun _ =>
    (DH ((v5.1.length : Int) ≠ 0)).bind fun _ =>
    Bd (fun (v23 : Bool) =>
     (Bs v5.1 ((zB7 ((wI .i64 v20.ff)) ((v5.1.length : Int))))).bind fun v26 =>
     (Bs v5.1 ((zB7 ((wI .i64 v20.fj)) ((v5.1.length : Int))))).bind fun v27 =>
     (Ei N v26 v27 v20.fy false).bind fun v28 =>
     Bd (fun (v29 : (List (List Bool))) =>
      (DH (v15.1.length + (([(Al.mk ((wI .i64 (1 + (wI .i64 ((zB7 v20.fg 4)))))) ((zB7 ((wI .i64 v20.ff)) ((v5.1.length : Int)))) ((zB7 ((wI .i64 v20.fj)) ((v5.1.length : Int)))) v23 v28 v29)] : List Al)).length ≤ C2)).bind fun _ =>
      BA N p0 v5 j15 n15 (v15.1 ++ (([(Al.mk ((wI .i64 (1 + (wI .i64 ((zB7 v20.fg 4)))))) ((zB7 ((wI .i64 v20.ff)) ((v5.1.length : Int)))) ((zB7 ((wI .i64 v20.fj)) ((v5.1.length : Int)))) v23 v28 v29)] : List Al)), (wI .i64 (v15.2 + 1))))
     fun j29 =>
     AR (((wI .i64 (1 + (wI .i64 ((zB7 v20.fg 4))))) == 4))
      ((Bs v5.1 ((zB7 ((wI .i64 v20.ff)) ((v5.1.length : Int))))).bind fun v31 =>
      (Bs v5.1 ((zB7 ((wI .i64 v20.ff)) ((v5.1.length : Int))))).bind fun v32 =>
      (Ei N v31 v32 v20.fA true).bind fun v33 =>
      j29 v33)
      (j29 ([] : List (List Bool))))
    fun j23 =>
    AR v20.ft
     ((A8 N ((Al.mk ((wI .i64 (1 + (wI .i64 ((zB7 v20.fg 4)))))) ((zB7 ((wI .i64 v20.ff)) ((v5.1.length : Int)))) ((zB7 ((wI .i64 v20.fj)) ((v5.1.length : Int)))) false (([] : List (List Bool))) (([] : List (List Bool)))))).bind fun v25 =>
     j23 (!v25))
     (j23 false))
    (j15 v15.1))
  fun j17 =>
  AR ((decide (v15.2 < (p0.fw.length : Int))))
   (j17 (decide (0 < (v5.1.length : Int))))
   (j17 false)
def FR (N : Nat) (p0 : BF) : Option (Aa × Bool) :=
 Bd (fun (v1 : Bool) =>
  AR v1
   (some ((Aa.mk (([] : List Int)) (([] : List Int)) (([] : List Int)) (([] : List Al))), false))
   (CP N p0 (fun (v5 : (List Int) × (List Int) × (List Int)) =>
    BA N p0 v5 (fun (v16 : (List Al)) =>
     some ((Aa.mk v5.1 v5.2.1 v5.2.2 v16), true)) N (([] : List Al), 0)) N (([] : List Int), ([] : List Int), ([] : List Int), 0)))
 fun j1 =>
 AR ((decide (3 < (p0.fa.length : Int))))
  (j1 true)
  (j1 (decide (4 < (p0.fw.length : Int))))
def Cw (N : Nat) (p0 : List (List Bool)) (p1 : Int) (p2 : Int) (j2 : Unit → Option Bool) : Nat → Int → Option Bool
 | 0, _ => none
 | n2 + 1, v2 =>
  AR ((decide (v2 < p1)))
   ((Bs p0 v2).bind fun v5 =>
   AR (((v5.length : Int) != p2))
    (some false)
    (Cw N p0 p1 p2 j2 n2 (wI .i64 (v2 + 1))))
   (j2 ())
def DK (N : Nat) (p0 : List (List Bool)) (p1 : Int) (p2 : Int) : Option Bool :=
 AR (((p0.length : Int) != p1))
  (some false)
  (Cw N p0 p1 p2 (fun (_ : Unit) =>
   some true) N 0)
def B4 (N : Nat) (p1 : Al) (j22 : Unit → Option Int) : Nat → Int → Option Int
 | 0, _ => none
 | n22 + 1, v22 =>
  AR ((decide (v22 < (p1.fk.length : Int))))
   ((Bs p1.fk v22).bind fun v25 =>
   (Bs v25 v22).bind fun v26 =>
   AR ((!v26))
    (some 1)
    (B4 N p1 j22 n22 (wI .i64 (v22 + 1))))
   (j22 ())
def ES (N : Nat) (p0 : Aa) (p1 : Al) : Option Int :=
 Bd (fun (v1 : Bool) =>
  AR v1
   (some 1)
   (Bd (fun (v7 : Bool) =>
    AR v7
     (some 4)
     ((Bs p0.fa p1.ff).bind fun v12 =>
     (Bs p0.fa p1.fj).bind fun v13 =>
     (DK N p1.fr v12 v13).bind fun v14 =>
     AR ((!v14))
      (some 6)
      (AR ((p1.fg != 4))
       (AR (((p1.fk.length : Int) != 0))
        (some 6)
        (some 0))
       ((Bs p0.fa p1.ff).bind fun v18 =>
       (Bs p0.fa p1.ff).bind fun v19 =>
       (DK N p1.fk v18 v19).bind fun v20 =>
       AR ((!v20))
        (some 6)
        (B4 N p1 (fun (_ : Unit) =>
         some 0) N 0)))))
   fun j7 =>
   AR ((decide (p1.ff < 0)))
    (j7 true)
    (AR ((decide ((p0.fa.length : Int) ≤ p1.ff)))
     (j7 true)
     (AR ((decide (p1.fj < 0)))
      (j7 true)
      (j7 (decide ((p0.fa.length : Int) ≤ p1.fj)))))))
 fun j1 =>
 AR ((decide (p1.fg < 1)))
  (j1 true)
  (AR ((decide (4 < p1.fg)))
   (j1 true)
   (AR p1.ft
    ((A8 N p1).bind fun v5 =>
    j1 v5)
    (j1 false)))
def Bk (N : Nat) (p0 : Aa) (j7 : Unit → Option Int) : Nat → Int → Option Int
 | 0, _ => none
 | n7 + 1, v7 =>
  AR ((decide (v7 < (p0.fa.length : Int))))
   ((Bs p0.fa v7).bind fun v10 =>
   Bd (fun (v11 : Bool) =>
    AR v11
     (some 7)
     (Bk N p0 j7 n7 (wI .i64 (v7 + 1))))
   fun j11 =>
   AR ((decide (v10 < 1)))
    (j11 true)
    (AR ((decide (6 < v10)))
     (j11 true)
     ((Bs p0.fh v7).bind fun v14 =>
     AR ((decide (v14 < 0)))
      (j11 true)
      ((Bs p0.fh v7).bind fun v16 =>
      AR ((decide (v10 ≤ v16)))
       (j11 true)
       ((Bs p0.fq v7).bind fun v18 =>
       AR ((decide (v18 < 0)))
        (j11 true)
        ((Bs p0.fq v7).bind fun v20 =>
        j11 (decide (v10 ≤ v20))))))))
   (j7 ())
def Be (N : Nat) (p0 : Aa) (j22 : Unit → Option Int) : Nat → Int → Option Int
 | 0, _ => none
 | n22 + 1, v22 =>
  AR ((decide (v22 < (p0.fc.length : Int))))
   ((Bs p0.fc v22).bind fun v25 =>
   (ES N p0 v25).bind fun v26 =>
   AR ((v26 != 0))
    (some v26)
    (Be N p0 j22 n22 (wI .i64 (v22 + 1))))
   (j22 ())
def BE (N : Nat) (p0 : Aa) : Option Int :=
 Bd (fun (v1 : Bool) =>
  AR v1
   (some 3)
   (Bd (fun (v4 : Bool) =>
    AR v4
     (some 6)
     (Bk N p0 (fun (_ : Unit) =>
      Be N p0 (fun (_ : Unit) =>
       some 0) N 0) N 0))
   fun j4 =>
   AR (((p0.fh.length : Int) != (p0.fa.length : Int)))
    (j4 true)
    (j4 ((p0.fq.length : Int) != (p0.fa.length : Int)))))
 fun j1 =>
 AR ((decide (6 < (p0.fa.length : Int))))
  (j1 true)
  (j1 (decide (12 < (p0.fc.length : Int))))
def Fz (N : Nat) (p0 : Int) (j1 : ((List Int)) → Option ((List Int))) : Nat → ((List Int) × Int) → Option ((List Int))
 | 0, _ => none
 | n1 + 1, v1 =>
  (DH (0 ≤ v1.2)).bind fun _ =>
  AR ((decide (0 < (AY .i64 p0 v1.2))))
   (Bd (fun (v5 : (List Int)) =>
    Fz N p0 j1 n1 (v5, (wI .i64 (v1.2 + 1))))
   fun j5 =>
   (DH (0 ≤ v1.2)).bind fun _ =>
   AR (((zB7 ((AY .i64 p0 v1.2)) 2) == 1))
    ((DH (v1.1.length + (([v1.2] : List Int)).length ≤ C2)).bind fun _ =>
    j5 (v1.1 ++ (([v1.2] : List Int))))
    (j5 v1.1))
   (j1 v1.1)
def HE (N : Nat) (p0 : Int) : Option ((List Int)) :=
 Fz N p0 (fun (v2 : (List Int)) =>
  some v2) N (([] : List Int), 0)
def EJ (N : Nat) (p0 : List Int) (p1 : List Int) (j2 : Unit → Option Bool) : Nat → Int → Option Bool
 | 0, _ => none
 | n2 + 1, v2 =>
  AR ((decide (v2 < (p0.length : Int))))
   ((Bs p0 v2).bind fun v5 =>
   (Bs p1 v2).bind fun v6 =>
   AR ((v5 != v6))
    ((Bs p0 v2).bind fun v8 =>
    (Bs p1 v2).bind fun v9 =>
    some ((decide (v8 < v9))))
    (EJ N p0 p1 j2 n2 (wI .i64 (v2 + 1))))
   (j2 ())
def GK (N : Nat) (p0 : List Int) (p1 : List Int) : Option Bool :=
 AR (((p0.length : Int) != (p1.length : Int)))
  (some ((decide ((p0.length : Int) < (p1.length : Int)))))
  (EJ N p0 p1 (fun (_ : Unit) =>
   some false) N 0)
def Fd (N : Nat) (j7 : ((List (List Int))) → Option ((List (List Int)))) : Nat → ((List (List Int)) × Int) → Option ((List (List Int)))
 | 0, _ => none
 | n7 + 1, v7 =>
  Bd (fun (v9 : Bool) =>
   AR v9
    ((Bs v7.1 ((wI .i64 (v7.2 - 1)))).bind fun v15 =>
    (Bs v7.1 v7.2).bind fun v16 =>
    (Bs v7.1 v7.2).bind fun _ =>
    (Bs (v7.1.set ((v7.2).toNat) v15) ((wI .i64 (v7.2 - 1)))).bind fun _ =>
    Fd N j7 n7 ((v7.1.set ((v7.2).toNat) v15).set (((wI .i64 (v7.2 - 1))).toNat) v16, (wI .i64 (v7.2 - 1))))
    (j7 v7.1))
  fun j9 =>
  AR ((decide (0 < v7.2)))
   ((Bs v7.1 v7.2).bind fun v11 =>
   (Bs v7.1 ((wI .i64 (v7.2 - 1)))).bind fun v12 =>
   (GK N v11 v12).bind fun v13 =>
   j9 v13)
   (j9 false)
def Ff (N : Nat) (p0 : Int) (j1 : ((List (List Int))) → Option ((List (List Int)))) : Nat → ((List (List Int)) × Int) → Option ((List (List Int)))
 | 0, _ => none
 | n1 + 1, v1 =>
  (DH (0 ≤ p0)).bind fun _ =>
  AR ((decide (v1.2 < (DQ .i64 1 p0))))
   ((HE N v1.2).bind fun v5 =>
   (DH (v1.1.length + (([v5] : List (List Int))).length ≤ C2)).bind fun _ =>
   Fd N (fun (v8 : (List (List Int))) =>
    Ff N p0 j1 n1 (v8, (wI .i64 (v1.2 + 1)))) N (v1.1 ++ (([v5] : List (List Int))), (wI .i64 (((v1.1 ++ (([v5] : List (List Int)))).length : Int) - 1))))
   (j1 v1.1)
def C3 (N : Nat) (p0 : Int) : Option ((List (List Int))) :=
 Ff N p0 (fun (v2 : (List (List Int))) =>
  some v2) N (([] : List (List Int)), 0)
def Ce (N : Nat) (p0 : List Int) (p1 : Int) (j1 : Unit → Option Int) : Nat → Int → Option Int
 | 0, _ => none
 | n1 + 1, v1 =>
  AR ((decide (v1 < (p0.length : Int))))
   ((Bs p0 v1).bind fun v4 =>
   AR ((v4 == p1))
    (some v1)
    (Ce N p0 p1 j1 n1 (wI .i64 (v1 + 1))))
   (j1 ())
def DZ (N : Nat) (p0 : List Int) (p1 : Int) : Option Int :=
 Ce N p0 p1 (fun (_ : Unit) =>
  some ((-1))) N 0
def Cz (N : Nat) (p0 : List (List Bool)) (j1 : ((List (List Bool))) → Option ((List (List Bool)))) : Nat → ((List (List Bool)) × Int) → Option ((List (List Bool)))
 | 0, _ => none
 | n1 + 1, v1 =>
  AR ((decide (v1.2 < (p0.length : Int))))
   ((Bs p0 v1.2).bind fun v4 =>
   (DH ((([] : List Bool)).length + v4.length ≤ C2)).bind fun _ =>
   (DH (v1.1.length + (([(([] : List Bool)) ++ v4] : List (List Bool))).length ≤ C2)).bind fun _ =>
   Cz N p0 j1 n1 (v1.1 ++ (([(([] : List Bool)) ++ v4] : List (List Bool))), (wI .i64 (v1.2 + 1))))
   (j1 v1.1)
def DL (N : Nat) (p0 : List (List Bool)) : Option ((List (List Bool))) :=
 Cz N p0 (fun (v2 : (List (List Bool))) =>
  some v2) N (([] : List (List Bool)), 0)
def Fw (N : Nat) (p0 : Al) (p1 : Int) (p2 : Int) : Option Al :=
 (DL N p0.fr).bind fun v1 =>
 (DL N p0.fk).bind fun v2 =>
 some ((Al.mk p0.fg p1 p2 p0.ft v1 v2))
def AZ (N : Nat) (p1 : List Int) (j3 : Unit → Option (Aa × Int)) : Nat → Int → Option (Aa × Int)
 | 0, _ => none
 | n3 + 1, v3 =>
  AR ((decide (v3 < (p1.length : Int))))
   ((Bs p1 v3).bind fun v6 =>
   (Bs p1 ((wI .i64 (v3 - 1)))).bind fun v7 =>
   AR ((decide (v6 ≤ v7)))
    (some ((Aa.mk (([] : List Int)) (([] : List Int)) (([] : List Int)) (([] : List Al))), 1))
    (AZ N p1 j3 n3 (wI .i64 (v3 + 1))))
   (j3 ())
def CL (N : Nat) (p0 : Aa) (p1 : List Int) (j9 : ((List Int) × (List Int) × (List Int)) → Option (Aa × Int)) : Nat → ((List Int) × (List Int) × (List Int) × Int) → Option (Aa × Int)
 | 0, _ => none
 | n9 + 1, v9 =>
  AR ((decide (v9.2.2.2 < (p1.length : Int))))
   ((Bs p1 v9.2.2.2).bind fun v12 =>
   Bd (fun (v13 : Bool) =>
    AR v13
     (some ((Aa.mk (([] : List Int)) (([] : List Int)) (([] : List Int)) (([] : List Al))), 4))
     ((Bs p0.fa v12).bind fun v16 =>
     (DH (v9.1.length + (([v16] : List Int)).length ≤ C2)).bind fun _ =>
     (Bs p0.fh v12).bind fun v18 =>
     (DH (v9.2.1.length + (([v18] : List Int)).length ≤ C2)).bind fun _ =>
     (Bs p0.fq v12).bind fun v20 =>
     (DH (v9.2.2.1.length + (([v20] : List Int)).length ≤ C2)).bind fun _ =>
     CL N p0 p1 j9 n9 (v9.1 ++ (([v16] : List Int)), v9.2.1 ++ (([v18] : List Int)), v9.2.2.1 ++ (([v20] : List Int)), (wI .i64 (v9.2.2.2 + 1)))))
   fun j13 =>
   AR ((decide (v12 < 0)))
    (j13 true)
    (j13 (decide ((p0.fa.length : Int) ≤ v12))))
   (j9 (v9.1, v9.2.1, v9.2.2.1))
def BD (N : Nat) (p0 : Aa) (p1 : List Int) (j22 : ((List Al)) → Option (Aa × Int)) : Nat → ((List Al) × Int) → Option (Aa × Int)
 | 0, _ => none
 | n22 + 1, v22 =>
  AR ((decide (v22.2 < (p0.fc.length : Int))))
   (Bd (fun (v25 : (List Al)) =>
    BD N p0 p1 j22 n22 (v25, (wI .i64 (v22.2 + 1))))
   fun j25 =>
   (Bs p0.fc v22.2).bind fun v26 =>
   (DZ N p1 v26.ff).bind fun v27 =>
   (DZ N p1 v26.fj).bind fun v28 =>
   Bd (fun (v29 : Bool) =>
    AR v29
     ((Fw N v26 v27 v28).bind fun v32 =>
     (DH (v22.1.length + (([v32] : List Al)).length ≤ C2)).bind fun _ =>
     j25 (v22.1 ++ (([v32] : List Al))))
     (j25 v22.1))
   fun j29 =>
   AR ((decide (0 ≤ v27)))
    (j29 (decide (0 ≤ v28)))
    (j29 false))
   (j22 v22.1)
def D0 (N : Nat) (p0 : Aa) (p1 : List Int) : Option (Aa × Int) :=
 (BE N p0).bind fun v1 =>
 AR ((v1 != 0))
  (some ((Aa.mk (([] : List Int)) (([] : List Int)) (([] : List Int)) (([] : List Al))), v1))
  (AZ N p1 (fun (_ : Unit) =>
   CL N p0 p1 (fun (v10 : (List Int) × (List Int) × (List Int)) =>
    BD N p0 p1 (fun (v23 : (List Al)) =>
     some ((Aa.mk v10.1 v10.2.1 v10.2.2 v23), 0)) N (([] : List Al), 0)) N (([] : List Int), ([] : List Int), ([] : List Int), 0)) N 1)
def Cf (N : Nat) (p0 : Aa) (j3 : ((List Int) × (List Int)) → Option (Ac × Int)) : Nat → ((List Int) × (List Int) × Int) → Option (Ac × Int)
 | 0, _ => none
 | n3 + 1, v3 =>
  AR ((decide (v3.2.2 < (p0.fa.length : Int))))
   ((Bs p0.fh v3.2.2).bind fun v6 =>
   (DH (v3.1.length + (([v6] : List Int)).length ≤ C2)).bind fun _ =>
   (DH (v3.2.1.length + (([(-1)] : List Int)).length ≤ C2)).bind fun _ =>
   Cf N p0 j3 n3 (v3.1 ++ (([v6] : List Int)), v3.2.1 ++ (([(-1)] : List Int)), (wI .i64 (v3.2.2 + 1))))
   (j3 (v3.1, v3.2.1))
def Bi (N : Nat) (p0 : Aa) (j9 : ((List Int)) → Option (Ac × Int)) : Nat → ((List Int) × Int) → Option (Ac × Int)
 | 0, _ => none
 | n9 + 1, v9 =>
  AR ((decide (v9.2 < (p0.fc.length : Int))))
   (Bd (fun (v12 : Int) =>
    (DH (v9.1.length + (([v12] : List Int)).length ≤ C2)).bind fun _ =>
    Bi N p0 j9 n9 (v9.1 ++ (([v12] : List Int)), (wI .i64 (v9.2 + 1))))
   fun j12 =>
   (Bs p0.fc v9.2).bind fun v13 =>
   (A8 N v13).bind fun v14 =>
   AR v14
    ((Bs p0.fc v9.2).bind fun v16 =>
    (Bs p0.fh v16.ff).bind fun v17 =>
    (DH (0 ≤ v17)).bind fun _ =>
    j12 (DQ .u8 1 v17))
    (j12 0))
   (j9 v9.1)
def E2 (N : Nat) (p0 : Aa) : Option (Ac × Int) :=
 (BE N p0).bind fun v1 =>
 AR ((v1 != 0))
  (some ((Ac.mk (([] : List Int)) (([] : List Int)) (([] : List Int))), v1))
  (Cf N p0 (fun (v4 : (List Int) × (List Int)) =>
   Bi N p0 (fun (v10 : (List Int)) =>
    some ((Ac.mk v4.1 v4.2 v10), 0)) N (([] : List Int), 0)) N (([] : List Int), ([] : List Int), 0))
def Es (_ : Nat) (p0 : Ac) : Option Ac :=
 (DH ((([] : List Int)).length + p0.fd.length ≤ C2)).bind fun _ =>
 (DH ((([] : List Int)).length + p0.fb.length ≤ C2)).bind fun _ =>
 (DH ((([] : List Int)).length + p0.fe.length ≤ C2)).bind fun _ =>
 some ((Ac.mk ((([] : List Int)) ++ p0.fd) ((([] : List Int)) ++ p0.fb) ((([] : List Int)) ++ p0.fe)))
def CE (N : Nat) (p0 : Ac) (j1 : Int → Option ((List Ac))) : Nat → (Int × Int) → Option ((List Ac))
 | 0, _ => none
 | n1 + 1, v1 =>
  AR ((decide (v1.2 < (p0.fb.length : Int))))
   (Bd (fun (v4 : Int) =>
    CE N p0 j1 n1 (v4, (wI .i64 (v1.2 + 1))))
   fun j4 =>
   (Bs p0.fb v1.2).bind fun v5 =>
   AR ((decide (0 ≤ v5)))
    (j4 (wI .i64 (v1.1 + 1)))
    (j4 v1.1))
   (j1 v1.1)
def B1 (N : Nat) (p0 : Ac) (v7 : (List Ac) × Int) (j12 : ((List Int)) → Option ((List Ac))) : Nat → ((List Int) × Int × Int) → Option ((List Ac))
 | 0, _ => none
 | n12 + 1, v12 =>
  AR ((decide (v12.2.2 < (p0.fb.length : Int))))
   (Bd (fun (v15 : (List Int) × Int) =>
    B1 N p0 v7 j12 n12 (v15.1, v15.2, (wI .i64 (v12.2.2 + 1))))
   fun j15 =>
   (Bs p0.fb v12.2.2).bind fun v16 =>
   AR ((decide (v16 < 0)))
    (j15 (v12.1, v12.2.1))
    (Bd (fun (v18 : (List Int)) =>
     j15 (v18, (wI .i64 (v12.2.1 + 1))))
    fun j18 =>
    (DH (0 ≤ v12.2.1)).bind fun _ =>
    AR (((zB7 ((AY .i64 v7.2 v12.2.1)) 2) == 1))
     ((Bs v12.1 v12.2.2).bind fun _ =>
     j18 (v12.1.set ((v12.2.2).toNat) ((-1))))
     (j18 v12.1)))
   (j12 v12.1)
def BB (N : Nat) (p0 : Ac) (v2 : Int) (j7 : ((List Ac)) → Option ((List Ac))) : Nat → ((List Ac) × Int) → Option ((List Ac))
 | 0, _ => none
 | n7 + 1, v7 =>
  (DH (0 ≤ v2)).bind fun _ =>
  AR ((decide (v7.2 < (DQ .i64 1 v2))))
   ((Es N p0).bind fun v11 =>
   B1 N p0 v7 (fun (v13 : (List Int)) =>
    (DH (v7.1.length + (([(Ac.mk v11.fd v13 v11.fe)] : List Ac)).length ≤ C2)).bind fun _ =>
    BB N p0 v2 j7 n7 (v7.1 ++ (([(Ac.mk v11.fd v13 v11.fe)] : List Ac)), (wI .i64 (v7.2 + 1)))) N (v11.fb, 0, 0))
   (j7 v7.1)
def Ew (N : Nat) (p0 : Ac) : Option ((List Ac)) :=
 CE N p0 (fun (v2 : Int) =>
  BB N p0 v2 (fun (v8 : (List Ac)) =>
   some v8) N (([] : List Ac), 0)) N (0, 0)
def B0 (_ : Nat) (p0 : Ac) (p1 : Int) : Option Int :=
 (Bs p0.fd p1).bind fun v1 =>
 (DH (0 ≤ v1)).bind fun _ =>
 Bd (fun (v3 : Int) =>
  some v3)
 fun j3 =>
 (Bs p0.fb p1).bind fun v4 =>
 AR ((decide (0 ≤ v4)))
  ((Bs p0.fb p1).bind fun v6 =>
  (DH (0 ≤ v6)).bind fun _ =>
  j3 (PP .u8 ((DQ .u8 1 v1)) ((DQ .u8 1 v6))))
  (j3 (DQ .u8 1 v1))
def CA (_ : Nat) (p0 : Int) (p1 : Int) : Option Bool :=
 (DH (0 ≤ p1)).bind fun _ =>
 some (((AI .u8 ((AY .u8 p0 p1)) 1) == 1))
def Bm (N : Nat) (p0 : Aa) (p1 : Ac) (v1 : (List An) × Int) (v4 : Al) (v10 : (List An) × Int) (j17 : ((List An) × Bool) → Option ((List An))) : Nat → ((List An) × Bool × Int) → Option ((List An))
 | 0, _ => none
 | n17 + 1, v17 =>
  (Bs p0.fa v4.fj).bind fun v19 =>
  AR ((decide (v17.2.2 < v19)))
   (Bd (fun (v21 : (List An) × Bool) =>
    Bm N p0 p1 v1 v4 v10 j17 n17 (v21.1, v21.2, (wI .i64 (v17.2.2 + 1))))
   fun j21 =>
   (B0 N p1 v4.fj).bind fun v22 =>
   (CA N v22 v17.2.2).bind fun v23 =>
   AR ((!v23))
    (j21 (v17.1, v17.2.1))
    (Bd (fun (v25 : Bool) =>
     Bd (fun (v29 : Bool) =>
      AR v29
       ((DH (v17.1.length + (([(An.mk v1.2 v10.2 v17.2.2)] : List An)).length ≤ C2)).bind fun _ =>
       j21 (v17.1 ++ (([(An.mk v1.2 v10.2 v17.2.2)] : List An)), v25))
       (j21 (v17.1, v25)))
     fun j29 =>
     AR ((!v4.ft))
      ((Bs v4.fr v10.2).bind fun v31 =>
      (Bs v31 v17.2.2).bind fun v32 =>
      j29 (!v32))
      (j29 false))
    fun j25 =>
    AR v17.2.1
     (j25 true)
     ((Bs v4.fr v10.2).bind fun v27 =>
     (Bs v27 v17.2.2).bind fun v28 =>
     j25 v28)))
   (j17 (v17.1, v17.2.1))
def BJ (N : Nat) (p0 : Aa) (p1 : Ac) (v1 : (List An) × Int) (v4 : Al) (v6 : Int) (j10 : ((List An)) → Option ((List An))) : Nat → ((List An) × Int) → Option ((List An))
 | 0, _ => none
 | n10 + 1, v10 =>
  (Bs p0.fa v4.ff).bind fun v12 =>
  AR ((decide (v10.2 < v12)))
   (Bd (fun (v14 : (List An)) =>
    BJ N p0 p1 v1 v4 v6 j10 n10 (v14, (wI .i64 (v10.2 + 1))))
   fun j14 =>
   (CA N v6 v10.2).bind fun v15 =>
   AR ((!v15))
    (j14 v10.1)
    (Bm N p0 p1 v1 v4 v10 (fun (v18 : (List An) × Bool) =>
     Bd (fun (v35 : Bool) =>
      AR v35
       ((DH (v18.1.length + (([(An.mk v1.2 v10.2 ((-1)))] : List An)).length ≤ C2)).bind fun _ =>
       j14 (v18.1 ++ (([(An.mk v1.2 v10.2 ((-1)))] : List An))))
       (j14 v18.1))
     fun j35 =>
     AR v4.ft
      (j35 (!v18.2))
      (j35 false)) N (v10.1, false, 0)))
   (j10 v10.1)
def CI (N : Nat) (p0 : Aa) (p1 : Ac) (j1 : ((List An)) → Option ((List An))) : Nat → ((List An) × Int) → Option ((List An))
 | 0, _ => none
 | n1 + 1, v1 =>
  AR ((decide (v1.2 < (p0.fc.length : Int))))
   ((Bs p0.fc v1.2).bind fun v4 =>
   (B0 N p1 v4.ff).bind fun v5 =>
   Bd (fun (v6 : Int) =>
    BJ N p0 p1 v1 v4 v6 (fun (v11 : (List An)) =>
     CI N p0 p1 j1 n1 (v11, (wI .i64 (v1.2 + 1)))) N (v1.1, 0))
   fun j6 =>
   (A8 N v4).bind fun v7 =>
   AR v7
    ((Bs p1.fe v1.2).bind fun v9 =>
    j6 v9)
    (j6 v5))
   (j1 v1.1)
def EU (N : Nat) (p0 : Aa) (p1 : Ac) : Option ((List An)) :=
 CI N p0 p1 (fun (v2 : (List An)) =>
  some v2) N (([] : List An), 0)
def Er (N : Nat) (p0 : Aa) (p1 : Ac) : Option Bool :=
 (EU N p0 p1).bind fun v1 =>
 some (((v1.length : Int) == 0))
def B7 (N : Nat) (p0 : Aa) (v1 : (List Ac)) (j2 : Unit → Option Bool) : Nat → Int → Option Bool
 | 0, _ => none
 | n2 + 1, v2 =>
  AR ((decide (v2 < (v1.length : Int))))
   ((Bs v1 v2).bind fun v5 =>
   (Er N p0 v5).bind fun v6 =>
   AR ((!v6))
    (some false)
    (B7 N p0 v1 j2 n2 (wI .i64 (v2 + 1))))
   (j2 ())
def Dg (N : Nat) (p0 : Aa) (p1 : Ac) : Option Bool :=
 (Ew N p1).bind fun v1 =>
 B7 N p0 v1 (fun (_ : Unit) =>
  some true) N 0
def Cg (N : Nat) (p0 : Aa) (p1 : Ac) (j7 : Unit → Option Int) : Nat → Int → Option Int
 | 0, _ => none
 | n7 + 1, v7 =>
  AR ((decide (v7 < (p0.fa.length : Int))))
   (Bd (fun (v10 : Bool) =>
    AR v10
     (some 7)
     ((Bs p1.fd v7).bind fun v21 =>
     (Bs p1.fb v7).bind fun v22 =>
     AR ((v21 == v22))
      (some 1)
      (Cg N p0 p1 j7 n7 (wI .i64 (v7 + 1)))))
   fun j10 =>
   (Bs p1.fd v7).bind fun v11 =>
   AR ((decide (v11 < 0)))
    (j10 true)
    ((Bs p1.fd v7).bind fun v13 =>
    (Bs p0.fa v7).bind fun v14 =>
    AR ((decide (v14 ≤ v13)))
     (j10 true)
     ((Bs p1.fb v7).bind fun v16 =>
     AR ((decide (v16 < (-1))))
      (j10 true)
      ((Bs p1.fb v7).bind fun v18 =>
      (Bs p0.fa v7).bind fun v19 =>
      j10 (decide (v19 ≤ v18))))))
   (j7 ())
def B6 (N : Nat) (p0 : Aa) (p1 : Ac) (j24 : Unit → Option Int) : Nat → Int → Option Int
 | 0, _ => none
 | n24 + 1, v24 =>
  AR ((decide (v24 < (p0.fc.length : Int))))
   ((Bs p0.fc v24).bind fun v27 =>
   (Bs p0.fa v27.ff).bind fun v28 =>
   (DH (0 ≤ v28)).bind fun _ =>
   Bd (fun (v30 : Bool) =>
    AR v30
     (some 1)
     (B6 N p0 p1 j24 n24 (wI .i64 (v24 + 1))))
   fun j30 =>
   (A8 N v27).bind fun v31 =>
   AR ((!v31))
    ((Bs p1.fe v24).bind fun v33 =>
    AR ((v33 != 0))
     (j30 true)
     ((A8 N v27).bind fun v35 =>
     AR v35
      ((Bs p1.fe v24).bind fun v37 =>
      AR (((CZ .u8 v37 ((wI .u8 ((DQ .u8 1 v28) - 1)))) != 0))
       (j30 true)
       ((B0 N p1 v27.ff).bind fun v39 =>
       (Bs p1.fe v24).bind fun v40 =>
       j30 ((CZ .u8 v39 v40) != 0)))
      (j30 false)))
    ((A8 N v27).bind fun v41 =>
    AR v41
     ((Bs p1.fe v24).bind fun v43 =>
     AR (((CZ .u8 v43 ((wI .u8 ((DQ .u8 1 v28) - 1)))) != 0))
      (j30 true)
      ((B0 N p1 v27.ff).bind fun v45 =>
      (Bs p1.fe v24).bind fun v46 =>
      j30 ((CZ .u8 v45 v46) != 0)))
     (j30 false)))
   (j24 ())
def EY (N : Nat) (p0 : Aa) (p1 : Ac) : Option Int :=
 (BE N p0).bind fun v1 =>
 AR ((v1 != 0))
  (some v1)
  (Bd (fun (v3 : Bool) =>
   AR v3
    (some 6)
    (Cg N p0 p1 (fun (_ : Unit) =>
     B6 N p0 p1 (fun (_ : Unit) =>
      some 0) N 0) N 0))
  fun j3 =>
  AR (((p1.fd.length : Int) != (p0.fa.length : Int)))
   (j3 true)
   (AR (((p1.fb.length : Int) != (p0.fa.length : Int)))
    (j3 true)
    (j3 ((p1.fe.length : Int) != (p0.fc.length : Int)))))
def EO (_ : Nat) (p0 : Ad) : Option Bool :=
 Bd (fun (v1 : Bool) =>
  some v1)
 fun j1 =>
 AR ((decide (1 ≤ p0.fg)))
  (AR ((decide (p0.fg ≤ 4)))
   (AR ((decide (0 ≤ p0.fi)))
    (AR ((decide (0 ≤ p0.fo)))
     (AR ((p0.fg == 1))
      (j1 true)
      (j1 (p0.fo == 0)))
     (j1 false))
    (j1 false))
   (j1 false))
  (j1 false)
def B3 (N : Nat) (p0 : Aa) (p2 : Ad) (j12 : ((List Int)) → Option (Ac × Bool)) : Nat → ((List Int) × Int) → Option (Ac × Bool)
 | 0, _ => none
 | n12 + 1, v12 =>
  AR ((decide (v12.2 < (p0.fc.length : Int))))
   (Bd (fun (v15 : (List Int)) =>
    B3 N p0 p2 j12 n12 (v15, (wI .i64 (v12.2 + 1))))
   fun j15 =>
   Bd (fun (v16 : Bool) =>
    AR v16
     ((Bs v12.1 v12.2).bind fun v22 =>
     (DH (0 ≤ p2.fo)).bind fun _ =>
     (Bs v12.1 v12.2).bind fun _ =>
     j15 (v12.1.set ((v12.2).toNat) ((PP .u8 v22 ((DQ .u8 1 p2.fo))))))
     (j15 v12.1))
   fun j16 =>
   (Bs p0.fc v12.2).bind fun v17 =>
   AR ((v17.ff == p2.fi))
    ((Bs p0.fc v12.2).bind fun v19 =>
    (A8 N v19).bind fun v20 =>
    j16 v20)
    (j16 false))
   (j12 v12.1)
def BI (N : Nat) (p0 : Aa) (p1 : Ac) (p2 : Ad) (v32 : Al) (v35 : Int) (j38 : Unit → Option (Ac × Bool)) : Nat → Int → Option (Ac × Bool)
 | 0, _ => none
 | n38 + 1, v38 =>
  (Bs p0.fa v32.ff).bind fun v40 =>
  AR ((decide (v38 < v40)))
   (Bd (fun (v42 : Bool) =>
    Bd (fun (v47 : Bool) =>
     AR v47
      (some ((Ac.mk (([] : List Int)) (([] : List Int)) (([] : List Int))), false))
      (BI N p0 p1 p2 v32 v35 j38 n38 (wI .i64 (v38 + 1))))
    fun j47 =>
    AR v42
     (AR ((v32.fg == 4))
      ((Bs v32.fk v38).bind fun v50 =>
      (Bs p1.fd v32.ff).bind fun v51 =>
      (Bs v50 v51).bind fun v52 =>
      j47 (!v52))
      (j47 false))
     (j47 false))
   fun j42 =>
   (Bs p1.fe p2.fi).bind fun v43 =>
   (CA N v43 v38).bind fun v44 =>
   AR v44
    ((CA N v35 v38).bind fun v46 =>
    j42 (!v46))
    (j42 false))
   (j38 ())
def CR (N : Nat) (p0 : Aa) (p1 : Ac) (p2 : Ad) : Option (Ac × Bool) :=
 (DH ((([] : List Int)).length + p1.fd.length ≤ C2)).bind fun _ =>
 (DH ((([] : List Int)).length + p1.fb.length ≤ C2)).bind fun _ =>
 (DH ((([] : List Int)).length + p1.fe.length ≤ C2)).bind fun _ =>
 Bd (fun (v4 : (List Int) × (List Int) × (List Int)) =>
  some ((Ac.mk v4.1 v4.2.1 v4.2.2), true))
 fun j4 =>
 AR ((p2.fg == 1))
  (Bd (fun (v6 : Bool) =>
   AR v6
    (some ((Ac.mk (([] : List Int)) (([] : List Int)) (([] : List Int))), false))
    ((Bs ((([] : List Int)) ++ p1.fb) p2.fi).bind fun _ =>
    B3 N p0 p2 (fun (v13 : (List Int)) =>
     j4 ((([] : List Int)) ++ p1.fd, ((([] : List Int)) ++ p1.fb).set ((p2.fi).toNat) p2.fo, v13)) N ((([] : List Int)) ++ p1.fe, 0)))
  fun j6 =>
  (Bs p1.fb p2.fi).bind fun v7 =>
  AR ((decide (0 ≤ v7)))
   (j6 true)
   ((Bs p1.fd p2.fi).bind fun v9 =>
   j6 (p2.fo == v9)))
  (AR ((p2.fg == 2))
   ((Bs p1.fb p2.fi).bind fun v26 =>
   AR ((decide (v26 < 0)))
    (some ((Ac.mk (([] : List Int)) (([] : List Int)) (([] : List Int))), false))
    ((Bs p1.fb p2.fi).bind fun v28 =>
    (Bs ((([] : List Int)) ++ p1.fd) p2.fi).bind fun _ =>
    (Bs ((([] : List Int)) ++ p1.fb) p2.fi).bind fun _ =>
    j4 (((([] : List Int)) ++ p1.fd).set ((p2.fi).toNat) v28, ((([] : List Int)) ++ p1.fb).set ((p2.fi).toNat) ((-1)), (([] : List Int)) ++ p1.fe)))
   (AR ((p2.fg == 3))
    ((Bs p0.fc p2.fi).bind fun v32 =>
    (A8 N v32).bind fun v33 =>
    AR ((!v33))
     (some ((Ac.mk (([] : List Int)) (([] : List Int)) (([] : List Int))), false))
     ((B0 N p1 v32.ff).bind fun v35 =>
     (Bs p1.fe p2.fi).bind fun v36 =>
     AR ((v36 == v35))
      (some ((Ac.mk (([] : List Int)) (([] : List Int)) (([] : List Int))), false))
      (BI N p0 p1 p2 v32 v35 (fun (_ : Unit) =>
       (Bs ((([] : List Int)) ++ p1.fe) p2.fi).bind fun _ =>
       j4 ((([] : List Int)) ++ p1.fd, (([] : List Int)) ++ p1.fb, ((([] : List Int)) ++ p1.fe).set ((p2.fi).toNat) v35)) N 0)))
    ((Bs p1.fb p2.fi).bind fun v55 =>
    AR ((decide (v55 < 0)))
     (some ((Ac.mk (([] : List Int)) (([] : List Int)) (([] : List Int))), false))
     ((Bs ((([] : List Int)) ++ p1.fb) p2.fi).bind fun _ =>
     j4 ((([] : List Int)) ++ p1.fd, ((([] : List Int)) ++ p1.fb).set ((p2.fi).toNat) ((-1)), (([] : List Int)) ++ p1.fe)))))
def E3 (N : Nat) (p0 : Aa) (p1 : Ac) (p2 : Ad) : Option (Ac × Int) :=
 (EY N p0 p1).bind fun v1 =>
 AR ((v1 != 0))
  (some ((Ac.mk (([] : List Int)) (([] : List Int)) (([] : List Int))), v1))
  ((EO N p2).bind fun v3 =>
  AR ((!v3))
   (some ((Ac.mk (([] : List Int)) (([] : List Int)) (([] : List Int))), 1))
   (Bd (fun (v5 : Bool) =>
    AR v5
     (some ((Ac.mk (([] : List Int)) (([] : List Int)) (([] : List Int))), 4))
     (Bd (fun (v11 : Bool) =>
      AR v11
       (some ((Ac.mk (([] : List Int)) (([] : List Int)) (([] : List Int))), 4))
       ((CR N p0 p1 p2).bind fun v15 =>
       AR ((!v15.2))
        (some ((Ac.mk (([] : List Int)) (([] : List Int)) (([] : List Int))), 11))
        (some (v15.1, 0))))
     fun j11 =>
     AR ((p2.fg == 1))
      ((Bs p0.fa p2.fi).bind fun v13 =>
      j11 (decide (v13 ≤ p2.fo)))
      (j11 false)))
   fun j5 =>
   AR ((p2.fg == 3))
    (AR ((decide ((p0.fc.length : Int) ≤ p2.fi)))
     (j5 true)
     (AR ((p2.fg != 3))
      (j5 (decide ((p0.fa.length : Int) ≤ p2.fi)))
      (j5 false)))
    (AR ((p2.fg != 3))
     (j5 (decide ((p0.fa.length : Int) ≤ p2.fi)))
     (j5 false))))
def Cc (N : Nat) (p0 : Aa) (p1 : Ac) (v1 : (List Ad) × Int) (v4 : (List Ad) × Int) (j7 : ((List Ad)) → Option ((List Ad))) : Nat → ((List Ad) × Int) → Option ((List Ad))
 | 0, _ => none
 | n7 + 1, v7 =>
  AR ((decide (v7.2 < 6)))
   (Bd (fun (v10 : (List Ad)) =>
    Cc N p0 p1 v1 v4 j7 n7 (v10, (wI .i64 (v7.2 + 1))))
   fun j10 =>
   (E3 N p0 p1 ((Ad.mk v1.2 v4.2 v7.2))).bind fun v11 =>
   AR ((v11.2 == 0))
    ((DH (v7.1.length + (([(Ad.mk v1.2 v4.2 v7.2)] : List Ad)).length ≤ C2)).bind fun _ =>
    j10 (v7.1 ++ (([(Ad.mk v1.2 v4.2 v7.2)] : List Ad))))
    (j10 v7.1))
   (j7 v7.1)
def Cd (N : Nat) (p0 : Aa) (p1 : Ac) (v1 : (List Ad) × Int) (j4 : ((List Ad)) → Option ((List Ad))) : Nat → ((List Ad) × Int) → Option ((List Ad))
 | 0, _ => none
 | n4 + 1, v4 =>
  AR ((decide (v4.2 < (Vj ((p0.fa.length : Int)) ((p0.fc.length : Int))))))
   (Cc N p0 p1 v1 v4 (fun (v8 : (List Ad)) =>
    Cd N p0 p1 v1 j4 n4 (v8, (wI .i64 (v4.2 + 1)))) N (v4.1, 0))
   (j4 v4.1)
def Bw (N : Nat) (p0 : Aa) (p1 : Ac) (j1 : ((List Ad)) → Option ((List Ad))) : Nat → ((List Ad) × Int) → Option ((List Ad))
 | 0, _ => none
 | n1 + 1, v1 =>
  AR ((decide (v1.2 ≤ 3)))
   (Cd N p0 p1 v1 (fun (v5 : (List Ad)) =>
    Bw N p0 p1 j1 n1 (v5, (wI .i64 (v1.2 + 1)))) N (v1.1, 0))
   (j1 v1.1)
def EZ (N : Nat) (p0 : Aa) (p1 : Ac) : Option ((List Ad)) :=
 Bw N p0 p1 (fun (v2 : (List Ad)) =>
  some v2) N (([] : List Ad), 1)
def Dv (N : Nat) (p0 : List Int) (p1 : List Int) (j1 : Unit → Option Int) : Nat → Int → Option Int
 | 0, _ => none
 | n1 + 1, v1 =>
  Bd (fun (v3 : Bool) =>
   AR v3
    ((Bs p0 v1).bind fun v6 =>
    (Bs p1 v1).bind fun v7 =>
    AR ((decide (v6 < v7)))
     (some ((-1)))
     ((Bs p0 v1).bind fun v9 =>
     (Bs p1 v1).bind fun v10 =>
     AR ((decide (v10 < v9)))
      (some 1)
      (Dv N p0 p1 j1 n1 (wI .i64 (v1 + 1)))))
    (j1 ()))
  fun j3 =>
  AR ((decide (v1 < (p0.length : Int))))
   (j3 (decide (v1 < (p1.length : Int))))
   (j3 false)
def DB (N : Nat) (p0 : List Int) (p1 : List Int) : Option Int :=
 Dv N p0 p1 (fun (_ : Unit) =>
  AR ((decide ((p0.length : Int) < (p1.length : Int))))
   (some ((-1)))
   (AR ((decide ((p1.length : Int) < (p0.length : Int))))
    (some 1)
    (some 0))) N 0
def CT (N : Nat) (p0 : List Int) (j1 : ((List Int)) → Option ((List Int))) : Nat → ((List Int) × Int) → Option ((List Int))
 | 0, _ => none
 | n1 + 1, v1 =>
  AR ((decide (v1.2 < (p0.length : Int))))
   ((Bs p0 v1.2).bind fun v4 =>
   (DH (v1.1.length + (([(wI .i64 v4)] : List Int)).length ≤ C2)).bind fun _ =>
   CT N p0 j1 n1 (v1.1 ++ (([(wI .i64 v4)] : List Int)), (wI .i64 (v1.2 + 1))))
   (j1 v1.1)
def Dx (N : Nat) (p0 : List Int) : Option ((List Int)) :=
 CT N p0 (fun (v2 : (List Int)) =>
  some v2) N (([] : List Int), 0)
def Eb (N : Nat) (p0 : Ac) (p1 : Ac) : Option Int :=
 (DB N p0.fd p1.fd).bind fun v1 =>
 AR ((v1 != 0))
  (some v1)
  ((DB N p0.fb p1.fb).bind fun v3 =>
  AR ((v3 != 0))
   (some v3)
   ((Dx N p0.fe).bind fun v5 =>
   (Dx N p1.fe).bind fun v6 =>
   (DB N v5 v6).bind fun v7 =>
   some v7))
def ET (N : Nat) (p0 : Ac) (p1 : Ac) : Option Bool :=
 (Eb N p0 p1).bind fun v1 =>
 some ((v1 == 0))
def Cr (N : Nat) (p0 : List AD) (p1 : Ac) (j1 : Unit → Option Int) : Nat → Int → Option Int
 | 0, _ => none
 | n1 + 1, v1 =>
  AR ((decide (v1 < (p0.length : Int))))
   ((Bs p0 v1).bind fun v4 =>
   (ET N ((Ac.mk v4.fv.fd v4.fv.fb v4.fv.fe)) p1).bind fun v5 =>
   AR v5
    (some v1)
    (Cr N p0 p1 j1 n1 (wI .i64 (v1 + 1))))
   (j1 ())
def Ej (N : Nat) (p0 : List AD) (p1 : Ac) : Option Int :=
 Cr N p0 p1 (fun (_ : Unit) =>
  some ((-1))) N 0
def BP (N : Nat) (p0 : Aa) (p2 : Int) (v1 : (List AD) × Int) (v5 : (List Ad)) (j6 : ((List AD)) → Option ((List AD) × Bool)) : Nat → ((List AD) × Int) → Option ((List AD) × Bool)
 | 0, _ => none
 | n6 + 1, v6 =>
  AR ((decide (v6.2 < (v5.length : Int))))
   ((Bs v6.1 v1.2).bind fun v9 =>
   (Bs v5 v6.2).bind fun v10 =>
   (CR N p0 ((Ac.mk v9.fv.fd v9.fv.fb v9.fv.fe)) v10).bind fun v11 =>
   Bd (fun (v12 : (List AD)) =>
    AR ((decide (p2 < (v12.length : Int))))
     (some (([] : List AD), false))
     (BP N p0 p2 v1 v5 j6 n6 (v12, (wI .i64 (v6.2 + 1)))))
   fun j12 =>
   Bd (fun (v13 : Bool) =>
    AR v13
     ((Bs v5 v6.2).bind fun v18 =>
     (DH (v6.1.length + (([(AD.mk v11.1 v1.2 v18)] : List AD)).length ≤ C2)).bind fun _ =>
     j12 (v6.1 ++ (([(AD.mk v11.1 v1.2 v18)] : List AD))))
     (j12 v6.1))
   fun j13 =>
   (Dg N p0 v11.1).bind fun v14 =>
   AR v14
    ((Ej N v6.1 v11.1).bind fun v16 =>
    j13 (decide (v16 < 0)))
    (j13 false))
   (j6 v6.1)
def BR (N : Nat) (p0 : Aa) (p2 : Int) (j1 : ((List AD)) → Option ((List AD) × Bool)) : Nat → ((List AD) × Int) → Option ((List AD) × Bool)
 | 0, _ => none
 | n1 + 1, v1 =>
  AR ((decide (v1.2 < (v1.1.length : Int))))
   ((Bs v1.1 v1.2).bind fun v4 =>
   (EZ N p0 ((Ac.mk v4.fv.fd v4.fv.fb v4.fv.fe))).bind fun v5 =>
   BP N p0 p2 v1 v5 (fun (v7 : (List AD)) =>
    BR N p0 p2 j1 n1 (v7, (wI .i64 (v1.2 + 1)))) N (v1.1, 0))
   (j1 v1.1)
def D2 (N : Nat) (p0 : Aa) (p1 : Ac) (p2 : Int) : Option ((List AD) × Bool) :=
 BR N p0 p2 (fun (v2 : (List AD)) =>
  some (v2, true)) N (([(AD.mk p1 ((-1)) ((Ad.mk 0 0 0)))] : List AD), 0)
def EV (N : Nat) (p0 : Aa) (p1 : Int) : Option Bool :=
 (E2 N p0).bind fun v1 =>
 Bd (fun (v2 : Bool) =>
  AR v2
   (some true)
   ((D2 N p0 v1.1 p1).bind fun v6 =>
   some v6.2))
 fun j2 =>
 AR ((v1.2 != 0))
  (j2 true)
  ((Dg N p0 v1.1).bind fun v4 =>
  j2 (!v4))
def CJ (N : Nat) (p0 : Aa) (v4 : (List (List Int))) (j5 : Unit → Option Bool) : Nat → Int → Option Bool
 | 0, _ => none
 | n5 + 1, v5 =>
  AR ((decide (v5 < (v4.length : Int))))
   ((Bs v4 v5).bind fun v8 =>
   (D0 N p0 v8).bind fun v9 =>
   Bd (fun (v10 : Bool) =>
    AR v10
     (some false)
     (CJ N p0 v4 j5 n5 (wI .i64 (v5 + 1))))
   fun j10 =>
   AR ((v9.2 != 0))
    (j10 true)
    ((EV N v9.1 120).bind fun v12 =>
    j10 (!v12)))
   (j5 ())
def FO (N : Nat) (p0 : Aa) : Option Bool :=
 (BE N p0).bind fun v1 =>
 AR ((v1 != 0))
  (some true)
  (AR ((decide (3 < (p0.fa.length : Int))))
   (some false)
   ((C3 N ((p0.fa.length : Int))).bind fun v4 =>
   CJ N p0 v4 (fun (_ : Unit) =>
    some true) N 0))
def zFS (N : Nat) (p0 : BF) : Option (Aa × Bool) :=
 (FR N p0).bind fun v1 =>
 Bd (fun (v2 : Bool) =>
  some (v1.1, v2))
 fun j2 =>
 AR v1.2
  ((FO N v1.1).bind fun v4 =>
  j2 v4)
  (j2 false)
def EG (_ : Nat) : Option ((List (List Bool))) :=
 some (([([true, false] : List Bool), ([false, true] : List Bool)] : List (List Bool)))
def Eg (N : Nat) (p0 : Bool) : Option Aa :=
 (EG N).bind fun v1 =>
 (EG N).bind fun v2 =>
 some ((Aa.mk (([2, 2, 2] : List Int)) (([0, 0, 0] : List Int)) (([1, 1, 1] : List Int)) (([(Al.mk 1 0 1 p0 v1 (([] : List (List Bool)))), (Al.mk 1 1 0 p0 v2 (([] : List (List Bool))))] : List Al))))
def Dt (_ : Nat) (p0 : Int) (p1 : Int) : Option Bool :=
 Bd (fun (v1 : Bool) =>
  some v1)
 fun j1 =>
 AR ((decide (0 ≤ p0)))
  (j1 (decide (p0 < p1)))
  (j1 false)
def Hu (_ : Nat) (p0 : Int) (p1 : Bool) : Option Bool :=
 Bd (fun (v1 : Bool) =>
  some v1)
 fun j1 =>
 AR ((p0 == 1))
  (j1 true)
  (AR ((p0 == 2))
   (j1 true)
   (AR ((p0 == 3))
    (j1 (!p1))
    (AR ((p0 == 4))
     (j1 (!p1))
     (j1 false))))
def Eh (_ : Nat) (p0 : List Bool) (p1 : Int) : Option Bool :=
 some (((p0.length : Int) != p1))
def Bq (N : Nat) (p0 : List (List Bool)) (p1 : (List Bool) → Option Bool) (j1 : Unit → Option Int) : Nat → Int → Option Int
 | 0, _ => none
 | n1 + 1, v1 =>
  AR ((decide (v1 < (p0.length : Int))))
   ((Bs p0 v1).bind fun v4 =>
   (p1 v4).bind fun v5 =>
   AR v5
    (some v1)
    (Bq N p0 p1 j1 n1 (wI .i64 (v1 + 1))))
   (j1 ())
def DG (N : Nat) (p0 : List (List Bool)) (p1 : (List Bool) → Option Bool) : Option Int :=
 Bq N p0 p1 (fun (_ : Unit) =>
  some ((-1))) N 0
def C5 (N : Nat) (p0 : List (List Bool)) (p1 : (List Bool) → Option Bool) : Option Bool :=
 (DG N p0 p1).bind fun v1 =>
 some ((decide (0 ≤ v1)))
def FE (N : Nat) (p0 : List (List Bool)) (p1 : Int) (p2 : Int) : Option Bool :=
 Bd (fun (v1 : Bool) =>
  some v1)
 fun j1 =>
 AR (((p0.length : Int) == p1))
  ((C5 N p0 ((fun (x : List Bool) => Eh N x p2))).bind fun v3 =>
  j1 (!v3))
  (j1 false)
def Dn (N : Nat) (p1 : Al) (j19 : Unit → Option Int) : Nat → Int → Option Int
 | 0, _ => none
 | n19 + 1, v19 =>
  AR ((decide (v19 < (p1.fk.length : Int))))
   ((Bs p1.fk v19).bind fun v22 =>
   (Bs v22 v19).bind fun v23 =>
   AR ((!v23))
    (some 1)
    (Dn N p1 j19 n19 (wI .i64 (v19 + 1))))
   (j19 ())
def GT (N : Nat) (p0 : Aa) (p1 : Al) : Option Int :=
 (Hu N p1.fg p1.ft).bind fun v1 =>
 AR ((!v1))
  (some 1)
  (Bd (fun (v3 : Bool) =>
   AR v3
    (some 4)
    ((Bs p0.fa p1.ff).bind fun v8 =>
    Bd (fun (v9 : Bool) =>
     AR v9
      (some 6)
      (Dn N p1 (fun (_ : Unit) =>
       some 0) N 0))
    fun j9 =>
    (Bs p0.fa p1.fj).bind fun v10 =>
    (FE N p1.fr v8 v10).bind fun v11 =>
    AR ((!v11))
     (j9 true)
     (AR ((p1.fg == 4))
      ((FE N p1.fk v8 v8).bind fun v14 =>
      AR ((!v14))
       (j9 true)
       (AR ((!((p1.fg == 4))))
        (j9 (decide (0 < (p1.fk.length : Int))))
        (j9 false)))
      (AR ((!((p1.fg == 4))))
       (j9 (decide (0 < (p1.fk.length : Int))))
       (j9 false)))))
  fun j3 =>
  (Dt N p1.ff ((p0.fa.length : Int))).bind fun v4 =>
  AR ((!v4))
   (j3 true)
   ((Dt N p1.fj ((p0.fa.length : Int))).bind fun v6 =>
   j3 (!v6)))
def B2 (N : Nat) (p0 : Aa) (j7 : Unit → Option Int) : Nat → Int → Option Int
 | 0, _ => none
 | n7 + 1, v7 =>
  AR ((decide (v7 < (p0.fa.length : Int))))
   ((Bs p0.fa v7).bind fun v10 =>
   Bd (fun (v11 : Bool) =>
    AR v11
     (some 7)
     (B2 N p0 j7 n7 (wI .i64 (v7 + 1))))
   fun j11 =>
   AR ((decide (v10 < 1)))
    (j11 true)
    (AR ((decide (6 < v10)))
     (j11 true)
     ((Bs p0.fh v7).bind fun v14 =>
     (Dt N v14 v10).bind fun v15 =>
     AR ((!v15))
      (j11 true)
      ((Bs p0.fq v7).bind fun v17 =>
      (Dt N v17 v10).bind fun v18 =>
      j11 (!v18)))))
   (j7 ())
def BU (N : Nat) (p0 : Aa) (j20 : Unit → Option Int) : Nat → Int → Option Int
 | 0, _ => none
 | n20 + 1, v20 =>
  AR ((decide (v20 < (p0.fc.length : Int))))
   ((Bs p0.fc v20).bind fun v23 =>
   (GT N p0 v23).bind fun v24 =>
   AR ((v24 != 0))
    (some v24)
    (BU N p0 j20 n20 (wI .i64 (v20 + 1))))
   (j20 ())
def Cb (N : Nat) (p0 : Aa) : Option Int :=
 Bd (fun (v1 : Bool) =>
  AR v1
   (some 3)
   (Bd (fun (v4 : Bool) =>
    AR v4
     (some 6)
     (B2 N p0 (fun (_ : Unit) =>
      BU N p0 (fun (_ : Unit) =>
       some 0) N 0) N 0))
   fun j4 =>
   AR (((p0.fh.length : Int) != (p0.fa.length : Int)))
    (j4 true)
    (j4 ((p0.fq.length : Int) != (p0.fa.length : Int)))))
 fun j1 =>
 AR ((decide (6 < (p0.fa.length : Int))))
  (j1 true)
  (j1 (decide (12 < (p0.fc.length : Int))))
def Bu (_ : Nat) (p0 : List Int) (p1 : (Int × Int) → Option Int) : Option (List Int) := Ux p1 (fun a b => decide (a = b)) p0
def FW (_ : Nat) (p0 : Int) : Option Int :=
 (SU ((⟨⟨(zE3 (zE3 [0, 1, 1, 2, 1, 2, 2, 3, 1, 2, 2, 3, 2, 3, 3, 4, 1, 2, 2, 3, 2, 3, 3, 4, 2, 3, 3, 4, 3, 4, 4, 5, 1, 2, 2, 3, 2, 3, 3, 4, 2, 3, 3, 4, 3, 4, 4, 5, 2, 3, 3, 4, 3, 4, 4, 5, 3, 4, 4, 5, 4, 5, 5, 6] [1, 2, 2, 3, 2, 3, 3, 4, 2, 3, 3, 4, 3, 4, 4, 5, 2, 3, 3, 4, 3, 4, 4, 5, 3, 4, 4, 5, 4, 5, 5, 6, 2, 3, 3, 4, 3, 4, 4, 5, 3, 4, 4, 5, 4, 5, 5, 6, 3, 4, 4, 5, 4, 5, 5, 6, 4, 5, 5, 6, 5, 6, 6, 7]) (zE3 [1, 2, 2, 3, 2, 3, 3, 4, 2, 3, 3, 4, 3, 4, 4, 5, 2, 3, 3, 4, 3, 4, 4, 5, 3, 4, 4, 5, 4, 5, 5, 6, 2, 3, 3, 4, 3, 4, 4, 5, 3, 4, 4, 5, 4, 5, 5, 6, 3, 4, 4, 5, 4, 5, 5, 6, 4, 5, 5, 6, 5, 6, 6, 7] [2, 3, 3, 4, 3, 4, 4, 5, 3, 4, 4, 5, 4, 5, 5, 6, 3, 4, 4, 5, 4, 5, 5, 6, 4, 5, 5, 6, 5, 6, 6, 7, 3, 4, 4, 5, 4, 5, 5, 6, 4, 5, 5, 6, 5, 6, 6, 7, 4, 5, 5, 6, 5, 6, 6, 7, 5, 6, 6, 7, 6, 7, 7, 8]))⟩⟩ : ByteArray)) ((AY .u32 p0 24))).bind fun v1 =>
 (SU ((⟨⟨(zE3 (zE3 [0, 1, 1, 2, 1, 2, 2, 3, 1, 2, 2, 3, 2, 3, 3, 4, 1, 2, 2, 3, 2, 3, 3, 4, 2, 3, 3, 4, 3, 4, 4, 5, 1, 2, 2, 3, 2, 3, 3, 4, 2, 3, 3, 4, 3, 4, 4, 5, 2, 3, 3, 4, 3, 4, 4, 5, 3, 4, 4, 5, 4, 5, 5, 6] [1, 2, 2, 3, 2, 3, 3, 4, 2, 3, 3, 4, 3, 4, 4, 5, 2, 3, 3, 4, 3, 4, 4, 5, 3, 4, 4, 5, 4, 5, 5, 6, 2, 3, 3, 4, 3, 4, 4, 5, 3, 4, 4, 5, 4, 5, 5, 6, 3, 4, 4, 5, 4, 5, 5, 6, 4, 5, 5, 6, 5, 6, 6, 7]) (zE3 [1, 2, 2, 3, 2, 3, 3, 4, 2, 3, 3, 4, 3, 4, 4, 5, 2, 3, 3, 4, 3, 4, 4, 5, 3, 4, 4, 5, 4, 5, 5, 6, 2, 3, 3, 4, 3, 4, 4, 5, 3, 4, 4, 5, 4, 5, 5, 6, 3, 4, 4, 5, 4, 5, 5, 6, 4, 5, 5, 6, 5, 6, 6, 7] [2, 3, 3, 4, 3, 4, 4, 5, 3, 4, 4, 5, 4, 5, 5, 6, 3, 4, 4, 5, 4, 5, 5, 6, 4, 5, 5, 6, 5, 6, 6, 7, 3, 4, 4, 5, 4, 5, 5, 6, 4, 5, 5, 6, 5, 6, 6, 7, 4, 5, 5, 6, 5, 6, 6, 7, 5, 6, 6, 7, 6, 7, 7, 8]))⟩⟩ : ByteArray)) ((AI .u32 ((AY .u32 p0 16)) 255))).bind fun v2 =>
 (SU ((⟨⟨(zE3 (zE3 [0, 1, 1, 2, 1, 2, 2, 3, 1, 2, 2, 3, 2, 3, 3, 4, 1, 2, 2, 3, 2, 3, 3, 4, 2, 3, 3, 4, 3, 4, 4, 5, 1, 2, 2, 3, 2, 3, 3, 4, 2, 3, 3, 4, 3, 4, 4, 5, 2, 3, 3, 4, 3, 4, 4, 5, 3, 4, 4, 5, 4, 5, 5, 6] [1, 2, 2, 3, 2, 3, 3, 4, 2, 3, 3, 4, 3, 4, 4, 5, 2, 3, 3, 4, 3, 4, 4, 5, 3, 4, 4, 5, 4, 5, 5, 6, 2, 3, 3, 4, 3, 4, 4, 5, 3, 4, 4, 5, 4, 5, 5, 6, 3, 4, 4, 5, 4, 5, 5, 6, 4, 5, 5, 6, 5, 6, 6, 7]) (zE3 [1, 2, 2, 3, 2, 3, 3, 4, 2, 3, 3, 4, 3, 4, 4, 5, 2, 3, 3, 4, 3, 4, 4, 5, 3, 4, 4, 5, 4, 5, 5, 6, 2, 3, 3, 4, 3, 4, 4, 5, 3, 4, 4, 5, 4, 5, 5, 6, 3, 4, 4, 5, 4, 5, 5, 6, 4, 5, 5, 6, 5, 6, 6, 7] [2, 3, 3, 4, 3, 4, 4, 5, 3, 4, 4, 5, 4, 5, 5, 6, 3, 4, 4, 5, 4, 5, 5, 6, 4, 5, 5, 6, 5, 6, 6, 7, 3, 4, 4, 5, 4, 5, 5, 6, 4, 5, 5, 6, 5, 6, 6, 7, 4, 5, 5, 6, 5, 6, 6, 7, 5, 6, 6, 7, 6, 7, 7, 8]))⟩⟩ : ByteArray)) ((AI .u32 ((AY .u32 p0 8)) 255))).bind fun v3 =>
 (SU ((⟨⟨(zE3 (zE3 [0, 1, 1, 2, 1, 2, 2, 3, 1, 2, 2, 3, 2, 3, 3, 4, 1, 2, 2, 3, 2, 3, 3, 4, 2, 3, 3, 4, 3, 4, 4, 5, 1, 2, 2, 3, 2, 3, 3, 4, 2, 3, 3, 4, 3, 4, 4, 5, 2, 3, 3, 4, 3, 4, 4, 5, 3, 4, 4, 5, 4, 5, 5, 6] [1, 2, 2, 3, 2, 3, 3, 4, 2, 3, 3, 4, 3, 4, 4, 5, 2, 3, 3, 4, 3, 4, 4, 5, 3, 4, 4, 5, 4, 5, 5, 6, 2, 3, 3, 4, 3, 4, 4, 5, 3, 4, 4, 5, 4, 5, 5, 6, 3, 4, 4, 5, 4, 5, 5, 6, 4, 5, 5, 6, 5, 6, 6, 7]) (zE3 [1, 2, 2, 3, 2, 3, 3, 4, 2, 3, 3, 4, 3, 4, 4, 5, 2, 3, 3, 4, 3, 4, 4, 5, 3, 4, 4, 5, 4, 5, 5, 6, 2, 3, 3, 4, 3, 4, 4, 5, 3, 4, 4, 5, 4, 5, 5, 6, 3, 4, 4, 5, 4, 5, 5, 6, 4, 5, 5, 6, 5, 6, 6, 7] [2, 3, 3, 4, 3, 4, 4, 5, 3, 4, 4, 5, 4, 5, 5, 6, 3, 4, 4, 5, 4, 5, 5, 6, 4, 5, 5, 6, 5, 6, 6, 7, 3, 4, 4, 5, 4, 5, 5, 6, 4, 5, 5, 6, 5, 6, 6, 7, 4, 5, 5, 6, 5, 6, 6, 7, 5, 6, 6, 7, 6, 7, 7, 8]))⟩⟩ : ByteArray)) ((AI .u32 p0 255))).bind fun v4 =>
 some ((wI .i64 ((wI .u8 ((wI .u8 ((wI .u8 (v1 + v2)) + v3)) + v4)))))
def FZ (_ : Nat) (p0 : Int) : Option Int :=
 some ((AI .i64 ((wI .i64 ((wI .u64 ((wI .u64 ((wI .u64 ((AI .u64 ((wI .u64 ((AY .u64 ((wI .u64 ((AI .u64 ((AY .u64 ((wI .u64 ((AI .u64 ((AY .u64 p0 1)) 6148914691236517205) + (AI .u64 p0 6148914691236517205)))) 2)) 3689348814741910323) + (AI .u64 ((wI .u64 ((AI .u64 ((AY .u64 p0 1)) 6148914691236517205) + (AI .u64 p0 6148914691236517205)))) 3689348814741910323)))) 4) + (wI .u64 ((AI .u64 ((AY .u64 ((wI .u64 ((AI .u64 ((AY .u64 p0 1)) 6148914691236517205) + (AI .u64 p0 6148914691236517205)))) 2)) 3689348814741910323) + (AI .u64 ((wI .u64 ((AI .u64 ((AY .u64 p0 1)) 6148914691236517205) + (AI .u64 p0 6148914691236517205)))) 3689348814741910323)))))) 1085102592571150095) + (AY .u64 ((AI .u64 ((wI .u64 ((AY .u64 ((wI .u64 ((AI .u64 ((AY .u64 ((wI .u64 ((AI .u64 ((AY .u64 p0 1)) 6148914691236517205) + (AI .u64 p0 6148914691236517205)))) 2)) 3689348814741910323) + (AI .u64 ((wI .u64 ((AI .u64 ((AY .u64 p0 1)) 6148914691236517205) + (AI .u64 p0 6148914691236517205)))) 3689348814741910323)))) 4) + (wI .u64 ((AI .u64 ((AY .u64 ((wI .u64 ((AI .u64 ((AY .u64 p0 1)) 6148914691236517205) + (AI .u64 p0 6148914691236517205)))) 2)) 3689348814741910323) + (AI .u64 ((wI .u64 ((AI .u64 ((AY .u64 p0 1)) 6148914691236517205) + (AI .u64 p0 6148914691236517205)))) 3689348814741910323)))))) 1085102592571150095)) 8))) + (AY .u64 ((wI .u64 ((AI .u64 ((wI .u64 ((AY .u64 ((wI .u64 ((AI .u64 ((AY .u64 ((wI .u64 ((AI .u64 ((AY .u64 p0 1)) 6148914691236517205) + (AI .u64 p0 6148914691236517205)))) 2)) 3689348814741910323) + (AI .u64 ((wI .u64 ((AI .u64 ((AY .u64 p0 1)) 6148914691236517205) + (AI .u64 p0 6148914691236517205)))) 3689348814741910323)))) 4) + (wI .u64 ((AI .u64 ((AY .u64 ((wI .u64 ((AI .u64 ((AY .u64 p0 1)) 6148914691236517205) + (AI .u64 p0 6148914691236517205)))) 2)) 3689348814741910323) + (AI .u64 ((wI .u64 ((AI .u64 ((AY .u64 p0 1)) 6148914691236517205) + (AI .u64 p0 6148914691236517205)))) 3689348814741910323)))))) 1085102592571150095) + (AY .u64 ((AI .u64 ((wI .u64 ((AY .u64 ((wI .u64 ((AI .u64 ((AY .u64 ((wI .u64 ((AI .u64 ((AY .u64 p0 1)) 6148914691236517205) + (AI .u64 p0 6148914691236517205)))) 2)) 3689348814741910323) + (AI .u64 ((wI .u64 ((AI .u64 ((AY .u64 p0 1)) 6148914691236517205) + (AI .u64 p0 6148914691236517205)))) 3689348814741910323)))) 4) + (wI .u64 ((AI .u64 ((AY .u64 ((wI .u64 ((AI .u64 ((AY .u64 p0 1)) 6148914691236517205) + (AI .u64 p0 6148914691236517205)))) 2)) 3689348814741910323) + (AI .u64 ((wI .u64 ((AI .u64 ((AY .u64 p0 1)) 6148914691236517205) + (AI .u64 p0 6148914691236517205)))) 3689348814741910323)))))) 1085102592571150095)) 8)))) 16))) + (AY .u64 ((wI .u64 ((wI .u64 ((AI .u64 ((wI .u64 ((AY .u64 ((wI .u64 ((AI .u64 ((AY .u64 ((wI .u64 ((AI .u64 ((AY .u64 p0 1)) 6148914691236517205) + (AI .u64 p0 6148914691236517205)))) 2)) 3689348814741910323) + (AI .u64 ((wI .u64 ((AI .u64 ((AY .u64 p0 1)) 6148914691236517205) + (AI .u64 p0 6148914691236517205)))) 3689348814741910323)))) 4) + (wI .u64 ((AI .u64 ((AY .u64 ((wI .u64 ((AI .u64 ((AY .u64 p0 1)) 6148914691236517205) + (AI .u64 p0 6148914691236517205)))) 2)) 3689348814741910323) + (AI .u64 ((wI .u64 ((AI .u64 ((AY .u64 p0 1)) 6148914691236517205) + (AI .u64 p0 6148914691236517205)))) 3689348814741910323)))))) 1085102592571150095) + (AY .u64 ((AI .u64 ((wI .u64 ((AY .u64 ((wI .u64 ((AI .u64 ((AY .u64 ((wI .u64 ((AI .u64 ((AY .u64 p0 1)) 6148914691236517205) + (AI .u64 p0 6148914691236517205)))) 2)) 3689348814741910323) + (AI .u64 ((wI .u64 ((AI .u64 ((AY .u64 p0 1)) 6148914691236517205) + (AI .u64 p0 6148914691236517205)))) 3689348814741910323)))) 4) + (wI .u64 ((AI .u64 ((AY .u64 ((wI .u64 ((AI .u64 ((AY .u64 p0 1)) 6148914691236517205) + (AI .u64 p0 6148914691236517205)))) 2)) 3689348814741910323) + (AI .u64 ((wI .u64 ((AI .u64 ((AY .u64 p0 1)) 6148914691236517205) + (AI .u64 p0 6148914691236517205)))) 3689348814741910323)))))) 1085102592571150095)) 8))) + (AY .u64 ((wI .u64 ((AI .u64 ((wI .u64 ((AY .u64 ((wI .u64 ((AI .u64 ((AY .u64 ((wI .u64 ((AI .u64 ((AY .u64 p0 1)) 6148914691236517205) + (AI .u64 p0 6148914691236517205)))) 2)) 3689348814741910323) + (AI .u64 ((wI .u64 ((AI .u64 ((AY .u64 p0 1)) 6148914691236517205) + (AI .u64 p0 6148914691236517205)))) 3689348814741910323)))) 4) + (wI .u64 ((AI .u64 ((AY .u64 ((wI .u64 ((AI .u64 ((AY .u64 p0 1)) 6148914691236517205) + (AI .u64 p0 6148914691236517205)))) 2)) 3689348814741910323) + (AI .u64 ((wI .u64 ((AI .u64 ((AY .u64 p0 1)) 6148914691236517205) + (AI .u64 p0 6148914691236517205)))) 3689348814741910323)))))) 1085102592571150095) + (AY .u64 ((AI .u64 ((wI .u64 ((AY .u64 ((wI .u64 ((AI .u64 ((AY .u64 ((wI .u64 ((AI .u64 ((AY .u64 p0 1)) 6148914691236517205) + (AI .u64 p0 6148914691236517205)))) 2)) 3689348814741910323) + (AI .u64 ((wI .u64 ((AI .u64 ((AY .u64 p0 1)) 6148914691236517205) + (AI .u64 p0 6148914691236517205)))) 3689348814741910323)))) 4) + (wI .u64 ((AI .u64 ((AY .u64 ((wI .u64 ((AI .u64 ((AY .u64 p0 1)) 6148914691236517205) + (AI .u64 p0 6148914691236517205)))) 2)) 3689348814741910323) + (AI .u64 ((wI .u64 ((AI .u64 ((AY .u64 p0 1)) 6148914691236517205) + (AI .u64 p0 6148914691236517205)))) 3689348814741910323)))))) 1085102592571150095)) 8)))) 16)))) 32)))))) 127))
def Fh (N : Nat) (p0 : Int) : Option Int :=
 AR false
  ((FW N ((wI .u32 p0))).bind fun v2 =>
  some v2)
  ((FZ N p0).bind fun v3 =>
  some v3)
def GS (_ : Nat) (p0 : Int) : Option Int := dJ p0
def Gl (N : Nat) (j1 : ((List Int)) → Option ((List Int))) : Nat → ((List Int) × Int) → Option ((List Int))
 | 0, _ => none
 | n1 + 1, v1 =>
  AR ((v1.2 != 0))
   ((GS N v1.2).bind fun v4 =>
   (DH (v1.1.length + (([v4] : List Int)).length ≤ C2)).bind fun _ =>
   Gl N j1 n1 (v1.1 ++ (([v4] : List Int)), (AI .u64 v1.2 ((wI .u64 (v1.2 - 1))))))
   (j1 v1.1)
def BH (N : Nat) (p0 : Int) : Option ((List Int)) :=
 Gl N (fun (v2 : (List Int)) =>
  some v2) N (([] : List Int), p0)
def Hb (_ : Nat) (p0 : Int) : Option Bool :=
 some ((p0 != p0))
def HM (N : Nat) (p0 : Int) (p1 : Int) : Option Int :=
 (Hb N p0).bind fun v1 =>
 (Hb N p1).bind fun v2 =>
 AR v1
  (AR v2
   (some 0)
   (some ((-1))))
  (AR v2
   (some 1)
   (AR ((decide (p0 < p1)))
    (some ((-1)))
    (AR ((decide (p1 < p0)))
     (some 1)
     (some 0))))
def DR (N : Nat) (p0 : List Int) (p1 : List Int) (j1 : Unit → Option Int) : Nat → Int → Option Int
 | 0, _ => none
 | n1 + 1, v1 =>
  AR ((decide (v1 < (p0.length : Int))))
   ((Bs p0 v1).bind fun v4 =>
   AR ((decide ((p1.length : Int) ≤ v1)))
    (some 1)
    ((Bs p1 v1).bind fun v6 =>
    (HM N v4 v6).bind fun v7 =>
    AR ((v7 != 0))
     (some v7)
     (DR N p0 p1 j1 n1 (wI .i64 (v1 + 1)))))
   (j1 ())
def FC (N : Nat) (p0 : List Int) (p1 : List Int) : Option Int :=
 DR N p0 p1 (fun (_ : Unit) =>
  AR ((decide ((p0.length : Int) < (p1.length : Int))))
   (some ((-1)))
   (some 0)) N 0
def Du (N : Nat) (p0 : Int) (p1 : Int) : Option Int :=
 (Fh N p0).bind fun v1 =>
 (Fh N p1).bind fun v2 =>
 AR (((wI .i64 (v1 - v2)) != 0))
  (some ((wI .i64 (v1 - v2))))
  ((BH N p0).bind fun v4 =>
  (BH N p1).bind fun v5 =>
  (FC N v4 v5).bind fun v6 =>
  some v6)
def BM (N : Nat) (p0 : List Int) (p1 : Int) (j1 : Unit → Option Int) : Nat → Int → Option Int
 | 0, _ => none
 | n1 + 1, v1 =>
  AR ((decide (v1 < (p0.length : Int))))
   ((Bs p0 v1).bind fun v4 =>
   AR ((p1 == v4))
    (some v1)
    (BM N p0 p1 j1 n1 (wI .i64 (v1 + 1))))
   (j1 ())
def Df (N : Nat) (p0 : List Int) (p1 : Int) : Option Int :=
 BM N p0 p1 (fun (_ : Unit) =>
  some ((-1))) N 0
def CS (_ : Nat) (p0 : List (List Bool)) : Option ((List (List Bool))) :=
 (DH ((([] : List (List Bool))).length + p0.length ≤ C2)).bind fun _ =>
 some ((([] : List (List Bool))) ++ p0)
def CB (_ : Nat) (p0 : List Bool) : Option ((List Bool)) :=
 (DH ((([] : List Bool)).length + p0.length ≤ C2)).bind fun _ =>
 some ((([] : List Bool)) ++ p0)
def DT (N : Nat) (v1 : (List (List Bool))) (j3 : ((List (List Bool))) → Option Al) : Nat → ((List (List Bool)) × Int) → Option Al
 | 0, _ => none
 | n3 + 1, v3 =>
  AR ((decide (v3.2 < (v1.length : Int))))
   ((Bs v3.1 v3.2).bind fun v6 =>
   (CB N v6).bind fun v7 =>
   (Bs v3.1 v3.2).bind fun _ =>
   DT N v1 j3 n3 (v3.1.set ((v3.2).toNat) v7, (wI .i64 (v3.2 + 1))))
   (j3 v3.1)
def CX (N : Nat) (v2 : (List (List Bool))) (j9 : ((List (List Bool))) → Option Al) : Nat → ((List (List Bool)) × Int) → Option Al
 | 0, _ => none
 | n9 + 1, v9 =>
  AR ((decide (v9.2 < (v2.length : Int))))
   ((Bs v9.1 v9.2).bind fun v12 =>
   (CB N v12).bind fun v13 =>
   (Bs v9.1 v9.2).bind fun _ =>
   CX N v2 j9 n9 (v9.1.set ((v9.2).toNat) v13, (wI .i64 (v9.2 + 1))))
   (j9 v9.1)
def GC (N : Nat) (p0 : Al) : Option Al :=
 (CS N p0.fr).bind fun v1 =>
 (CS N p0.fk).bind fun v2 =>
 DT N v1 (fun (v4 : (List (List Bool))) =>
  CX N v2 (fun (v10 : (List (List Bool))) =>
   some ((Al.mk p0.fg p0.ff p0.fj p0.ft v4 v10))) N (v2, 0)) N (v1, 0)
def Cm (N : Nat) (p1 : List Int) (j3 : Unit → Option (Aa × Int)) : Nat → Int → Option (Aa × Int)
 | 0, _ => none
 | n3 + 1, v3 =>
  AR ((decide (v3 < (p1.length : Int))))
   (Bd (fun (v6 : Bool) =>
    AR v6
     (some ((Aa.mk (([] : List Int)) (([] : List Int)) (([] : List Int)) (([] : List Al))), 1))
     (Cm N p1 j3 n3 (wI .i64 (v3 + 1))))
   fun j6 =>
   AR ((decide (0 < v3)))
    ((Bs p1 v3).bind fun v8 =>
    (Bs p1 ((wI .i64 (v3 - 1)))).bind fun v9 =>
    j6 (decide (v8 ≤ v9)))
    (j6 false))
   (j3 ())
def DM (N : Nat) (p0 : Aa) (p1 : List Int) (j11 : ((List Int) × (List Int) × (List Int)) → Option (Aa × Int)) : Nat → ((List Int) × (List Int) × (List Int) × Int) → Option (Aa × Int)
 | 0, _ => none
 | n11 + 1, v11 =>
  AR ((decide (v11.2.2.2 < (p1.length : Int))))
   ((Bs p1 v11.2.2.2).bind fun v14 =>
   (Dt N v14 ((p0.fa.length : Int))).bind fun v15 =>
   AR ((!v15))
    (some ((Aa.mk (([] : List Int)) (([] : List Int)) (([] : List Int)) (([] : List Al))), 4))
    ((Bs p0.fa v14).bind fun v17 =>
    (DH (v11.1.length + (([v17] : List Int)).length ≤ C2)).bind fun _ =>
    (Bs p0.fh v14).bind fun v19 =>
    (DH (v11.2.1.length + (([v19] : List Int)).length ≤ C2)).bind fun _ =>
    (Bs p0.fq v14).bind fun v21 =>
    (DH (v11.2.2.1.length + (([v21] : List Int)).length ≤ C2)).bind fun _ =>
    DM N p0 p1 j11 n11 (v11.1 ++ (([v17] : List Int)), v11.2.1 ++ (([v19] : List Int)), v11.2.2.1 ++ (([v21] : List Int)), (wI .i64 (v11.2.2.2 + 1)))))
   (j11 (v11.1, v11.2.1, v11.2.2.1))
def CF (N : Nat) (p0 : Aa) (p1 : List Int) (j23 : ((List Al)) → Option (Aa × Int)) : Nat → ((List Al) × Int) → Option (Aa × Int)
 | 0, _ => none
 | n23 + 1, v23 =>
  AR ((decide (v23.2 < (p0.fc.length : Int))))
   (Bd (fun (v26 : (List Al)) =>
    CF N p0 p1 j23 n23 (v26, (wI .i64 (v23.2 + 1))))
   fun j26 =>
   (Bs p0.fc v23.2).bind fun v27 =>
   (Df N p1 v27.ff).bind fun v28 =>
   (Df N p1 v27.fj).bind fun v29 =>
   Bd (fun (v30 : Bool) =>
    AR v30
     ((GC N v27).bind fun v33 =>
     (DH (v23.1.length + (([(Al.mk v33.fg v28 v29 v33.ft v33.fr v33.fk)] : List Al)).length ≤ C2)).bind fun _ =>
     j26 (v23.1 ++ (([(Al.mk v33.fg v28 v29 v33.ft v33.fr v33.fk)] : List Al))))
     (j26 v23.1))
   fun j30 =>
   AR ((decide (0 ≤ v28)))
    (j30 (decide (0 ≤ v29)))
    (j30 false))
   (j23 v23.1)
def FI (N : Nat) (p0 : Aa) (p1 : List Int) : Option (Aa × Int) :=
 (Cb N p0).bind fun v1 =>
 AR ((v1 != 0))
  (some ((Aa.mk (([] : List Int)) (([] : List Int)) (([] : List Int)) (([] : List Al))), v1))
  (Cm N p1 (fun (_ : Unit) =>
   DM N p0 p1 (fun (v12 : (List Int) × (List Int) × (List Int)) =>
    CF N p0 p1 (fun (v24 : (List Al)) =>
     some ((Aa.mk v12.1 v12.2.1 v12.2.2 v24), 0)) N (([] : List Al), 0)) N (([] : List Int), ([] : List Int), ([] : List Int), 0)) N 0)
def BQ (_ : Nat) (p0 : List Int) : Option ((List Int)) :=
 (DH ((([] : List Int)).length + p0.length ≤ C2)).bind fun _ =>
 some ((([] : List Int)) ++ p0)
def HJ (_ : Nat) (p0 : Int) (p1 : Int) : Option (Int × Int) :=
 some ((wI .u32 ((AY .u64 ((wI .u64 ((wI .u64 p0) * (wI .u64 p1)))) 32))), (wI .u32 ((wI .u64 ((wI .u64 p0) * (wI .u64 p1))))))
def HG (_ : Nat) (p0 : Int) (p1 : Int) : Option (Int × Int) :=
 some ((wI .u64 ((wI .u64 ((wI .u64 ((AY .u64 p0 32) * (AY .u64 p1 32))) + (AY .u64 ((wI .u64 ((wI .u64 ((AY .u64 p0 32) * (AI .u64 p1 4294967295))) + (AY .u64 ((wI .u64 ((AI .u64 p0 4294967295) * (AI .u64 p1 4294967295)))) 32)))) 32))) + (AY .u64 ((wI .u64 ((AI .u64 ((wI .u64 ((wI .u64 ((AY .u64 p0 32) * (AI .u64 p1 4294967295))) + (AY .u64 ((wI .u64 ((AI .u64 p0 4294967295) * (AI .u64 p1 4294967295)))) 32)))) 4294967295) + (wI .u64 ((AI .u64 p0 4294967295) * (AY .u64 p1 32)))))) 32))), (wI .u64 (p0 * p1)))
def Iu (N : Nat) (p0 : Int) (p1 : Int) : Option (Int × Int) :=
 AR false
  ((HJ N ((wI .u32 p0)) ((wI .u32 p1))).bind fun v2 =>
  some ((wI .u64 v2.1), (wI .u64 v2.2)))
  ((HG N p0 p1).bind fun v3 =>
  some (v3.1, v3.2))
def D8 (N : Nat) (j9 : ((List Int)) → Option ((List Int))) : Nat → ((List Int) × Int) → Option ((List Int))
 | 0, _ => none
 | n9 + 1, v9 =>
  AR ((decide (v9.2 < (v9.1.length : Int))))
   ((DH ((0 : Int) ≤ v9.2 ∧ (v9.2).toNat ≤ v9.1.length ∧ v9.1.length ≤ v9.1.length)).bind fun _ =>
   (DH ((0 : Int) ≤ v9.2 ∧ 0 ≤ (v9.2).toNat ∧ (v9.2).toNat ≤ v9.1.length)).bind fun _ =>
   D8 N j9 n9 (Ji v9.1 ((v9.2).toNat) ((((v9.1.drop 0).take ((v9.2).toNat))).take (zF1 (((v9.1.drop 0).take ((v9.2).toNat))).length ((v9.1.length - (v9.2).toNat)))), (wI .i64 (v9.2 + (((zF1 (((v9.1.drop 0).take ((v9.2).toNat))).length ((v9.1.length - (v9.2).toNat))) : Nat) : Int)))))
   (j9 v9.1)
def EF (N : Nat) (p0 : List Int) (p1 : Int) : Option ((List Int)) :=
 Bd (fun (_ : Unit) =>
  (Iu N ((wI .u64 ((p0.length : Int)))) ((wI .u64 p1))).bind fun v3 =>
  Bd (fun (_ : Unit) =>
   (DH ((0 : Int) ≤ (wI .i64 v3.2) ∧ (wI .i64 v3.2) ≤ (wI .i64 v3.2) ∧ (wI .i64 v3.2) ≤ (C2 : Int))).bind fun _ =>
   D8 N (fun (v10 : (List Int)) =>
    some v10) N (Ji (zA6 ((wI .i64 v3.2)).toNat ((0 : Int))) 0 (p0.take (zF1 p0.length ((zA6 ((wI .i64 v3.2)).toNat ((0 : Int))).length))), (((zF1 p0.length ((zA6 ((wI .i64 v3.2)).toNat ((0 : Int))).length)) : Nat) : Int)))
  fun j4 =>
  Bd (fun (v5 : Bool) =>
   AR v5
    (none)
    (j4 ()))
  fun j5 =>
  AR ((decide (0 < v3.1)))
   (j5 true)
   (j5 (decide (9223372036854775807 < v3.2))))
 fun j1 =>
 AR ((decide (p1 < 0)))
  (none)
  (j1 ())
def FU (_ : Nat) (p0 : Al) : Option Bool :=
 Bd (fun (v1 : Bool) =>
  some v1)
 fun j1 =>
 AR ((p0.fg == 3))
  (j1 true)
  (j1 (p0.fg == 4))
def El (N : Nat) (p0 : Aa) (j6 : ((List Int)) → Option (Ac × Int)) : Nat → ((List Int) × Int) → Option (Ac × Int)
 | 0, _ => none
 | n6 + 1, v6 =>
  AR ((decide (v6.2 < (p0.fc.length : Int))))
   (Bd (fun (v9 : (List Int)) =>
    El N p0 j6 n6 (v9, (wI .i64 (v6.2 + 1))))
   fun j9 =>
   (Bs p0.fc v6.2).bind fun v10 =>
   (FU N v10).bind fun v11 =>
   AR v11
    ((Bs p0.fh v10.ff).bind fun v13 =>
    (DH (0 ≤ v13)).bind fun _ =>
    (Bs v6.1 v6.2).bind fun _ =>
    j9 (v6.1.set ((v6.2).toNat) ((DQ .u8 1 v13))))
    (j9 v6.1))
   (j6 v6.1)
def Ia (N : Nat) (p0 : Aa) : Option (Ac × Int) :=
 (Cb N p0).bind fun v1 =>
 AR ((v1 != 0))
  (some ((Ac.mk (([] : List Int)) (([] : List Int)) (([] : List Int))), v1))
  ((BQ N p0.fh).bind fun v3 =>
  (EF N (([(-1)] : List Int)) ((p0.fh.length : Int))).bind fun v4 =>
  (DH ((0 : Int) ≤ (p0.fc.length : Int) ∧ (p0.fc.length : Int) ≤ (p0.fc.length : Int) ∧ (p0.fc.length : Int) ≤ (C2 : Int))).bind fun _ =>
  El N p0 (fun (v7 : (List Int)) =>
   some ((Ac.mk v3 v4 v7), 0)) N (zA6 ((p0.fc.length : Int)).toNat ((0 : Int)), 0))
def Fu (_ : Nat) (p0 : Ac) (p1 : Int) : Option Int :=
 (Bs p0.fd p1).bind fun v1 =>
 (DH (0 ≤ v1)).bind fun _ =>
 Bd (fun (v3 : Int) =>
  some v3)
 fun j3 =>
 (Bs p0.fb p1).bind fun v4 =>
 AR ((decide (0 ≤ v4)))
  ((Bs p0.fb p1).bind fun v6 =>
  (DH (0 ≤ v6)).bind fun _ =>
  j3 (PP .u8 ((DQ .u8 1 v1)) ((DQ .u8 1 v6))))
  (j3 (DQ .u8 1 v1))
def En (N : Nat) (p0 : Aa) (p1 : Ac) (j7 : Unit → Option Int) : Nat → Int → Option Int
 | 0, _ => none
 | n7 + 1, v7 =>
  AR ((decide (v7 < (p0.fa.length : Int))))
   ((Bs p0.fa v7).bind fun v10 =>
   Bd (fun (v11 : Bool) =>
    AR v11
     (some 7)
     ((Bs p1.fd v7).bind fun v20 =>
     (Bs p1.fb v7).bind fun v21 =>
     AR ((v20 == v21))
      (some 1)
      (En N p0 p1 j7 n7 (wI .i64 (v7 + 1)))))
   fun j11 =>
   (Bs p1.fd v7).bind fun v12 =>
   AR ((decide (v12 < 0)))
    (j11 true)
    ((Bs p1.fd v7).bind fun v14 =>
    AR ((decide (v10 ≤ v14)))
     (j11 true)
     ((Bs p1.fb v7).bind fun v16 =>
     AR ((decide (v16 < (-1))))
      (j11 true)
      ((Bs p1.fb v7).bind fun v18 =>
      j11 (decide (v10 ≤ v18))))))
   (j7 ())
def D3 (N : Nat) (p0 : Aa) (p1 : Ac) (j23 : Unit → Option Int) : Nat → Int → Option Int
 | 0, _ => none
 | n23 + 1, v23 =>
  AR ((decide (v23 < (p0.fc.length : Int))))
   ((Bs p0.fc v23).bind fun v26 =>
   Bd (fun (v27 : Int × Int) =>
    Bd (fun (v33 : Bool) =>
     AR v33
      (some 1)
      (D3 N p0 p1 j23 n23 (wI .i64 (v23 + 1))))
    fun j33 =>
    (Bs p1.fe v23).bind fun v34 =>
    AR (((CZ .u8 v27.1 v34) != 0))
     (j33 true)
     ((Bs p1.fe v23).bind fun v36 =>
     j33 ((CZ .u8 v36 v27.2) != 0)))
   fun j27 =>
   (FU N v26).bind fun v28 =>
   AR v28
    ((Fu N p1 v26.ff).bind fun v30 =>
    (Bs p0.fa v26.ff).bind fun v31 =>
    (DH (0 ≤ v31)).bind fun _ =>
    j27 (v30, (wI .u8 ((DQ .u8 1 v31) - 1))))
    (j27 (0, 0)))
   (j23 ())
def FQ (N : Nat) (p0 : Aa) (p1 : Ac) : Option Int :=
 (Cb N p0).bind fun v1 =>
 AR ((v1 != 0))
  (some v1)
  (Bd (fun (v3 : Bool) =>
   AR v3
    (some 6)
    (En N p0 p1 (fun (_ : Unit) =>
     D3 N p0 p1 (fun (_ : Unit) =>
      some 0) N 0) N 0))
  fun j3 =>
  AR (((p1.fd.length : Int) != (p0.fa.length : Int)))
   (j3 true)
   (AR (((p1.fb.length : Int) != (p0.fa.length : Int)))
    (j3 true)
    (j3 ((p1.fe.length : Int) != (p0.fc.length : Int)))))
def BY (_ : Nat) (p0 : List Int) : Option ((List Int)) :=
 (DH ((([] : List Int)).length + p0.length ≤ C2)).bind fun _ =>
 some ((([] : List Int)) ++ p0)
def D1 (N : Nat) (p1 : Ac) (j3 : ((List Int)) → Option ((List Ac) × Int)) : Nat → ((List Int) × Int) → Option ((List Ac) × Int)
 | 0, _ => none
 | n3 + 1, v3 =>
  AR ((decide (v3.2 < (p1.fb.length : Int))))
   (Bd (fun (v6 : (List Int)) =>
    D1 N p1 j3 n3 (v6, (wI .i64 (v3.2 + 1))))
   fun j6 =>
   (Bs p1.fb v3.2).bind fun v7 =>
   AR ((decide (0 ≤ v7)))
    ((DH (v3.1.length + (([v3.2] : List Int)).length ≤ C2)).bind fun _ =>
    j6 (v3.1 ++ (([v3.2] : List Int))))
    (j6 v3.1))
   (j3 v3.1)
def Da (N : Nat) (v4 : (List Int)) (v11 : (List Ac) × Int) (j17 : ((List Int)) → Option ((List Ac) × Int)) : Nat → ((List Int) × Int) → Option ((List Ac) × Int)
 | 0, _ => none
 | n17 + 1, v17 =>
  AR ((decide (v17.2 < (v4.length : Int))))
   (Bd (fun (v20 : (List Int)) =>
    Da N v4 v11 j17 n17 (v20, (wI .i64 (v17.2 + 1))))
   fun j20 =>
   (Bs v4 v17.2).bind fun v21 =>
   (DH (0 ≤ v17.2)).bind fun _ =>
   AR (((AI .i64 ((AY .i64 v11.2 v17.2)) 1) == 1))
    ((Bs v17.1 v21).bind fun _ =>
    j20 (v17.1.set ((v21).toNat) ((-1))))
    (j20 v17.1))
   (j17 v17.1)
def C9 (N : Nat) (p1 : Ac) (v4 : (List Int)) (j11 : ((List Ac)) → Option ((List Ac) × Int)) : Nat → ((List Ac) × Int) → Option ((List Ac) × Int)
 | 0, _ => none
 | n11 + 1, v11 =>
  AR ((decide (v11.2 < (DQ .i64 1 ((v4.length : Int))))))
   ((BQ N p1.fd).bind fun v14 =>
   (BQ N p1.fb).bind fun v15 =>
   (BY N p1.fe).bind fun v16 =>
   Da N v4 v11 (fun (v18 : (List Int)) =>
    (DH (v11.1.length + (([(Ac.mk v14 v18 v16)] : List Ac)).length ≤ C2)).bind fun _ =>
    C9 N p1 v4 j11 n11 (v11.1 ++ (([(Ac.mk v14 v18 v16)] : List Ac)), (wI .i64 (v11.2 + 1)))) N (v15, 0))
   (j11 v11.1)
def Hp (N : Nat) (p0 : Aa) (p1 : Ac) : Option ((List Ac) × Int) :=
 (FQ N p0 p1).bind fun v1 =>
 AR ((v1 != 0))
  (some (([] : List Ac), v1))
  (D1 N p1 (fun (v4 : (List Int)) =>
   (DH (0 ≤ (v4.length : Int))).bind fun _ =>
   C9 N p1 v4 (fun (v12 : (List Ac)) =>
    some (v12, 0)) N (([] : List Ac), 0)) N (([] : List Int), 0))
def B5 (N : Nat) (v1 : (List An) × Int) (v4 : Al) (v6 : Int) (v11 : (List An) × Int) (v17 : List Bool) (j18 : ((List An) × Bool) → Option ((List An))) : Nat → ((List An) × Bool × Int) → Option ((List An))
 | 0, _ => none
 | n18 + 1, v18 =>
  AR ((decide (v18.2.2 < (v17.length : Int))))
   (Bd (fun (v21 : (List An) × Bool) =>
    B5 N v1 v4 v6 v11 v17 j18 n18 (v21.1, v21.2, (wI .i64 (v18.2.2 + 1))))
   fun j21 =>
   (Bs v17 v18.2.2).bind fun v22 =>
   (DH (0 ≤ v18.2.2)).bind fun _ =>
   AR (((AI .u8 ((AY .u8 v6 v18.2.2)) 1) == 0))
    (j21 (v18.1, v18.2.1))
    (Bd (fun (v25 : Bool) =>
     Bd (fun (v27 : Bool) =>
      AR v27
       ((DH (v18.1.length + (([(An.mk v1.2 v11.2 v18.2.2)] : List An)).length ≤ C2)).bind fun _ =>
       j21 (v18.1 ++ (([(An.mk v1.2 v11.2 v18.2.2)] : List An)), v25))
       (j21 (v18.1, v25)))
     fun j27 =>
     AR ((!v22))
      (j27 (!v4.ft))
      (j27 false))
    fun j25 =>
    AR v18.2.1
     (j25 true)
     (j25 v22)))
   (j18 (v18.1, v18.2.1))
def Cp (N : Nat) (v1 : (List An) × Int) (v4 : Al) (v6 : Int) (v7 : Int) (j11 : ((List An)) → Option ((List An))) : Nat → ((List An) × Int) → Option ((List An))
 | 0, _ => none
 | n11 + 1, v11 =>
  AR ((decide (v11.2 < (v4.fr.length : Int))))
   (Bd (fun (v14 : (List An)) =>
    Cp N v1 v4 v6 v7 j11 n11 (v14, (wI .i64 (v11.2 + 1))))
   fun j14 =>
   (DH (0 ≤ v11.2)).bind fun _ =>
   AR (((AI .u8 ((AY .u8 v7 v11.2)) 1) == 0))
    (j14 v11.1)
    ((Bs v4.fr v11.2).bind fun v17 =>
    B5 N v1 v4 v6 v11 v17 (fun (v19 : (List An) × Bool) =>
     Bd (fun (v31 : Bool) =>
      AR v31
       ((DH (v19.1.length + (([(An.mk v1.2 v11.2 ((-1)))] : List An)).length ≤ C2)).bind fun _ =>
       j14 (v19.1 ++ (([(An.mk v1.2 v11.2 ((-1)))] : List An))))
       (j14 v19.1))
     fun j31 =>
     AR v4.ft
      (j31 (!v19.2))
      (j31 false)) N (v11.1, false, 0)))
   (j11 v11.1)
def DC (N : Nat) (p0 : Aa) (p1 : Ac) (j1 : ((List An)) → Option ((List An))) : Nat → ((List An) × Int) → Option ((List An))
 | 0, _ => none
 | n1 + 1, v1 =>
  AR ((decide (v1.2 < (p0.fc.length : Int))))
   ((Bs p0.fc v1.2).bind fun v4 =>
   (Fu N p1 v4.ff).bind fun v5 =>
   (Fu N p1 v4.fj).bind fun v6 =>
   Bd (fun (v7 : Int) =>
    Cp N v1 v4 v6 v7 (fun (v12 : (List An)) =>
     DC N p0 p1 j1 n1 (v12, (wI .i64 (v1.2 + 1)))) N (v1.1, 0))
   fun j7 =>
   (FU N v4).bind fun v8 =>
   AR v8
    ((Bs p1.fe v1.2).bind fun v10 =>
    j7 v10)
    (j7 v5))
   (j1 v1.1)
def Gb (N : Nat) (p0 : Aa) (p1 : Ac) : Option ((List An)) :=
 DC N p0 p1 (fun (v2 : (List An)) =>
  some v2) N (([] : List An), 0)
def E8 (N : Nat) (p0 : Aa) (v1 : (List Ac) × Int) (j3 : Unit → Option (Ac × An × Int)) : Nat → Int → Option (Ac × An × Int)
 | 0, _ => none
 | n3 + 1, v3 =>
  AR ((decide (v3 < (v1.1.length : Int))))
   ((Bs v1.1 v3).bind fun v6 =>
   (Gb N p0 v6).bind fun v7 =>
   AR ((decide (0 < (v7.length : Int))))
    ((Bs v7 0).bind fun v9 =>
    some (v6, v9, 0))
    (E8 N p0 v1 j3 n3 (wI .i64 (v3 + 1))))
   (j3 ())
def H8 (N : Nat) (p0 : Aa) (p1 : Ac) : Option (Ac × An × Int) :=
 (Hp N p0 p1).bind fun v1 =>
 AR ((v1.2 != 0))
  (some ((Ac.mk (([] : List Int)) (([] : List Int)) (([] : List Int))), (An.mk 0 0 0), v1.2))
  (E8 N p0 v1 (fun (_ : Unit) =>
   some ((Ac.mk (([] : List Int)) (([] : List Int)) (([] : List Int))), (An.mk 0 0 0), 15)) N 0)
def GI (N : Nat) (p0 : Aa) (p1 : Ac) : Option (Bool × Int) :=
 (H8 N p0 p1).bind fun v1 =>
 AR ((v1.2.2 == 0))
  (some (false, 0))
  (AR ((v1.2.2 == 15))
   (some (true, 0))
   (some (false, v1.2.2)))
def E1 (N : Nat) (p0 : Ac) (j2 : ((List Int)) → Option ByteArray) : Nat → ((List Int) × Int) → Option ByteArray
 | 0, _ => none
 | n2 + 1, v2 =>
  AR ((decide (v2.2 < (p0.fd.length : Int))))
   ((Bs p0.fd v2.2).bind fun v5 =>
   (Bs p0.fb v2.2).bind fun v6 =>
   (DH (v2.1.length + (([(wI .u8 v5), (wI .u8 ((wI .i64 (v6 + 1))))] : List Int)).length ≤ C2)).bind fun _ =>
   E1 N p0 j2 n2 (v2.1 ++ (([(wI .u8 v5), (wI .u8 ((wI .i64 (v6 + 1))))] : List Int)), (wI .i64 (v2.2 + 1))))
   (j2 v2.1)
def DO (N : Nat) (p0 : Ac) (j8 : ((List Int)) → Option ByteArray) : Nat → ((List Int) × Int) → Option ByteArray
 | 0, _ => none
 | n8 + 1, v8 =>
  AR ((decide (v8.2 < (p0.fe.length : Int))))
   ((Bs p0.fe v8.2).bind fun v11 =>
   (DH (v8.1.length + (([v11] : List Int)).length ≤ C2)).bind fun _ =>
   DO N p0 j8 n8 (v8.1 ++ (([v11] : List Int)), (wI .i64 (v8.2 + 1))))
   (j8 v8.1)
def HV (N : Nat) (p0 : Ac) : Option ByteArray :=
 (DH ((0 : Int) ≤ 0 ∧ 0 ≤ (wI .i64 ((wI .i64 (2 * (p0.fd.length : Int))) + (p0.fe.length : Int))) ∧ (wI .i64 ((wI .i64 (2 * (p0.fd.length : Int))) + (p0.fe.length : Int))) ≤ (C2 : Int))).bind fun _ =>
 E1 N p0 (fun (v3 : (List Int)) =>
  DO N p0 (fun (v9 : (List Int)) =>
   some ((CG v9))) N (v3, 0)) N (zA6 (0 : Int).toNat ((0 : Int)), 0)
def EP (N : Nat) (v1 : (List Ad) × Int) (v4 : Int) (j5 : ((List Ad)) → Option ((List Ad))) : Nat → ((List Ad) × Int) → Option ((List Ad))
 | 0, _ => none
 | n5 + 1, v5 =>
  AR ((decide (v5.2 < v4)))
   ((DH (v5.1.length + (([(Ad.mk 1 v1.2 v5.2)] : List Ad)).length ≤ C2)).bind fun _ =>
   EP N v1 v4 j5 n5 (v5.1 ++ (([(Ad.mk 1 v1.2 v5.2)] : List Ad)), (wI .i64 (v5.2 + 1))))
   (j5 v5.1)
def Do (N : Nat) (p0 : Aa) (j1 : ((List Ad)) → Option ((List Ad))) : Nat → ((List Ad) × Int) → Option ((List Ad))
 | 0, _ => none
 | n1 + 1, v1 =>
  AR ((decide (v1.2 < (p0.fa.length : Int))))
   ((Bs p0.fa v1.2).bind fun v4 =>
   EP N v1 v4 (fun (v6 : (List Ad)) =>
    Do N p0 j1 n1 (v6, (wI .i64 (v1.2 + 1)))) N (v1.1, 0))
   (j1 v1.1)
def Ct (N : Nat) (p0 : Aa) (j9 : ((List Ad)) → Option ((List Ad))) : Nat → ((List Ad) × Int) → Option ((List Ad))
 | 0, _ => none
 | n9 + 1, v9 =>
  AR ((decide (v9.2 < (p0.fa.length : Int))))
   ((DH (v9.1.length + (([(Ad.mk 2 v9.2 0)] : List Ad)).length ≤ C2)).bind fun _ =>
   Ct N p0 j9 n9 (v9.1 ++ (([(Ad.mk 2 v9.2 0)] : List Ad)), (wI .i64 (v9.2 + 1))))
   (j9 v9.1)
def Bt (N : Nat) (p0 : Aa) (j13 : ((List Ad)) → Option ((List Ad))) : Nat → ((List Ad) × Int) → Option ((List Ad))
 | 0, _ => none
 | n13 + 1, v13 =>
  AR ((decide (v13.2 < (p0.fc.length : Int))))
   ((DH (v13.1.length + (([(Ad.mk 3 v13.2 0)] : List Ad)).length ≤ C2)).bind fun _ =>
   Bt N p0 j13 n13 (v13.1 ++ (([(Ad.mk 3 v13.2 0)] : List Ad)), (wI .i64 (v13.2 + 1))))
   (j13 v13.1)
def IG (N : Nat) (p0 : Aa) : Option ((List Ad)) :=
 Do N p0 (fun (v2 : (List Ad)) =>
  Ct N p0 (fun (v10 : (List Ad)) =>
   Bt N p0 (fun (v14 : (List Ad)) =>
    some v14) N (v10, 0)) N (v2, 0)) N (([] : List Ad), 0)
def G5 (N : Nat) (p0 : Ac) : Option Ac :=
 (BQ N p0.fd).bind fun v1 =>
 (BQ N p0.fb).bind fun v2 =>
 (BY N p0.fe).bind fun v3 =>
 some ((Ac.mk v1 v2 v3))
def F9 (_ : Nat) (p0 : Al) : Option Bool :=
 Bd (fun (v1 : Bool) =>
  some v1)
 fun j1 =>
 AR ((p0.fg == 3))
  (j1 true)
  (j1 (p0.fg == 4))
def DY (N : Nat) (p0 : Aa) (p2 : Ad) (j7 : ((List Int)) → Option (Bool × (List Int) × (List Int))) : Nat → ((List Int) × Int) → Option (Bool × (List Int) × (List Int))
 | 0, _ => none
 | n7 + 1, v7 =>
  AR ((decide (v7.2 < (p0.fc.length : Int))))
   (Bd (fun (v10 : (List Int)) =>
    DY N p0 p2 j7 n7 (v10, (wI .i64 (v7.2 + 1))))
   fun j10 =>
   (Bs p0.fc v7.2).bind fun v11 =>
   Bd (fun (v12 : Bool) =>
    AR v12
     ((Bs v7.1 v7.2).bind fun v16 =>
     (DH (0 ≤ p2.fo)).bind fun _ =>
     (Bs v7.1 v7.2).bind fun _ =>
     j10 (v7.1.set ((v7.2).toNat) ((PP .u8 v16 ((DQ .u8 1 p2.fo))))))
     (j10 v7.1))
   fun j12 =>
   AR ((v11.ff == p2.fi))
    ((F9 N v11).bind fun v14 =>
    j12 v14)
    (j12 false))
   (j7 v7.1)
def Iz (N : Nat) (p0 : Aa) (p1 : Ac) (p2 : Ad) : Option (Bool × (List Int) × (List Int)) :=
 Bd (fun (v1 : Bool) =>
  AR v1
   (some (false, p1.fb, p1.fe))
   ((Bs p1.fb p2.fi).bind fun _ =>
   DY N p0 p2 (fun (v8 : (List Int)) =>
    some (true, p1.fb.set ((p2.fi).toNat) p2.fo, v8)) N (p1.fe, 0)))
 fun j1 =>
 (Bs p1.fb p2.fi).bind fun v2 =>
 AR ((decide (0 ≤ v2)))
  (j1 true)
  ((Bs p1.fd p2.fi).bind fun v4 =>
  j1 (v4 == p2.fo))
def Gz (_ : Nat) (p0 : Ac) (p1 : Int) : Option Int :=
 (Bs p0.fd p1).bind fun v1 =>
 (DH (0 ≤ v1)).bind fun _ =>
 Bd (fun (v3 : Int) =>
  some v3)
 fun j3 =>
 (Bs p0.fb p1).bind fun v4 =>
 AR ((decide (0 ≤ v4)))
  ((Bs p0.fb p1).bind fun v6 =>
  (DH (0 ≤ v6)).bind fun _ =>
  j3 (PP .u8 ((DQ .u8 1 v1)) ((DQ .u8 1 v6))))
  (j3 (DQ .u8 1 v1))
def C4 (_ : Nat) (p0 : Int) : Option Int :=
 (SU ((⟨⟨(zE3 (zE3 [8, 0, 1, 0, 2, 0, 1, 0, 3, 0, 1, 0, 2, 0, 1, 0, 4, 0, 1, 0, 2, 0, 1, 0, 3, 0, 1, 0, 2, 0, 1, 0, 5, 0, 1, 0, 2, 0, 1, 0, 3, 0, 1, 0, 2, 0, 1, 0, 4, 0, 1, 0, 2, 0, 1, 0, 3, 0, 1, 0, 2, 0, 1, 0] [6, 0, 1, 0, 2, 0, 1, 0, 3, 0, 1, 0, 2, 0, 1, 0, 4, 0, 1, 0, 2, 0, 1, 0, 3, 0, 1, 0, 2, 0, 1, 0, 5, 0, 1, 0, 2, 0, 1, 0, 3, 0, 1, 0, 2, 0, 1, 0, 4, 0, 1, 0, 2, 0, 1, 0, 3, 0, 1, 0, 2, 0, 1, 0]) (zE3 [7, 0, 1, 0, 2, 0, 1, 0, 3, 0, 1, 0, 2, 0, 1, 0, 4, 0, 1, 0, 2, 0, 1, 0, 3, 0, 1, 0, 2, 0, 1, 0, 5, 0, 1, 0, 2, 0, 1, 0, 3, 0, 1, 0, 2, 0, 1, 0, 4, 0, 1, 0, 2, 0, 1, 0, 3, 0, 1, 0, 2, 0, 1, 0] [6, 0, 1, 0, 2, 0, 1, 0, 3, 0, 1, 0, 2, 0, 1, 0, 4, 0, 1, 0, 2, 0, 1, 0, 3, 0, 1, 0, 2, 0, 1, 0, 5, 0, 1, 0, 2, 0, 1, 0, 3, 0, 1, 0, 2, 0, 1, 0, 4, 0, 1, 0, 2, 0, 1, 0, 3, 0, 1, 0, 2, 0, 1, 0]))⟩⟩ : ByteArray)) p0).bind fun v1 =>
 some ((wI .i64 v1))
def DI (N : Nat) (p0 : Al) (p2 : Int) (j1 : Unit → Option Bool) : Nat → Int → Option Bool
 | 0, _ => none
 | n1 + 1, v1 =>
  AR ((v1 != 0))
   ((C4 N v1).bind fun v4 =>
   (Bs p0.fk v4).bind fun v5 =>
   (Bs v5 p2).bind fun v6 =>
   AR ((!v6))
    (some false)
    (DI N p0 p2 j1 n1 (AI .u8 v1 ((wI .u8 (v1 - 1))))))
   (j1 ())
def Gt (N : Nat) (p0 : Al) (p1 : Int) (p2 : Int) : Option Bool :=
 DI N p0 p2 (fun (_ : Unit) =>
  some true) N p1
def HA (N : Nat) (p0 : Aa) (p1 : Ac) (p2 : Int) : Option (Bool × (List Int)) :=
 (Bs p0.fc p2).bind fun v1 =>
 (F9 N v1).bind fun v2 =>
 AR ((!v2))
  (some (false, p1.fe))
  ((Gz N p1 v1.ff).bind fun v4 =>
  (Bs p1.fe p2).bind fun v5 =>
  Bd (fun (v6 : Bool) =>
   AR v6
    (some (false, p1.fe))
    ((Bs p1.fe p2).bind fun _ =>
    some (true, p1.fe.set ((p2).toNat) v4)))
  fun j6 =>
  (Bs p1.fe p2).bind fun v7 =>
  AR ((v7 == v4))
   (j6 true)
   (AR ((v1.fg == 4))
    ((Bs p1.fd v1.ff).bind fun v10 =>
    (Gt N v1 ((CZ .u8 v5 v4)) v10).bind fun v11 =>
    j6 (!v11))
    (j6 false)))
def F0 (N : Nat) (p0 : Aa) (p1 : Ac) (p2 : Ad) : Option (Ac × Bool) :=
 (G5 N p1).bind fun v1 =>
 AR ((p2.fg == 1))
  ((Iz N p0 v1 p2).bind fun v3 =>
  some ((Ac.mk v1.fd v3.2.1 v3.2.2), v3.1))
  (AR ((p2.fg == 3))
   ((HA N p0 v1 p2.fi).bind fun v5 =>
   some ((Ac.mk v1.fd v1.fb v5.2), v5.1))
   ((Bs v1.fb p2.fi).bind fun v6 =>
   AR ((decide (v6 < 0)))
    (some (v1, false))
    ((Bs v1.fb p2.fi).bind fun _ =>
    Bd (fun (v9 : (List Int)) =>
     some ((Ac.mk v9 (v1.fb.set ((p2.fi).toNat) ((-1))) v1.fe), true))
    fun j9 =>
    AR ((p2.fg == 2))
     ((Bs v1.fd p2.fi).bind fun _ =>
     j9 (v1.fd.set ((p2.fi).toNat) v6))
     (j9 v1.fd))))
def DE (N : Nat) (p0 : Ad) (p1 : List Int) (p2 : List Int) (p3 : List Int) (p4 : List Al) (p5 : List Int) (p6 : List Int) (p7 : List Int) : Option Bool :=
 (F0 N ((Aa.mk p1 p2 p3 p4)) ((Ac.mk p5 p6 p7)) p0).bind fun v1 =>
 some ((!v1.2))
def A2 (N : Nat) (p0 : List Ad) (p1 : Ad → Option Bool) (j1 : Unit → Option Int) : Nat → Int → Option Int
 | 0, _ => none
 | n1 + 1, v1 =>
  AR ((decide (v1 < (p0.length : Int))))
   ((Bs p0 v1).bind fun v4 =>
   (p1 v4).bind fun v5 =>
   AR v5
    (some v1)
    (A2 N p0 p1 j1 n1 (wI .i64 (v1 + 1))))
   (j1 ())
def BS (N : Nat) (p0 : List Ad) (p1 : Ad → Option Bool) : Option Int :=
 A2 N p0 p1 (fun (_ : Unit) =>
  some ((-1))) N 0
def AW (N : Nat) (p1 : Ad → Option Bool) (j3 : ((List Ad) × Int) → Option (Nat × (List Ad))) : Nat → ((List Ad) × Int × Int) → Option (Nat × (List Ad))
 | 0, _ => none
 | n3 + 1, v3 =>
  AR ((decide (v3.2.2 < (v3.1.length : Int))))
   (Bd (fun (v6 : (List Ad) × Int) =>
    AW N p1 j3 n3 (v6.1, v6.2, (wI .i64 (v3.2.2 + 1))))
   fun j6 =>
   (Bs v3.1 v3.2.2).bind fun v7 =>
   (p1 v7).bind fun v8 =>
   AR ((!v8))
    ((Bs v3.1 v3.2.1).bind fun _ =>
    j6 (v3.1.set ((v3.2.1).toNat) v7, (wI .i64 (v3.2.1 + 1))))
    (j6 (v3.1, v3.2.1)))
   (j3 (v3.1, v3.2.1))
def BN (N : Nat) (p0 : List Ad) (p1 : Ad → Option Bool) : Option (Nat × (List Ad)) :=
 (BS N p0 p1).bind fun v1 =>
 AR ((v1 == (-1)))
  (some (p0.length, p0))
  (AW N p1 (fun (v4 : (List Ad) × Int) =>
   (DH ((0 : Int) ≤ v4.2 ∧ (v4.2).toNat ≤ v4.1.length ∧ v4.1.length ≤ v4.1.length)).bind fun _ =>
   (DH ((0 : Int) ≤ v4.2 ∧ 0 ≤ (v4.2).toNat ∧ (v4.2).toNat ≤ (Ji v4.1 ((v4.2).toNat) (zA6 ((v4.1.length - (v4.2).toNat)) ((Ad.mk 0 0 0)))).length)).bind fun _ =>
   some ((v4.2).toNat, Ji v4.1 ((v4.2).toNat) (zA6 ((v4.1.length - (v4.2).toNat)) ((Ad.mk 0 0 0))))) N (p0, v1, (wI .i64 (v1 + 1))))
def Gv (N : Nat) (p0 : Aa) (p1 : Ac) : Option ((List Ad) × Int) :=
 (FQ N p0 p1).bind fun v1 =>
 AR ((v1 != 0))
  (some (([] : List Ad), v1))
  ((IG N p0).bind fun v3 =>
  (BN N v3 ((fun (x : Ad) => DE N x p0.fa p0.fh p0.fq p0.fc p1.fd p1.fb p1.fe))).bind fun v4 =>
  (DH (v4.1 ≤ v4.2.length)).bind fun _ =>
  some (v4.2.take v4.1, 0))
def Hq (_ : Nat) (p0 : Ad) : Option Bool :=
 Bd (fun (v1 : Bool) =>
  AR v1
   (some false)
   (Bd (fun (v5 : Bool) =>
    some v5)
   fun j5 =>
   AR ((p0.fg == 1))
    (j5 true)
    (j5 (p0.fo == 0))))
 fun j1 =>
 AR ((decide ((W8 p0.fi p0.fo) < 0)))
  (j1 true)
  (AR ((decide (p0.fg < 1)))
   (j1 true)
   (j1 (decide (4 < p0.fg))))
def GW (_ : Nat) (p0 : Aa) (p1 : Ad) : Option Bool :=
 AR ((p1.fg == 3))
  (some ((decide (p1.fi < (p0.fc.length : Int)))))
  (Bd (fun (v2 : Bool) =>
   some v2)
  fun j2 =>
  AR ((decide (p1.fi < (p0.fa.length : Int))))
   (AR ((p1.fg != 1))
    (j2 true)
    ((Bs p0.fa p1.fi).bind fun v5 =>
    j2 (decide (p1.fo < v5))))
   (j2 false))
def Hv (N : Nat) (p0 : Aa) (p1 : Ac) (p2 : Ad) : Option (Ac × Int) :=
 (Hq N p2).bind fun v1 =>
 AR ((!v1))
  (some ((Ac.mk (([] : List Int)) (([] : List Int)) (([] : List Int))), 1))
  ((GW N p0 p2).bind fun v3 =>
  AR ((!v3))
   (some ((Ac.mk (([] : List Int)) (([] : List Int)) (([] : List Int))), 4))
   ((F0 N p0 p1 p2).bind fun v5 =>
   AR ((!v5.2))
    (some ((Ac.mk (([] : List Int)) (([] : List Int)) (([] : List Int))), 11))
    (some (v5.1, 0))))
def Hx (N : Nat) (p0 : Aa) (p1 : Ac) (p2 : Ad) : Option (Ac × Int) :=
 (FQ N p0 p1).bind fun v1 =>
 AR ((v1 != 0))
  (some ((Ac.mk (([] : List Int)) (([] : List Int)) (([] : List Int))), v1))
  ((Hv N p0 p1 p2).bind fun v3 =>
  some (v3.1, v3.2))
def Cn (N : Nat) (p0 : Aa) (v2 : (List Az) × (List (ByteArray × Int)) × Int) (v6 : (List Ad) × Int) (j8 : ((List Az) × (List (ByteArray × Int))) → Option ((List Az) × Int)) : Nat → ((List Az) × (List (ByteArray × Int)) × Int) → Option ((List Az) × Int)
 | 0, _ => none
 | n8 + 1, v8 =>
  AR ((decide (v8.2.2 < (v6.1.length : Int))))
   ((Bs v6.1 v8.2.2).bind fun v11 =>
   (Bs v8.1 v2.2.2).bind fun v12 =>
   (Hx N p0 ((Ac.mk v12.fp.fd v12.fp.fb v12.fp.fe)) v11).bind fun v13 =>
   AR ((v13.2 != 0))
    (some (([] : List Az), v13.2))
    ((HV N v13.1).bind fun v15 =>
    Bd (fun (v16 : (List Az) × (List (ByteArray × Int)) × Int) =>
     Bd (fun (v24 : (List Az)) =>
      AR ((decide (20000 < (v24.length : Int))))
       (some (([] : List Az), 3))
       (Cn N p0 v2 v6 j8 n8 (v24, v16.2.1, (wI .i64 (v8.2.2 + 1)))))
     fun j24 =>
     AR ((decide (0 ≤ v16.2.2)))
      ((Bs v16.1 v2.2.2).bind fun v26 =>
      (DH (v26.fb.length + (([v16.2.2] : List Int)).length ≤ C2)).bind fun _ =>
      (Bs v16.1 v2.2.2).bind fun v28 =>
      j24 (v16.1.set ((v2.2.2).toNat) ((Az.mk ((Ac.mk v28.fp.fd v28.fp.fb v28.fp.fe)) v28.ff ((Ad.mk v28.fu.fg v28.fu.fi v28.fu.fo)) (v26.fb ++ (([v16.2.2] : List Int)))))))
      (j24 v16.1))
    fun j16 =>
    AR ((!((Ir v15 v8.2.1).isSome)))
     (Bd (fun (v18 : (List Az) × Int) =>
      j16 (v18.1, LB v15 v18.2 v8.2.1, v18.2))
     fun j18 =>
     (GI N p0 v13.1).bind fun v19 =>
     Bd (fun (v20 : Bool) =>
      AR v20
       (j18 (v8.1, (-1)))
       ((DH (v8.1.length + (([(Az.mk v13.1 v2.2.2 v11 (([] : List Int)))] : List Az)).length ≤ C2)).bind fun _ =>
       j18 (v8.1 ++ (([(Az.mk v13.1 v2.2.2 v11 (([] : List Int)))] : List Az)), (v8.1.length : Int))))
     fun j20 =>
     AR ((v19.2 != 0))
      (j20 true)
      (j20 (!v19.1)))
     (j16 (v8.1, v8.2.1, ((Ir v15 v8.2.1).getD 0)))))
   (j8 (v8.1, v8.2.1))
def DF (N : Nat) (p0 : Aa) (j2 : ((List Az)) → Option ((List Az) × Int)) : Nat → ((List Az) × (List (ByteArray × Int)) × Int) → Option ((List Az) × Int)
 | 0, _ => none
 | n2 + 1, v2 =>
  AR ((decide (v2.2.2 < (v2.1.length : Int))))
   ((Bs v2.1 v2.2.2).bind fun v5 =>
   (Gv N p0 ((Ac.mk v5.fp.fd v5.fp.fb v5.fp.fe))).bind fun v6 =>
   AR ((v6.2 != 0))
    (some (([] : List Az), v6.2))
    (Cn N p0 v2 v6 (fun (v9 : (List Az) × (List (ByteArray × Int))) =>
     DF N p0 j2 n2 (v9.1, v9.2, (wI .i64 (v2.2.2 + 1)))) N (v2.1, v2.2.1, 0)))
   (j2 v2.1)
def GX (N : Nat) (p0 : Aa) (p1 : Ac) : Option ((List Az) × Int) :=
 (HV N p1).bind fun v1 =>
 DF N p0 (fun (v3 : (List Az)) =>
  some (v3, 0)) N (([(Az.mk p1 ((-1)) ((Ad.mk 0 0 0)) (([] : List Int)))] : List Az), LB v1 0 (([] : List (ByteArray × Int))), 0)
def B9 (N : Nat) (p0 : List Int) (p1 : List Int) (j2 : Unit → Option Bool) : Nat → Int → Option Bool
 | 0, _ => none
 | n2 + 1, v2 =>
  AR ((decide (v2 < (p0.length : Int))))
   ((Bs p0 v2).bind fun v5 =>
   (Bs p1 v2).bind fun v6 =>
   AR ((v5 != v6))
    (some false)
    (B9 N p0 p1 j2 n2 (wI .i64 (v2 + 1))))
   (j2 ())
def D5 (N : Nat) (p0 : List Int) (p1 : List Int) : Option Bool :=
 AR (((p0.length : Int) != (p1.length : Int)))
  (some false)
  (B9 N p0 p1 (fun (_ : Unit) =>
   some true) N 0)
def Bj (N : Nat) (p0 : List Int) (p1 : Int → Option Bool) (j1 : Unit → Option Int) : Nat → Int → Option Int
 | 0, _ => none
 | n1 + 1, v1 =>
  AR ((decide (v1 < (p0.length : Int))))
   ((Bs p0 v1).bind fun v4 =>
   (p1 v4).bind fun v5 =>
   AR v5
    (some v1)
    (Bj N p0 p1 j1 n1 (wI .i64 (v1 + 1))))
   (j1 ())
def D7 (N : Nat) (p0 : List Int) (p1 : Int → Option Bool) : Option Int :=
 Bj N p0 p1 (fun (_ : Unit) =>
  some ((-1))) N 0
def CM (N : Nat) (p0 : List Int) (p1 : Int → Option Bool) : Option Bool :=
 (D7 N p0 p1).bind fun v1 =>
 some ((decide (0 ≤ v1)))
def Hs (_ : Nat) (p0 : Int) : Option Bool :=
 some ((decide (0 ≤ p0)))
def IR (N : Nat) (p0 : Aa) (p1 : Ac) : Option Bool :=
 Bd (fun (v1 : Bool) =>
  some v1)
 fun j1 =>
 (FQ N p0 p1).bind fun v2 =>
 AR ((v2 == 0))
  ((D5 N p1.fd p0.fq).bind fun v4 =>
  AR v4
   ((CM N p1.fb ((fun (x : Int) => Hs N x))).bind fun v6 =>
   j1 (!v6))
   (j1 false))
  (j1 false)
def EN (N : Nat) (p0 : Az) (p1 : List Int) (p2 : List Int) (p3 : List Int) (p4 : List Al) : Option Bool :=
 (IR N ((Aa.mk p1 p2 p3 p4)) ((Ac.mk p0.fp.fd p0.fp.fb p0.fp.fe))).bind fun v1 =>
 some v1
def AU (N : Nat) (p0 : List Az) (p1 : Az → Option Bool) (j1 : Unit → Option Int) : Nat → Int → Option Int
 | 0, _ => none
 | n1 + 1, v1 =>
  AR ((decide (v1 < (p0.length : Int))))
   ((Bs p0 v1).bind fun v4 =>
   (p1 ((Az.mk ((Ac.mk v4.fp.fd v4.fp.fb v4.fp.fe)) v4.ff ((Ad.mk v4.fu.fg v4.fu.fi v4.fu.fo)) v4.fb))).bind fun v5 =>
   AR v5
    (some v1)
    (AU N p0 p1 j1 n1 (wI .i64 (v1 + 1))))
   (j1 ())
def Ci (N : Nat) (p0 : List Az) (p1 : Az → Option Bool) : Option Int :=
 AU N p0 p1 (fun (_ : Unit) =>
  some ((-1))) N 0
def Bh (N : Nat) (j1 : ((List Ad)) → Option ((List Ad))) : Nat → ((List Ad) × Int × Int) → Option ((List Ad))
 | 0, _ => none
 | n1 + 1, v1 =>
  AR ((decide (v1.2.1 < v1.2.2)))
   ((Bs v1.1 v1.2.2).bind fun v4 =>
   (Bs v1.1 v1.2.1).bind fun v5 =>
   (Bs v1.1 v1.2.1).bind fun _ =>
   (Bs (v1.1.set ((v1.2.1).toNat) v4) v1.2.2).bind fun _ =>
   Bh N j1 n1 ((v1.1.set ((v1.2.1).toNat) v4).set ((v1.2.2).toNat) v5, (wI .i64 (v1.2.1 + 1)), (wI .i64 (v1.2.2 - 1))))
   (j1 v1.1)
def Bx (N : Nat) (p0 : List Ad) : Option ((List Ad)) :=
 Bh N (fun (v2 : (List Ad)) =>
  some v2) N (p0, 0, (wI .i64 ((p0.length : Int) - 1)))
def F6 (N : Nat) (p0 : List Az) (j1 : ((List Ad)) → Option ((List Ad))) : Nat → (Int × (List Ad)) → Option ((List Ad))
 | 0, _ => none
 | n1 + 1, v1 =>
  (Bs p0 v1.1).bind fun v3 =>
  AR ((decide (0 ≤ v3.ff)))
   ((Bs p0 v1.1).bind fun v5 =>
   (DH (v1.2.length + (([(Ad.mk v5.fu.fg v5.fu.fi v5.fu.fo)] : List Ad)).length ≤ C2)).bind fun _ =>
   (Bs p0 v1.1).bind fun v7 =>
   F6 N p0 j1 n1 (v7.ff, v1.2 ++ (([(Ad.mk v5.fu.fg v5.fu.fi v5.fu.fo)] : List Ad))))
   (j1 v1.2)
def JY (N : Nat) (p0 : List Az) (p1 : Int) : Option ((List Ad)) :=
 F6 N p0 (fun (v2 : (List Ad)) =>
  (Bx N v2).bind fun v8 =>
  some v8) N (p1, ([] : List Ad))
def FM (N : Nat) (p0 : Aa) (p1 : Ac) : Option ((List Ad) × Int) :=
 (GI N p0 p1).bind fun v1 =>
 AR ((v1.2 != 0))
  (some (([] : List Ad), v1.2))
  (AR ((!v1.1))
   (some (([] : List Ad), 13))
   ((GX N p0 p1).bind fun v4 =>
   AR ((v4.2 != 0))
    (some (([] : List Ad), v4.2))
    ((Ci N v4.1 ((fun (x : Az) => EN N x p0.fa p0.fh p0.fq p0.fc))).bind fun v6 =>
    AR ((decide (v6 < 0)))
     (some (([] : List Ad), 14))
     ((JY N v4.1 v6).bind fun v8 =>
     some (v8, 0)))))
def Gk (N : Nat) (p0 : Aa) : Option ((List Ad) × Int) :=
 (Ia N p0).bind fun v1 =>
 AR ((v1.2 != 0))
  (some (([] : List Ad), v1.2))
  ((FM N p0 v1.1).bind fun v3 =>
  some (v3.1, v3.2))
def Fs (N : Nat) (p0 : Aa) (p1 : List Int) : Option (Bool × Int) :=
 (Cb N p0).bind fun v1 =>
 AR ((v1 != 0))
  (some (false, v1))
  ((FI N p0 p1).bind fun v3 =>
  AR ((v3.2 != 0))
   (some (false, v3.2))
   ((Gk N v3.1).bind fun v5 =>
   AR ((v5.2 == 0))
    (some (false, 0))
    (AR ((v5.2 == 3))
     (some (false, v5.2))
     (some (true, 0)))))
def H7 (N : Nat) (p0 : Aa) (p1 : Int) : Option (Bool × Int) :=
 (BH N p1).bind fun v1 =>
 (Fs N p0 v1).bind fun v2 =>
 some (v2.1, v2.2)
def Fk (N : Nat) (p0 : Aa) (j4 : ((List Int)) → Option ((List Int) × (List (Int × Bool)) × Int)) : Nat → ((List Int) × Int) → Option ((List Int) × (List (Int × Bool)) × Int)
 | 0, _ => none
 | n4 + 1, v4 =>
  AR ((decide (v4.2 < (DQ .u64 1 ((p0.fa.length : Int))))))
   ((DH (v4.1.length + (([v4.2] : List Int)).length ≤ C2)).bind fun _ =>
   Fk N p0 j4 n4 (v4.1 ++ (([v4.2] : List Int)), (wI .u64 (v4.2 + 1))))
   (j4 v4.1)
def Ez (N : Nat) (p0 : Aa) (v8 : (List Int)) (j9 : ((List (Int × Bool))) → Option ((List Int) × (List (Int × Bool)) × Int)) : Nat → ((List (Int × Bool)) × Int) → Option ((List Int) × (List (Int × Bool)) × Int)
 | 0, _ => none
 | n9 + 1, v9 =>
  AR ((decide (v9.2 < (v8.length : Int))))
   ((Bs v8 v9.2).bind fun v12 =>
   (H7 N p0 v12).bind fun v13 =>
   AR ((v13.2 != 0))
    (some (([] : List Int), ([] : List (Int × Bool)), v13.2))
    (Ez N p0 v8 j9 n9 (LB v12 v13.1 v9.1, (wI .i64 (v9.2 + 1)))))
   (j9 v9.1)
def GF (N : Nat) (p0 : Aa) : Option ((List Int) × (List (Int × Bool)) × Int) :=
 (Cb N p0).bind fun v1 =>
 AR ((v1 != 0))
  (some (([] : List Int), ([] : List (Int × Bool)), v1))
  ((DH (0 ≤ (p0.fa.length : Int))).bind fun _ =>
  Fk N p0 (fun (v5 : (List Int)) =>
   (Bu N v5 ((fun (x : Int × Int) => Du N x.1 x.2))).bind fun v8 =>
   Ez N p0 v8 (fun (v10 : (List (Int × Bool))) =>
    some (v8, v10, 0)) N (([] : List (Int × Bool)), 0)) N (([] : List Int), 0))
def FN (_ : Nat) (p0 : Int) (p1 : Int) : Option Bool :=
 some (((CZ .u64 p0 p1) == 0))
def C6 (N : Nat) (p0 : List Int) (p1 : Int → Option Bool) (j1 : Unit → Option Int) : Nat → Int → Option Int
 | 0, _ => none
 | n1 + 1, v1 =>
  AR ((decide (v1 < (p0.length : Int))))
   ((Bs p0 v1).bind fun v4 =>
   (p1 v4).bind fun v5 =>
   AR v5
    (some v1)
    (C6 N p0 p1 j1 n1 (wI .i64 (v1 + 1))))
   (j1 ())
def DD (N : Nat) (p0 : List Int) (p1 : Int → Option Bool) : Option Int :=
 C6 N p0 p1 (fun (_ : Unit) =>
  some ((-1))) N 0
def C7 (N : Nat) (p0 : List Int) (p1 : Int → Option Bool) : Option Bool :=
 (DD N p0 p1).bind fun v1 =>
 some ((decide (0 ≤ v1)))
def Gq (N : Nat) (p0 : List Int) (p1 : List (Int × Bool)) (j1 : ((List Int)) → Option ((List Int))) : Nat → ((List Int) × Int) → Option ((List Int))
 | 0, _ => none
 | n1 + 1, v1 =>
  AR ((decide (v1.2 < (p0.length : Int))))
   (Bd (fun (v4 : (List Int)) =>
    Gq N p0 p1 j1 n1 (v4, (wI .i64 (v1.2 + 1))))
   fun j4 =>
   (Bs p0 v1.2).bind fun v5 =>
   Bd (fun (v6 : Bool) =>
    AR v6
     ((DH (v1.1.length + (([v5] : List Int)).length ≤ C2)).bind fun _ =>
     j4 (v1.1 ++ (([v5] : List Int))))
     (j4 v1.1))
   fun j6 =>
   AR (((Ir v5 p1).getD false))
    ((C7 N v1.1 ((fun (x : Int) => FN N x v5))).bind fun v8 =>
    j6 (!v8))
    (j6 false))
   (j1 v1.1)
def Gw (N : Nat) (p0 : List Int) (p1 : List (Int × Bool)) : Option ((List Int)) :=
 Gq N p0 p1 (fun (v2 : (List Int)) =>
  some v2) N (([] : List Int), 0)
def G9 (N : Nat) (p0 : List Int) (j1 : ((List (List Int))) → Option ((List (List Int)))) : Nat → ((List (List Int)) × Int) → Option ((List (List Int)))
 | 0, _ => none
 | n1 + 1, v1 =>
  AR ((decide (v1.2 < (p0.length : Int))))
   ((Bs p0 v1.2).bind fun v4 =>
   (BH N v4).bind fun v5 =>
   (DH (v1.1.length + (([v5] : List (List Int))).length ≤ C2)).bind fun _ =>
   G9 N p0 j1 n1 (v1.1 ++ (([v5] : List (List Int))), (wI .i64 (v1.2 + 1))))
   (j1 v1.1)
def GD (N : Nat) (p0 : List Int) : Option ((List (List Int))) :=
 G9 N p0 (fun (v2 : (List (List Int))) =>
  some v2) N (([] : List (List Int)), 0)
def GV (N : Nat) (p0 : Aa) : Option ((List (List Int)) × Int) :=
 (GF N p0).bind fun v1 =>
 AR ((v1.2.2 != 0))
  (some (([] : List (List Int)), v1.2.2))
  ((Gw N v1.1 v1.2.1).bind fun v3 =>
  (GD N v3).bind fun v4 =>
  some (v4, 0))
def Dz (_ : Nat) (p0 : List Int) : Option ((List Int)) :=
 (DH ((([] : List Int)).length + p0.length ≤ C2)).bind fun _ =>
 some ((([] : List Int)) ++ p0)
def F8 (_ : Nat) (p0 : Int) (p1 : List (Int × Bool)) (p2 : Int) : Option Bool :=
 Bd (fun (v1 : Bool) =>
  some v1)
 fun j1 =>
 AR ((!(((Ir p0 p1).getD false))))
  (AR ((p0 != p2))
   (j1 ((CZ .u64 p2 p0) == 0))
   (j1 false))
  (j1 false)
def Ft (N : Nat) (p0 : Int) (p1 : List (Int × Bool)) (p2 : List Int) : Option Bool :=
 Bd (fun (v1 : Bool) =>
  some v1)
 fun j1 =>
 AR (((Ir p0 p1).getD false))
  (j1 true)
  ((C7 N p2 ((fun (x : Int) => F8 N x p1 p0))).bind fun v3 =>
  j1 v3)
def C0 (N : Nat) (p1 : Int → Option Bool) (j3 : ((List Int) × Int) → Option (Nat × (List Int))) : Nat → ((List Int) × Int × Int) → Option (Nat × (List Int))
 | 0, _ => none
 | n3 + 1, v3 =>
  AR ((decide (v3.2.2 < (v3.1.length : Int))))
   (Bd (fun (v6 : (List Int) × Int) =>
    C0 N p1 j3 n3 (v6.1, v6.2, (wI .i64 (v3.2.2 + 1))))
   fun j6 =>
   (Bs v3.1 v3.2.2).bind fun v7 =>
   (p1 v7).bind fun v8 =>
   AR ((!v8))
    ((Bs v3.1 v3.2.1).bind fun _ =>
    j6 (v3.1.set ((v3.2.1).toNat) v7, (wI .i64 (v3.2.1 + 1))))
    (j6 (v3.1, v3.2.1)))
   (j3 (v3.1, v3.2.1))
def CK (N : Nat) (p0 : List Int) (p1 : Int → Option Bool) : Option (Nat × (List Int)) :=
 (DD N p0 p1).bind fun v1 =>
 AR ((v1 == (-1)))
  (some (p0.length, p0))
  (C0 N p1 (fun (v4 : (List Int) × Int) =>
   (DH ((0 : Int) ≤ v4.2 ∧ (v4.2).toNat ≤ v4.1.length ∧ v4.1.length ≤ v4.1.length)).bind fun _ =>
   (DH ((0 : Int) ≤ v4.2 ∧ 0 ≤ (v4.2).toNat ∧ (v4.2).toNat ≤ (Ji v4.1 ((v4.2).toNat) (zA6 ((v4.1.length - (v4.2).toNat)) ((0 : Int)))).length)).bind fun _ =>
   some ((v4.2).toNat, Ji v4.1 ((v4.2).toNat) (zA6 ((v4.1.length - (v4.2).toNat)) ((0 : Int))))) N (p0, v1, (wI .i64 (v1 + 1))))
def Gn (N : Nat) (p0 : Aa) : Option ((List (List Int)) × Int) :=
 (GF N p0).bind fun v1 =>
 AR ((v1.2.2 != 0))
  (some (([] : List (List Int)), v1.2.2))
  ((Dz N v1.1).bind fun v3 =>
  (CK N v3 ((fun (x : Int) => Ft N x v1.2.1 v1.1))).bind fun v4 =>
  (DH (v4.1 ≤ v4.2.length)).bind fun _ =>
  (GD N (v4.2.take v4.1)).bind fun v7 =>
  some (v7, 0))
def Fe (N : Nat) (p0 : List Int) (p1 : List Int) (j2 : Unit → Option Bool) : Nat → Int → Option Bool
 | 0, _ => none
 | n2 + 1, v2 =>
  AR ((decide (v2 < (p0.length : Int))))
   ((Bs p0 v2).bind fun v5 =>
   (Bs p1 v2).bind fun v6 =>
   AR ((v5 != v6))
    (some false)
    (Fe N p0 p1 j2 n2 (wI .i64 (v2 + 1))))
   (j2 ())
def Hh (N : Nat) (p0 : List Int) (p1 : List Int) : Option Bool :=
 AR (((p0.length : Int) != (p1.length : Int)))
  (some false)
  (Fe N p0 p1 (fun (_ : Unit) =>
   some true) N 0)
def E5 (N : Nat) (p0 : List (List Int)) (p1 : List (List Int)) (j2 : Unit → Option Bool) : Nat → Int → Option Bool
 | 0, _ => none
 | n2 + 1, v2 =>
  AR ((decide (v2 < (p0.length : Int))))
   ((Bs p0 v2).bind fun v5 =>
   (Bs p1 v2).bind fun v6 =>
   (Hh N v5 v6).bind fun v7 =>
   AR ((!v7))
    (some false)
    (E5 N p0 p1 j2 n2 (wI .i64 (v2 + 1))))
   (j2 ())
def FK (N : Nat) (p0 : List (List Int)) (p1 : List (List Int)) : Option Bool :=
 AR (((p0.length : Int) != (p1.length : Int)))
  (some false)
  (E5 N p0 p1 (fun (_ : Unit) =>
   some true) N 0)
def E4 (N : Nat) (j1 : Unit → Option Bool) : Nat → Int → Option Bool
 | 0, _ => none
 | n1 + 1, v1 =>
  AR ((decide (v1 < ((([false, true] : List Bool)).length : Int))))
   ((Bs (([false, true] : List Bool)) v1).bind fun v4 =>
   (Eg N v4).bind fun v5 =>
   (GV N v5).bind fun v6 =>
   (Eg N v4).bind fun v7 =>
   (Gn N v7).bind fun v8 =>
   (Eg N v4).bind fun v9 =>
   (Fs N v9 (([0, 2] : List Int))).bind fun v10 =>
   Bd (fun (v11 : Bool) =>
    AR v11
     (some false)
     (E4 N j1 n1 (wI .i64 (v1 + 1))))
   fun j11 =>
   AR ((v6.2 != 0))
    (j11 true)
    (AR ((v8.2 != 0))
     (j11 true)
     (AR ((v10.2 != 0))
      (j11 true)
      (AR v10.1
       (j11 true)
       ((FK N v6.1 (([([0, 1] : List Int)] : List (List Int)))).bind fun v16 =>
       AR ((!v16))
        (j11 true)
        ((FK N v8.1 (([([0, 2] : List Int), ([1, 2] : List Int)] : List (List Int)))).bind fun v18 =>
        j11 (!v18)))))))
   (j1 ())
def EM (N : Nat) : Option Bool :=
 E4 N (fun (_ : Unit) =>
  some true) N 0
def EE (N : Nat) (p0 : List Int) (p1 : List Int) (v1 : Int) (j4 : Bool → Option Bool) : Nat → (Bool × Int) → Option Bool
 | 0, _ => none
 | n4 + 1, v4 =>
  AR ((decide (v4.2 < (p1.length : Int))))
   (Bd (fun (v7 : Bool) =>
    EE N p0 p1 v1 j4 n4 (v7, (wI .i64 (v4.2 + 1))))
   fun j7 =>
   AR v4.1
    (j7 true)
    ((Bs p1 v4.2).bind fun v9 =>
    (Bs p0 v1).bind fun v10 =>
    j7 (v9 == v10)))
   (j4 v4.1)
def EI (N : Nat) (p0 : List Int) (p1 : List Int) (j1 : Unit → Option Bool) : Nat → Int → Option Bool
 | 0, _ => none
 | n1 + 1, v1 =>
  AR ((decide (v1 < (p0.length : Int))))
   (EE N p0 p1 v1 (fun (v5 : Bool) =>
    AR ((!v5))
     (some false)
     (EI N p0 p1 j1 n1 (wI .i64 (v1 + 1)))) N (false, 0))
   (j1 ())
def Et (N : Nat) (p0 : List Int) (p1 : List Int) : Option Bool :=
 EI N p0 p1 (fun (_ : Unit) =>
  some true) N 0
def Dj (N : Nat) (v7 : (List (List Int)) × Int) (v13 : Int) (v16 : List Int) (j17 : Unit → Option Bool) : Nat → Int → Option Bool
 | 0, _ => none
 | n17 + 1, v17 =>
  AR ((decide (v17 < (v7.1.length : Int))))
   ((Bs v7.1 v17).bind fun v20 =>
   Bd (fun (v21 : Bool) =>
    AR v21
     (some false)
     (Dj N v7 v13 v16 j17 n17 (wI .i64 (v17 + 1))))
   fun j21 =>
   AR ((v13 != v17))
    ((Et N v16 v20).bind fun v23 =>
    j21 v23)
    (j21 false))
   (j17 ())
def Di (N : Nat) (v8 : (List (List Int)) × Int) (v16 : List Int) (j25 : Unit → Option Bool) : Nat → Int → Option Bool
 | 0, _ => none
 | n25 + 1, v25 =>
  AR ((decide (v25 < (v8.1.length : Int))))
   ((Bs v8.1 v25).bind fun v28 =>
   (Et N v16 v28).bind fun v29 =>
   AR v29
    (some false)
    (Di N v8 v16 j25 n25 (wI .i64 (v25 + 1))))
   (j25 ())
def BX (N : Nat) (v7 : (List (List Int)) × Int) (v8 : (List (List Int)) × Int) (j13 : Unit → Option Bool) : Nat → Int → Option Bool
 | 0, _ => none
 | n13 + 1, v13 =>
  AR ((decide (v13 < (v7.1.length : Int))))
   ((Bs v7.1 v13).bind fun v16 =>
   Dj N v7 v13 v16 (fun (_ : Unit) =>
    Di N v8 v16 (fun (_ : Unit) =>
     BX N v7 v8 j13 n13 (wI .i64 (v13 + 1))) N 0) N 0)
   (j13 ())
def Dh (N : Nat) (v8 : (List (List Int)) × Int) (v31 : Int) (v34 : List Int) (j35 : Unit → Option Bool) : Nat → Int → Option Bool
 | 0, _ => none
 | n35 + 1, v35 =>
  AR ((decide (v35 < (v8.1.length : Int))))
   ((Bs v8.1 v35).bind fun v38 =>
   Bd (fun (v39 : Bool) =>
    AR v39
     (some false)
     (Dh N v8 v31 v34 j35 n35 (wI .i64 (v35 + 1))))
   fun j39 =>
   AR ((v31 != v35))
    ((Et N v34 v38).bind fun v41 =>
    j39 v41)
    (j39 false))
   (j35 ())
def BW (N : Nat) (v8 : (List (List Int)) × Int) (j31 : Unit → Option Bool) : Nat → Int → Option Bool
 | 0, _ => none
 | n31 + 1, v31 =>
  AR ((decide (v31 < (v8.1.length : Int))))
   ((Bs v8.1 v31).bind fun v34 =>
   Dh N v8 v31 v34 (fun (_ : Unit) =>
    BW N v8 j31 n31 (wI .i64 (v31 + 1))) N 0)
   (j31 ())
def C8 (N : Nat) (p0 : BF) : Option Bool :=
 (zFS N p0).bind fun v1 =>
 Bd (fun (v2 : Bool) =>
  AR v2
   ((EM N).bind fun v6 =>
   some v6)
   ((GV N v1.1).bind fun v7 =>
   (Gn N v1.1).bind fun v8 =>
   Bd (fun (v9 : Bool) =>
    AR v9
     (some false)
     (BX N v7 v8 (fun (_ : Unit) =>
      BW N v8 (fun (_ : Unit) =>
       some true) N 0) N 0))
   fun j9 =>
   AR ((v7.2 != 0))
    (j9 true)
    (AR ((v8.2 != 0))
     (j9 true)
     (j9 ((v8.1.length : Int) == 0)))))
 fun j2 =>
 (EM N).bind fun v3 =>
 AR ((!v3))
  (j2 true)
  (j2 (!v1.2))
def PO {α : Type} (w : α → Prop) (xs : List α) : Prop := ∀ x, x ∈ xs → w x
def Mh (n : Int) : Prop := (Lit.int .u8 n).wf = true
def Z7 (n : Int) : Prop := (Lit.int .u16 n).wf = true
def Iv (x : HC) : Prop := Mh x.fg ∧ Mh x.ff ∧ Mh x.fj ∧ (fun _ => True) x.ft ∧ Z7 x.fy ∧ Z7 x.fA ∧ True
def FL (x : BF) : Prop := (PO Mh) x.fa ∧ (PO Mh) x.fh ∧ (PO Mh) x.fq ∧ (PO Iv) x.fw ∧ True
open Go.RowKit
open Go.Proofs
abbrev NQ (x : HC) : List C := [.pure (.val (.int .u8 x.fg)), .pure (.val (.int .u8 x.ff)), .pure (.val (.int .u8 x.fj)), .pure (.val (.bool x.ft)), .pure (.val (.int .u16 x.fy)), .pure (.val (.int .u16 x.fA))]
abbrev CN (x : BF) : List C := [sC (x.fa.map DV), sC (x.fh.map DV), sC (x.fq.map DV), sC (x.fw.map Hf)]
abbrev Ba (x : Al) : List C := [iC x.fg, iC x.ff, iC x.fj, .pure (.val (.bool x.ft)), sC (x.fr.map (EX eB)), sC (x.fk.map (EX eB))]
abbrev Ah (x : Aa) : List C := [sC (x.fa.map Ak), sC (x.fh.map Ak), sC (x.fq.map Ak), sC (x.fc.map AM)]
abbrev AK (x : Ac) : List C := [sC (x.fd.map Ak), sC (x.fb.map Ak), sC (x.fe.map DV)]
abbrev NA (x : An) : List C := [iC x.fB, iC x.fC, iC x.fD]
abbrev Dm (x : Ad) : List C := [iC x.fg, iC x.fi, iC x.fo]
abbrev VF (x : Az) : List C := [sC (x.fp.fd.map Ak), sC (x.fp.fb.map Ak), sC (x.fp.fe.map DV), iC x.ff, iC x.fu.fg, iC x.fu.fi, iC x.fu.fo, sC (x.fb.map Ak)]
theorem Aw : Tryz.prog.follows .mixedOrders = true := by kernel_rfl
theorem wq {X : IX} {y : Code} {id : Nat} {ops : Array Oper} {dr : Bool} {Q : Exit → St → Prop} {st : St} {n : Nat} (hn : ops.size = n) (h : Bc zA0 X ops dr (fun st' => W zA0 X y Q st') n 0 st []) : W zA0 X (.seq (.region id ops dr) y) Q st := et Aw hn h
theorem wp {X : IX} {y z : Code} {id : Nat} {ops : Array Oper} {dr : Bool} {Q : Exit → St → Prop} {st : St} {n : Nat} (hn : ops.size = n) (h : Bc zA0 X ops dr (fun st' => W zA0 X y (QT (W zA0 X z Q) Q) st') n 0 st []) : W zA0 X (.seq (.seq (.region id ops dr) y) z) Q st := AL (et Aw hn h)
theorem cT : FH zA0 101 true = true := by kernel_rfl
theorem IH : FH zA0 120 false = true := by kernel_rfl
theorem cn : FH zA0 136 true = true := by kernel_rfl
theorem UU : FH zA0 149 true = true := by kernel_rfl
theorem WI : FH zA0 22 false = true := by kernel_rfl
theorem al : FH zA0 23 false = true := by kernel_rfl
theorem bu : FH zA0 25 true = true := by kernel_rfl
theorem A1 : FH zA0 26 false = true := by kernel_rfl
theorem Hc : FH zA0 27 false = true := by kernel_rfl
theorem Dq : FH zA0 29 true = true := by kernel_rfl
theorem BV : FH zA0 3 false = true := by kernel_rfl
theorem Tv : FH zA0 4 false = true := by kernel_rfl
theorem HX : FH zA0 47 false = true := by kernel_rfl
theorem B8 : FH zA0 49 true = true := by kernel_rfl
theorem bb : FH zA0 5 false = true := by kernel_rfl
theorem Or : FH zA0 61 false = true := by kernel_rfl
theorem cb : FH zA0 66 false = true := by kernel_rfl
theorem bk : FH zA0 67 false = true := by kernel_rfl
theorem Ps : FH zA0 71 false = true := by kernel_rfl
theorem Io : FH zA0 82 false = true := by kernel_rfl
theorem GR : FH zA0 84 true = true := by kernel_rfl
theorem JT : FH zA0 94 true = true := by kernel_rfl
theorem aM : FH zA0 99 false = true := by kernel_rfl
theorem bc : Rb zA0 22 = true := by kernel_rfl
theorem Pj : Fn zA0 120 1 = true := by kernel_rfl
theorem ZX : Fn zA0 136 128 = true := by kernel_rfl
theorem ZQ : Fn zA0 140 104 = true := by kernel_rfl
theorem Re : Fn zA0 149 24 = true := by kernel_rfl
theorem Zk : Fn zA0 26 24 = true := by kernel_rfl
theorem JU : Fn zA0 3 8 = true := by kernel_rfl
theorem Wi : Fn zA0 4 1 = true := by kernel_rfl
theorem Zj : Fn zA0 49 72 = true := by kernel_rfl
theorem ZI : Fn zA0 5 1 = true := by kernel_rfl
theorem Xh : Fn zA0 61 24 = true := by kernel_rfl
theorem Wd : Fn zA0 71 8 = true := by kernel_rfl
theorem WP : Fn zA0 84 80 = true := by kernel_rfl
theorem SW : Fn zA0 94 24 = true := by kernel_rfl
theorem WD : CU zA0 101 0 0 = true := by kernel_rfl
theorem XA : CU zA0 101 1 1 = true := by kernel_rfl
theorem WR : CU zA0 101 2 2 = true := by kernel_rfl
theorem Xk : CU zA0 101 3 3 = true := by kernel_rfl
theorem Xm : CU zA0 101 4 4 = true := by kernel_rfl
theorem Wb : CU zA0 101 5 5 = true := by kernel_rfl
theorem PH : CU zA0 136 0 0 = true := by kernel_rfl
theorem SB : CU zA0 136 1 3 = true := by kernel_rfl
theorem VO : CU zA0 136 2 4 = true := by kernel_rfl
theorem Tj : CU zA0 136 3 7 = true := by kernel_rfl
theorem OR : CU zA0 140 0 0 = true := by kernel_rfl
theorem RP : CU zA0 25 0 0 = true := by kernel_rfl
theorem YN : CU zA0 25 1 1 = true := by kernel_rfl
theorem XR : CU zA0 25 2 2 = true := by kernel_rfl
theorem RX : CU zA0 25 3 3 = true := by kernel_rfl
theorem A7 : CU zA0 29 0 0 = true := by kernel_rfl
theorem Fv : CU zA0 29 1 1 = true := by kernel_rfl
theorem GP : CU zA0 29 2 2 = true := by kernel_rfl
theorem Ca : CU zA0 29 3 3 = true := by kernel_rfl
theorem Db : CU zA0 49 0 0 = true := by kernel_rfl
theorem BO : CU zA0 49 1 1 = true := by kernel_rfl
theorem CV : CU zA0 49 2 2 = true := by kernel_rfl
theorem Gj : CU zA0 84 0 0 = true := by kernel_rfl
theorem CY : CU zA0 84 1 1 = true := by kernel_rfl
theorem HD : CU zA0 84 2 2 = true := by kernel_rfl
theorem Jm : CU zA0 84 3 3 = true := by kernel_rfl
theorem Hg : CU zA0 84 4 4 = true := by kernel_rfl
theorem Fx : CU zA0 84 5 5 = true := by kernel_rfl
theorem Gp : CU zA0 94 0 0 = true := by kernel_rfl
theorem FA : CU zA0 94 1 1 = true := by kernel_rfl
theorem HB : CU zA0 94 2 2 = true := by kernel_rfl
theorem ed : AA zA0 10 = true := by kernel_rfl
theorem bv : AA zA0 100 = true := by kernel_rfl
theorem Zr : AA zA0 101 = true := by kernel_rfl
theorem Zw : AA zA0 102 = true := by kernel_rfl
theorem Y9 : AA zA0 103 = true := by kernel_rfl
theorem cU : AA zA0 104 = true := by kernel_rfl
theorem Wv : AA zA0 105 = true := by kernel_rfl
theorem cp : AA zA0 106 = true := by kernel_rfl
theorem ct : AA zA0 107 = true := by kernel_rfl
theorem bm : AA zA0 108 = true := by kernel_rfl
theorem aY : AA zA0 109 = true := by kernel_rfl
theorem cq : AA zA0 11 = true := by kernel_rfl
theorem Zq : AA zA0 113 = true := by kernel_rfl
theorem bQ : AA zA0 114 = true := by kernel_rfl
theorem aX : AA zA0 117 = true := by kernel_rfl
theorem bI : AA zA0 12 = true := by kernel_rfl
theorem UW : AA zA0 120 = true := by kernel_rfl
theorem bg : AA zA0 121 = true := by kernel_rfl
theorem bU : AA zA0 122 = true := by kernel_rfl
theorem ce : AA zA0 124 = true := by kernel_rfl
theorem cz : AA zA0 125 = true := by kernel_rfl
theorem bL : AA zA0 126 = true := by kernel_rfl
theorem Zv : AA zA0 127 = true := by kernel_rfl
theorem cE : AA zA0 128 = true := by kernel_rfl
theorem Xf : AA zA0 129 = true := by kernel_rfl
theorem Wq : AA zA0 13 = true := by kernel_rfl
theorem ZA : AA zA0 130 = true := by kernel_rfl
theorem bT : AA zA0 131 = true := by kernel_rfl
theorem ba : AA zA0 132 = true := by kernel_rfl
theorem cS : AA zA0 133 = true := by kernel_rfl
theorem bE : AA zA0 134 = true := by kernel_rfl
theorem cj : AA zA0 135 = true := by kernel_rfl
theorem aL : AA zA0 136 = true := by kernel_rfl
theorem cG : AA zA0 137 = true := by kernel_rfl
theorem Zu : AA zA0 138 = true := by kernel_rfl
theorem cO : AA zA0 139 = true := by kernel_rfl
theorem bK : AA zA0 15 = true := by kernel_rfl
theorem bO : AA zA0 150 = true := by kernel_rfl
theorem cY : AA zA0 151 = true := by kernel_rfl
theorem cA : AA zA0 152 = true := by kernel_rfl
theorem cQ : AA zA0 153 = true := by kernel_rfl
theorem cv : AA zA0 154 = true := by kernel_rfl
theorem WM : AA zA0 156 = true := by kernel_rfl
theorem aT : AA zA0 157 = true := by kernel_rfl
theorem aR : AA zA0 158 = true := by kernel_rfl
theorem cJ : AA zA0 159 = true := by kernel_rfl
theorem cc : AA zA0 160 = true := by kernel_rfl
theorem bG : AA zA0 161 = true := by kernel_rfl
theorem bj : AA zA0 162 = true := by kernel_rfl
theorem bF : AA zA0 163 = true := by kernel_rfl
theorem bC : AA zA0 164 = true := by kernel_rfl
theorem cI : AA zA0 165 = true := by kernel_rfl
theorem cr : AA zA0 166 = true := by kernel_rfl
theorem aP : AA zA0 167 = true := by kernel_rfl
theorem cD : AA zA0 17 = true := by kernel_rfl
theorem Zz : AA zA0 173 = true := by kernel_rfl
theorem Zt : AA zA0 174 = true := by kernel_rfl
theorem Zc : AA zA0 176 = true := by kernel_rfl
theorem bJ : AA zA0 177 = true := by kernel_rfl
theorem bz : AA zA0 178 = true := by kernel_rfl
theorem bR : AA zA0 18 = true := by kernel_rfl
theorem aO : AA zA0 180 = true := by kernel_rfl
theorem ZN : AA zA0 19 = true := by kernel_rfl
theorem dq : AA zA0 25 = true := by kernel_rfl
theorem dQ : AA zA0 30 = true := by kernel_rfl
theorem d8 : AA zA0 31 = true := by kernel_rfl
theorem XS : AA zA0 33 = true := by kernel_rfl
theorem ee : AA zA0 35 = true := by kernel_rfl
theorem ej : AA zA0 36 = true := by kernel_rfl
theorem aB : AA zA0 37 = true := by kernel_rfl
theorem Xc : AA zA0 38 = true := by kernel_rfl
theorem ec : AA zA0 39 = true := by kernel_rfl
theorem d3 : AA zA0 40 = true := by kernel_rfl
theorem bi : AA zA0 42 = true := by kernel_rfl
theorem d5 : AA zA0 43 = true := by kernel_rfl
theorem dV : AA zA0 44 = true := by kernel_rfl
theorem dp : AA zA0 45 = true := by kernel_rfl
theorem cu : AA zA0 46 = true := by kernel_rfl
theorem ei : AA zA0 47 = true := by kernel_rfl
theorem bA : AA zA0 48 = true := by kernel_rfl
theorem dN : AA zA0 50 = true := by kernel_rfl
theorem dK : AA zA0 51 = true := by kernel_rfl
theorem Y4 : AA zA0 52 = true := by kernel_rfl
theorem d7 : AA zA0 55 = true := by kernel_rfl
theorem d9 : AA zA0 56 = true := by kernel_rfl
theorem cV : AA zA0 57 = true := by kernel_rfl
theorem dP : AA zA0 58 = true := by kernel_rfl
theorem dW : AA zA0 59 = true := by kernel_rfl
theorem cH : AA zA0 60 = true := by kernel_rfl
theorem dS : AA zA0 61 = true := by kernel_rfl
theorem aZ : AA zA0 62 = true := by kernel_rfl
theorem dD : AA zA0 64 = true := by kernel_rfl
theorem bd : AA zA0 65 = true := by kernel_rfl
theorem Ro : AA zA0 66 = true := by kernel_rfl
theorem bo : AA zA0 67 = true := by kernel_rfl
theorem dU : AA zA0 68 = true := by kernel_rfl
theorem cP : AA zA0 69 = true := by kernel_rfl
theorem XG : AA zA0 70 = true := by kernel_rfl
theorem dB : AA zA0 71 = true := by kernel_rfl
theorem cF : AA zA0 72 = true := by kernel_rfl
theorem dn : AA zA0 73 = true := by kernel_rfl
theorem dZ : AA zA0 74 = true := by kernel_rfl
theorem dy : AA zA0 75 = true := by kernel_rfl
theorem d1 : AA zA0 77 = true := by kernel_rfl
theorem dM : AA zA0 78 = true := by kernel_rfl
theorem eo : AA zA0 79 = true := by kernel_rfl
theorem cC : AA zA0 80 = true := by kernel_rfl
theorem dL : AA zA0 81 = true := by kernel_rfl
theorem dz : AA zA0 82 = true := by kernel_rfl
theorem cN : AA zA0 83 = true := by kernel_rfl
theorem dA : AA zA0 85 = true := by kernel_rfl
theorem dm : AA zA0 87 = true := by kernel_rfl
theorem dj : AA zA0 88 = true := by kernel_rfl
theorem dY : AA zA0 89 = true := by kernel_rfl
theorem di : AA zA0 90 = true := by kernel_rfl
theorem bf : AA zA0 92 = true := by kernel_rfl
theorem dw : AA zA0 93 = true := by kernel_rfl
theorem dO : AA zA0 94 = true := by kernel_rfl
theorem dh : AA zA0 95 = true := by kernel_rfl
theorem Wl : AA zA0 96 = true := by kernel_rfl
theorem Yx : AA zA0 97 = true := by kernel_rfl
theorem aN : AA zA0 98 = true := by kernel_rfl
theorem dR : AA zA0 99 = true := by kernel_rfl
theorem S8 : P3 zA0 145 .u32 = true := by kernel_rfl
theorem Zo : P3 zA0 147 .u64 = true := by kernel_rfl
theorem XM : P3 zA0 3 .i64 = true := by kernel_rfl
theorem ep : P3 zA0 5 .u8 = true := by kernel_rfl
theorem Yu : P3 zA0 71 .u64 = true := by kernel_rfl
theorem UI : Tryz.prog.underlying 71 = some (.int .u64) := by kernel_rfl
theorem Z1 : Tryz.prog.underlying 9 = some .string := by kernel_rfl
theorem Rq : Tryz.prog.underlying 170 = some (.map 9 3) := by kernel_rfl
theorem N7 : Tryz.prog.underlying 67 = some (.map 71 4) := by kernel_rfl
theorem Y7 : IB zA0 136 = some [(0, 3), (3, 1), (4, 3), (7, 1)] := by kernel_rfl
theorem Zf : IB zA0 140 = some [(0, 3), (3, 1), (4, 3)] := by kernel_rfl
theorem QW : IB zA0 149 = some [(0, 1), (1, 1), (2, 1)] := by kernel_rfl
theorem R3 : IB zA0 29 = some [(0, 1), (1, 1), (2, 1), (3, 1)] := by kernel_rfl
theorem Jl : IB zA0 49 = some [(0, 1), (1, 1), (2, 1)] := by kernel_rfl
theorem Y5 : IB zA0 84 = some [(0, 1), (1, 1), (2, 1), (3, 1), (4, 1), (5, 1)] := by kernel_rfl
theorem YM : IB zA0 94 = some [(0, 1), (1, 1), (2, 1)] := by kernel_rfl
theorem Kg : sliceB zA0 125 140 = true := by kernel_rfl
theorem Hk : sliceB zA0 131 136 = true := by kernel_rfl
theorem HL : sliceB zA0 162 149 = true := by kernel_rfl
theorem K3 : sliceB zA0 22 5 = true := by kernel_rfl
theorem XB : sliceB zA0 23 101 = true := by kernel_rfl
theorem Ar : sliceB zA0 26 3 = true := by kernel_rfl
theorem Dl : sliceB zA0 27 84 = true := by kernel_rfl
theorem Fc : sliceB zA0 38 26 = true := by kernel_rfl
theorem Mr : sliceB zA0 46 49 = true := by kernel_rfl
theorem D4 : sliceB zA0 47 120 = true := by kernel_rfl
theorem Fo : sliceB zA0 61 4 = true := by kernel_rfl
theorem Fa : sliceB zA0 63 94 = true := by kernel_rfl
theorem Gy : sliceB zA0 66 71 = true := by kernel_rfl
theorem Ep : sliceB zA0 82 61 = true := by kernel_rfl
theorem aQ : (Tryz.prog.underlying 120).isSome = true := by kernel_rfl
theorem Uv : (Tryz.prog.underlying 145).isSome = true := by kernel_rfl
theorem W3 : (Tryz.prog.underlying 147).isSome = true := by kernel_rfl
theorem de : (Tryz.prog.underlying 3).isSome = true := by kernel_rfl
theorem Z3 : (Tryz.prog.underlying 5).isSome = true := by kernel_rfl
theorem YR : (Tryz.prog.underlying 71).isSome = true := by kernel_rfl
theorem VC : QE zA0 9 = true := by kernel_rfl
theorem Wt : HQ zA0 101 6 = true := by kernel_rfl
theorem EC : HQ zA0 120 1 = true := by kernel_rfl
theorem K4 : HQ zA0 136 8 = true := by kernel_rfl
theorem QK : HQ zA0 140 7 = true := by kernel_rfl
theorem IE : HQ zA0 149 3 = true := by kernel_rfl
theorem bt : HQ zA0 25 4 = true := by kernel_rfl
theorem G8 : HQ zA0 26 1 = true := by kernel_rfl
theorem az : HQ zA0 27 1 = true := by kernel_rfl
theorem Cu : HQ zA0 29 4 = true := by kernel_rfl
theorem Cx : HQ zA0 3 1 = true := by kernel_rfl
theorem PG : HQ zA0 4 1 = true := by kernel_rfl
theorem dg : HQ zA0 47 1 = true := by kernel_rfl
theorem A3 : HQ zA0 49 3 = true := by kernel_rfl
theorem ZM : HQ zA0 5 1 = true := by kernel_rfl
theorem Jy : HQ zA0 61 1 = true := by kernel_rfl
theorem dC : HQ zA0 66 1 = true := by kernel_rfl
theorem dT : HQ zA0 67 1 = true := by kernel_rfl
theorem L8 : HQ zA0 71 1 = true := by kernel_rfl
theorem XP : HQ zA0 82 1 = true := by kernel_rfl
theorem Dc : HQ zA0 84 6 = true := by kernel_rfl
theorem E9 : HQ zA0 94 3 = true := by kernel_rfl
theorem co : DS zA0 101 = some (.agg #[.int .u8 0, .int .u8 0, .int .u8 0, .bool false, .int .u16 0, .int .u16 0]) := by kernel_rfl
theorem Na : DS zA0 120 = some (.int .u8 0) := by kernel_rfl
theorem SE : DS zA0 136 = some (.agg #[.slice none 0 0, .slice none 0 0, .slice none 0 0, .int .i64 0, .int .i64 0, .int .i64 0, .int .i64 0, .slice none 0 0]) := by kernel_rfl
theorem R4 : DS zA0 140 = some (.agg #[.slice none 0 0, .slice none 0 0, .slice none 0 0, .int .i64 0, .int .i64 0, .int .i64 0, .int .i64 0]) := by kernel_rfl
theorem I8 : DS zA0 149 = some (.agg #[.int .i64 0, .int .i64 0, .int .i64 0]) := by kernel_rfl
theorem Vt : DS zA0 26 = some (.slice none 0 0) := by kernel_rfl
theorem Kx : DS zA0 29 = some (.agg #[.slice none 0 0, .slice none 0 0, .slice none 0 0, .slice none 0 0]) := by kernel_rfl
theorem IT : DS zA0 3 = some (.int .i64 0) := by kernel_rfl
theorem Tw : DS zA0 4 = some (.bool false) := by kernel_rfl
theorem EH : DS zA0 49 = some (.agg #[.slice none 0 0, .slice none 0 0, .slice none 0 0]) := by kernel_rfl
theorem ck : DS zA0 5 = some (.int .u8 0) := by kernel_rfl
theorem TL : DS zA0 61 = some (.slice none 0 0) := by kernel_rfl
theorem du : DS zA0 66 = some (.slice none 0 0) := by kernel_rfl
theorem d4 : DS zA0 67 = some (.map none) := by kernel_rfl
theorem S6 : DS zA0 71 = some (.int .u64 0) := by kernel_rfl
theorem IY : DS zA0 84 = some (.agg #[.int .i64 0, .int .i64 0, .int .i64 0, .bool false, .slice none 0 0, .slice none 0 0]) := by kernel_rfl
theorem K7 : DS zA0 94 = some (.agg #[.int .i64 0, .int .i64 0, .int .i64 0]) := by kernel_rfl
set_option maxRecDepth 10000
theorem JJ (N : Nat) (p0 : List Int) (p1 : Int) (r : Int) (h : Ek N p0 p1 = some r) : Ap zA0 65 [pD (.sl (p0.map DV)), iD p1] [] (iD r) := by
 unfold Ek at h
 refine cw (n := 14) (rs := [.tmp 4]) Tryz.func65 fun w0 S0 => ?_
 refine wq rfl (qa rfl (Ab (wp rfl (qw 2 rfl (AJ K3 rfl (AT rfl (Ab ?_)))))))
 refine Bb h (fun h => ?_) fun h => ?_
 ·refine wq rfl (qw 2 rfl ?_)
  refine BK h fun v2 a2 b2 h => qi K3 ZM a2 (Af b2) rfl (qk bb rfl (Jx Z3 XM rfl (qe rfl ?_)))
  obtain rfl := sj h
  refine Ae (sm [] [(4, iD ((wI .i64 v2)))] [] rfl rfl) (As ?_)
  exact ⟨⟨[_], tm, rfl⟩, tv⟩
 ·refine Aj (wq rfl (qe rfl ?_))
  obtain rfl := sj h
  refine Ae (sm [] [(4, iD 0)] [] rfl rfl) (As ?_)
  exact ⟨⟨[_], tm, rfl⟩, tv⟩
theorem Cl (N : Nat) (p0 : Al) (r : Bool) (h : A8 N p0 = some r) : Ap zA0 66 [.e (.agg (Ba p0))] [] (bD r) := by
 unfold A8 at h
 refine cw (n := 11) (rs := [.tmp 2]) Tryz.func66 fun w0 S0 => ?_
 refine wq rfl (qb rfl (qe rfl ?_))
 refine AQ h (fun v1 => mk [(2, bD v1)] []) (fun j1 h => ?_) (fun v1 h => ?_)
 ·refine Ag Aw rfl (qf Gj rfl (ql BV rfl (Ch rfl (qm rfl ?_))))
  refine Eo 6 h rfl (fun h => ?_) fun h => ?_
  ·refine qw 3 rfl (qp rfl (qe rfl ?_))
   exact sn [] h
  ·refine qf Gj rfl (ql BV rfl (Ch rfl (qp rfl (qe rfl ?_))))
   exact sn [] h
 ·obtain rfl := sj h
  refine Ae (sm [] [(2, bD v1)] [] rfl rfl) (As ?_)
  exact ⟨⟨[_], tm, rfl⟩, tv⟩
theorem Js (N : Nat) (p0 : Int) (p1 : Int) (p2 : Int) (p3 : Bool) (r : (List (List Bool))) (h : Ei N p0 p1 p2 p3 = some r) : Ap zA0 67 [iD p0, iD p1, pD (.val (.int .u16 p2)), bD p3] [(1, r.map (EX eB))] (oD (.own 0)) := by
 unfold Ei at h
 refine cw (n := 47) (rs := [.tmp 8]) Tryz.func67 fun w0 S0 => ?_
 refine wq rfl (qa rfl (Ab (wq rfl (qa rfl (Ab (wp rfl (qe rfl ?_)))))))
 refine AB (L := Co N p0 p1 p2 p3) h (fun v1 => mk [(0, iD p0), (1, iD p1), (2, pD (.val (.int .u16 p2))), (3, bD p3), (9, oD (.own 2001)), (10, iD v1.2)] [(2001, .vec 1 (v1.1.map (EX eB)))]) (fun v2 => mk [(9, oD (.own 2002))] [(2002, .vec 1 (v2.map (EX eB)))]) (fun _ _ => rfl) ((A6 9 2010 1 rfl rfl rfl).trans (sm [(2001, 2010)] _ _ rfl rfl)) (fun j1 n1 v1 h => ?_) (fun v2 s h hs => ?_)
 ·unfold Co at h
  refine wp rfl (qw 2 rfl (AT rfl (Ab ?_)))
  refine Bb h (fun h => ?_) fun h => ?_
  ·refine Aj (AL (AH (wq rfl (qa rfl (Ab (wp rfl (qe rfl ?_)))))))
   refine AB (L := Cq N p1 p2 p3 v1) h (fun v4 => mk [(0, iD p0), (1, iD p1), (2, pD (.val (.int .u16 p2))), (3, bD p3), (9, oD (.own 2003)), (10, iD v1.2), (11, oD (.own 2004)), (12, iD v4.2)] [(2003, .vec 1 (v1.1.map (EX eB))), (2004, .vec 1 (v4.1.map eB))]) (fun v5 => mk [(0, iD p0), (1, iD p1), (2, pD (.val (.int .u16 p2))), (3, bD p3), (9, oD (.own 2005)), (10, iD v1.2), (11, oD (.own 2006))] [(2005, .vec 1 (v1.1.map (EX eB))), (2006, .vec 1 (v5.map eB))]) (fun _ _ => rfl) ((A6 11 2009 1 rfl rfl rfl).trans (sm [(2003, 2001), (2004, 2009)] _ _ rfl rfl)) (fun j4 n4 v4 h => ?_) (fun v5 s h hs => ?_)
   ·unfold Cq at h
    refine wp rfl (qw 2 rfl (AT rfl (Ab ?_)))
    refine Bb h (fun h => ?_) fun h => ?_
    ·refine Aj ?_
     refine AQ h (fun v7 => mk [(0, iD p0), (1, iD p1), (2, pD (.val (.int .u16 p2))), (3, bD p3), (9, oD (.own 2007)), (10, iD v1.2), (11, oD (.own 2008)), (12, iD v4.2)] [(2007, .vec 1 (v1.1.map (EX eB))), (2008, .vec 1 (v7.map eB))]) (fun j7 h => ?_) (fun v7 h => ?_)
     ·refine AH (Ag Aw rfl (qw 3 rfl ?_))
      refine Eo 25 h rfl (fun h => ?_) fun h => ?_
      ·refine qw 2 rfl (Ch rfl (qp rfl (qm rfl ?_)))
       refine Eo 30 h rfl (fun h => ?_) fun h => ?_
       ·refine qw 8 rfl (qp rfl (Dp Fo PG Tw rfl ?_))
        refine FT h fun c10 h => Cy (f := eB) Fo Fo PG Wi Tw c10 rfl (qe rfl ?_)
        exact sn [(2007, 2003), (2008, 41)] h
       ·refine qw 2 rfl (Ny rfl (qm rfl (AX rfl ?_)))
        refine FT h fun c11 h => GQ rfl c11 (Ml rfl (by decide) (Ch rfl (qp rfl (Dp Fo PG Tw rfl ?_))))
        refine FT h fun c12 h => Cy (f := eB) Fo Fo PG Wi Tw c12 rfl (qe rfl ?_)
        exact sn [(2007, 2003), (2008, 41)] h
      ·refine qw 3 rfl (qp rfl (qw 3 rfl (Ny rfl (qm rfl (AX rfl ?_)))))
       refine FT h fun c13 h => GQ rfl c13 (Ml rfl (by decide) (Ch rfl (qp rfl (Dp Fo PG Tw rfl ?_))))
       refine FT h fun c14 h => Cy (f := eB) Fo Fo PG Wi Tw c14 rfl (qe rfl ?_)
       exact sn [(2007, 2003), (2008, 41)] h
     ·refine Ag Aw rfl (qm rfl (AX rfl (qe rfl ?_)))
      exact sn [(2003, 2007), (2004, 2008)] h
    ·refine AS ?_
     exact sn [(2005, 2003), (2006, 2004)] h
   ·refine Ae hs (Ag Aw rfl (qw 2 rfl (CQ (A9 2006 _ _ rfl rfl) (Dp Ep Jy TL rfl ?_))))
    refine FT h fun c15 h => Cy (f := (EX eB)) Ep Ep Jy Xh TL c15 rfl (qa rfl (Ab (Ag Aw rfl (qm rfl (AX rfl (qe rfl ?_))))))
    exact sn [(2001, 45)] h
  ·refine AS ?_
   exact sn [(2002, 2001)] h
 ·refine Ae hs (wq rfl (qm rfl (qe rfl ?_)))
  obtain rfl := sj h
  refine Ae (sm [(1000, 2002)] [(8, oD (.own 1000))] [(1000, .vec 1 (v2.map (EX eB)))] rfl rfl) (As ?_)
  exact ⟨⟨[_], tm, rfl⟩, ⟨rfl, tv⟩⟩
theorem NH (N : Nat) (p0 : BF) (r : Aa × Bool) (h : FR N p0 = some r) : Ap zA0 35 [.e (.agg (CN p0))] [(1, r.1.fa.map Ak), (1, r.1.fh.map Ak), (1, r.1.fq.map Ak), (6, r.1.fc.map AM)] (.tup [.agg [.own 0, .own 1, .own 2, .own 3], .one (.pure (.val (.bool r.2)))]) := by
 unfold FR at h
 refine cw (n := 152) (rs := [.cell 2 29, .tmp 3]) Tryz.func35 fun w0 S0 => ?_
 refine wq rfl (qb rfl (qz Kx rfl (qa rfl (Ab (AL ?_)))))
 refine AQ h (fun v1 => mk [(1, oD (.ptr 1 0)), (2, oD (.ptr 2 0)), (19, bD v1)] [(1, .box (CN p0)), (2, .box [.pure (.nil0), .pure (.nil0), .pure (.nil0), .pure (.nil0)])]) (fun j1 h => ?_) (fun v1 h => ?_)
 ·refine Ag Aw rfl (qf RP rfl (ql WI rfl (AJ K3 rfl (GB rfl (qm rfl ?_)))))
  refine Eo 14 h rfl (fun h => ?_) fun h => ?_
  ·refine qw 4 rfl (qp rfl (Ab ?_))
   exact sn [] h
  ·refine qf RX rfl (ql al rfl (AJ XB rfl (GB rfl (qp rfl (Ab ?_)))))
   exact sn [] h
 ·refine Bb h (fun h => ?_) fun h => ?_
  ·refine wq rfl (Bg Kx R3 rfl (qs Cu rfl (qe rfl ?_)))
   obtain rfl := sj h
   refine Ae ((Aq 2 0 2001 1 _ rfl rfl rfl rfl).trans ((Aq 2 1 2002 1 _ rfl rfl rfl rfl).trans ((Aq 2 2 2003 1 _ rfl rfl rfl rfl).trans ((Aq 2 3 2004 6 _ rfl rfl rfl rfl).trans (sm [(1000, 2001), (1001, 2002), (1002, 2003), (1003, 2004)] [(2, oD (.ptr 2 0)), (3, bD false)] [(2, .box [.own 1000, .own 1001, .own 1002, .own 1003]), (1000, .vec 1 ((([] : List Int)).map Ak)), (1001, .vec 1 ((([] : List Int)).map Ak)), (1002, .vec 1 ((([] : List Int)).map Ak)), (1003, .vec 6 ((([] : List Al)).map AM))] rfl rfl))))) (As ?_)
   exact ⟨⟨[_, _], ⟨.cellN _ _ _ _ _ _ _ rfl rfl Dq Cu rfl rfl (Jh rfl), tm⟩, rfl⟩, ⟨rfl, rfl, rfl, rfl, tv⟩⟩
  ·refine Aj (wq rfl (qz Kx rfl (Ab (wp rfl (qe rfl ?_)))))
   refine AB (L := CP N p0) h (fun v4 => mk [(1, oD (.ptr 1 0)), (2, oD (.ptr 2 0)), (4, oD (.ptr 4 0)), (5, iD v4.2.2.2)] [(1, .box (CN p0)), (2, .box [.pure (.nil0), .pure (.nil0), .pure (.nil0), .pure (.nil0)]), (4, .box [.own 2005, .own 2006, .own 2007, .pure (.nil0)]), (2005, .vec 1 (v4.1.map Ak)), (2006, .vec 1 (v4.2.1.map Ak)), (2007, .vec 1 (v4.2.2.1.map Ak))]) (fun v5 => mk [(1, oD (.ptr 1 0)), (2, oD (.ptr 2 0)), (4, oD (.ptr 4 0))] [(1, .box (CN p0)), (2, .box [.pure (.nil0), .pure (.nil0), .pure (.nil0), .pure (.nil0)]), (4, .box [.own 2008, .own 2009, .own 2010, .pure (.nil0)]), (2008, .vec 1 (v5.1.map Ak)), (2009, .vec 1 (v5.2.1.map Ak)), (2010, .vec 1 (v5.2.2.map Ak))]) (fun _ _ => rfl) ((Aq 4 0 2011 1 _ rfl rfl rfl rfl).trans ((Aq 4 1 2012 1 _ rfl rfl rfl rfl).trans ((Aq 4 2 2013 1 _ rfl rfl rfl rfl).trans (sm [(2005, 2011), (2006, 2012), (2007, 2013)] _ _ rfl rfl)))) (fun j4 n4 v4 h => ?_) (fun v5 s h hs => ?_)
   ·unfold CP at h
    refine wp rfl (qm rfl (qf RP rfl (ql WI rfl (AJ K3 rfl (AT rfl (Ab ?_))))))
    refine Bb h (fun h => ?_) fun h => ?_
    ·refine Aj (AL (AH (wq rfl (qf RP rfl (ql WI rfl (qm rfl ?_))))))
     refine BK h fun v7 a7 b7 h => qi K3 ZM a7 (Af b7) rfl (qk bb rfl (Ml rfl (by decide) (Jx Z3 XM rfl (AX rfl (qa rfl (Ab (wq rfl (qf A7 rfl (ql A1 rfl (qm rfl (Dp Ar Cx IT rfl ?_)))))))))))
     refine FT h fun c8 h => Cy (f := Ak) Ar Ar Cx JU IT c8 rfl (qf A7 rfl (qs G8 rfl (Ab (wq rfl (qf Fv rfl (ql A1 rfl (qf YN rfl (ql WI rfl (qm rfl ?_)))))))))
     refine BZ h fun v9 a9 h => Ax [] (JJ N p0.fh v4.2.2.2 v9 a9) bd rfl (qm rfl ?_)
     refine FT h fun c10 h => Ml rfl c10 (Dp Ar Cx IT rfl ?_)
     refine FT h fun c11 h => Cy (f := Ak) Ar Ar Cx JU IT c11 rfl (qf Fv rfl (qs G8 rfl (AO (by kernel_rfl) (Ag Aw rfl (qf GP rfl (ql A1 rfl (qf XR rfl (ql WI rfl (qm rfl ?_)))))))))
     refine BZ h fun v12 a12 h => Ax [] (JJ N p0.fq v4.2.2.2 v12 a12) bd rfl (qm rfl ?_)
     refine FT h fun c13 h => Ml rfl c13 (Dp Ar Cx IT rfl ?_)
     refine FT h fun c14 h => Cy (f := Ak) Ar Ar Cx JU IT c14 rfl (qf GP rfl (qs G8 rfl (AO (by kernel_rfl) (Ag Aw rfl (qm rfl (AX rfl (qe rfl ?_)))))))
     exact sn [(2005, 40), (2006, 51), (2007, 62)] h
    ·refine AS ?_
     exact sn [(2008, 2005), (2009, 2006), (2010, 2007)] h
   ·refine Ae hs (wp rfl (qe rfl ?_))
    refine AB (L := BA N p0 v5) h (fun v15 => mk [(1, oD (.ptr 1 0)), (2, oD (.ptr 2 0)), (4, oD (.ptr 4 0)), (7, iD v15.2)] [(1, .box (CN p0)), (2, .box [.pure (.nil0), .pure (.nil0), .pure (.nil0), .pure (.nil0)]), (4, .box [.own 2014, .own 2015, .own 2016, .own 2017]), (2014, .vec 1 (v5.1.map Ak)), (2015, .vec 1 (v5.2.1.map Ak)), (2016, .vec 1 (v5.2.2.map Ak)), (2017, .vec 6 (v15.1.map AM))]) (fun v16 => mk [(2, oD (.ptr 2 0)), (4, oD (.ptr 4 0))] [(2, .box [.pure (.nil0), .pure (.nil0), .pure (.nil0), .pure (.nil0)]), (4, .box [.own 2018, .own 2019, .own 2020, .own 2021]), (2018, .vec 1 (v5.1.map Ak)), (2019, .vec 1 (v5.2.1.map Ak)), (2020, .vec 1 (v5.2.2.map Ak)), (2021, .vec 6 (v16.map AM))]) (fun _ _ => rfl) ((Aq 4 3 2039 6 _ rfl rfl rfl rfl).trans (sm [(2014, 2008), (2015, 2009), (2016, 2010), (2017, 2039)] _ _ rfl rfl)) (fun j15 n15 v15 h => ?_) (fun v16 s h hs => ?_)
    ·unfold BA at h
     refine AL ?_
     refine AQ h (fun v17 => mk [(1, oD (.ptr 1 0)), (2, oD (.ptr 2 0)), (4, oD (.ptr 4 0)), (7, iD v15.2), (74, bD v17)] [(1, .box (CN p0)), (2, .box [.pure (.nil0), .pure (.nil0), .pure (.nil0), .pure (.nil0)]), (4, .box [.own 2022, .own 2023, .own 2024, .own 2025]), (2022, .vec 1 (v5.1.map Ak)), (2023, .vec 1 (v5.2.1.map Ak)), (2024, .vec 1 (v5.2.2.map Ak)), (2025, .vec 6 (v15.1.map AM))]) (fun j17 h => ?_) (fun v17 h => ?_)
     ·refine Ag Aw rfl (qm rfl (qf RX rfl (ql al rfl (AJ XB rfl (AT rfl (qm rfl ?_))))))
      refine Eo 69 h rfl (fun h => ?_) fun h => ?_
      ·refine qf A7 rfl (ql A1 rfl (Ef Ar rfl (GB rfl (qp rfl (Ab ?_)))))
       exact sn [(2022, 2014), (2023, 2015), (2024, 2016), (2025, 2017)] h
      ·refine qw 4 rfl (qp rfl (Ab ?_))
       exact sn [(2022, 2014), (2023, 2015), (2024, 2016), (2025, 2017)] h
     ·refine Bb h (fun h => ?_) fun h => ?_
      ·refine Aj (AL (AH (wq rfl (qf RX rfl (ql al rfl (qm rfl ?_))))))
       refine BK h fun v20 a20 b20 h => qi XB Wt a20 (Af b20) rfl (qK cT Wt rfl (qz co rfl (qs Wt rfl (Ab (wq rfl (qf WD rfl (ql bb rfl (Ml rfl (by decide) (Jx Z3 XM rfl (AX rfl (qf XA rfl (ql bb rfl (Jx Z3 XM rfl (qf A7 rfl (ql A1 rfl (Ef Ar rfl ?_))))))))))))))))
       refine FT h fun c21 h => Ml rfl c21 (qf WR rfl (ql bb rfl (Jx Z3 XM rfl (qf A7 rfl (ql A1 rfl (Ef Ar rfl ?_))))))
       refine FT h fun c22 h => Ml rfl c22 (Bg IY Y5 rfl (qz IY rfl (qs Dc rfl (AO (by kernel_rfl) ?_))))
       refine AQ h (fun v23 => mk [(1, oD (.ptr 1 0)), (2, oD (.ptr 2 0)), (4, oD (.ptr 4 0)), (7, iD v15.2), (8, oD (.ptr 8 0)), (9, oD (.ptr 9 0))] [(1, .box (CN p0)), (2, .box [.pure (.nil0), .pure (.nil0), .pure (.nil0), .pure (.nil0)]), (4, .box [.own 2026, .own 2027, .own 2028, .own 2029]), (8, .box (NQ v20)), (9, .box [iC ((wI .i64 (1 + (wI .i64 ((zB7 v20.fg 4)))))), iC ((zB7 ((wI .i64 v20.ff)) ((v5.1.length : Int)))), iC ((zB7 ((wI .i64 v20.fj)) ((v5.1.length : Int)))), .pure (.val (.bool v23)), .pure (.nil0), .pure (.nil0)]), (2026, .vec 1 (v5.1.map Ak)), (2027, .vec 1 (v5.2.1.map Ak)), (2028, .vec 1 (v5.2.2.map Ak)), (2029, .vec 6 (v15.1.map AM))]) (fun j23 h => ?_) (fun v23 h => ?_)
       ·refine Ag Aw rfl (qf Xk rfl (ql Tv rfl (qm rfl ?_)))
        refine Eo 104 h rfl (fun h => ?_) fun h => ?_
        ·refine qL GR Dc rfl ?_
         refine BZ h fun v25 a25 h => Ax [] (Cl N ((Al.mk ((wI .i64 (1 + (wI .i64 ((zB7 v20.fg 4)))))) ((zB7 ((wI .i64 v20.ff)) ((v5.1.length : Int)))) ((zB7 ((wI .i64 v20.fj)) ((v5.1.length : Int)))) false (([] : List (List Bool))) (([] : List (List Bool))))) v25 a25) Ro rfl (CD rfl (qp rfl (qf Jm rfl (qs PG rfl (Ab ?_)))))
         exact sn [(2026, 2022), (2027, 2023), (2028, 2024), (2029, 2025)] h
        ·refine qw 3 rfl (qp rfl (qf Jm rfl (qs PG rfl (Ab ?_))))
         exact sn [(2026, 2022), (2027, 2023), (2028, 2024), (2029, 2025)] h
       ·refine wq rfl (qf A7 rfl (ql A1 rfl (qf CY rfl (ql BV rfl ?_))))
        refine BK h fun v26 a26 b26 h => qI Ar Cx a26 (Af b26) rfl (qj BV (Af b26) rfl (qf A7 rfl (ql A1 rfl (qf HD rfl (ql BV rfl ?_)))))
        refine BK h fun v27 a27 b27 h => qI Ar Cx a27 (Af b27) rfl (qj BV (Af b27) rfl (qf Xm rfl (ql aM rfl ?_)))
        refine BZ h fun v28 a28 h => Ax [2030] (Js N v26 v27 v20.fy false v28 a28) bo rfl (qf Hg rfl (qs XP rfl (AO (by kernel_rfl) ?_)))
        refine AQ h (fun v29 => mk [(1, oD (.ptr 1 0)), (2, oD (.ptr 2 0)), (4, oD (.ptr 4 0)), (7, iD v15.2), (9, oD (.ptr 9 0))] [(1, .box (CN p0)), (2, .box [.pure (.nil0), .pure (.nil0), .pure (.nil0), .pure (.nil0)]), (4, .box [.own 2031, .own 2032, .own 2033, .own 2034]), (9, .box [iC ((wI .i64 (1 + (wI .i64 ((zB7 v20.fg 4)))))), iC ((zB7 ((wI .i64 v20.ff)) ((v5.1.length : Int)))), iC ((zB7 ((wI .i64 v20.fj)) ((v5.1.length : Int)))), .pure (.val (.bool v23)), .own 2035, .own 2036]), (2031, .vec 1 (v5.1.map Ak)), (2032, .vec 1 (v5.2.1.map Ak)), (2033, .vec 1 (v5.2.2.map Ak)), (2034, .vec 6 (v15.1.map AM)), (2035, .vec 1 (v28.map (EX eB))), (2036, .vec 1 (v29.map (EX eB)))]) (fun j29 h => ?_) (fun v29 h => ?_)
        ·refine wq rfl (qf Gj rfl (ql BV rfl (Ch rfl (Ab ?_))))
         refine Bb h (fun h => ?_) fun h => ?_
         ·refine Ag Aw rfl (qf A7 rfl (ql A1 rfl (qf CY rfl (ql BV rfl ?_))))
          refine BK h fun v31 a31 b31 h => qI Ar Cx a31 (Af b31) rfl (qj BV (Af b31) rfl (qf A7 rfl (ql A1 rfl (qf CY rfl (ql BV rfl ?_)))))
          refine BK h fun v32 a32 b32 h => qI Ar Cx a32 (Af b32) rfl (qj BV (Af b32) rfl (qf Wb rfl (ql aM rfl ?_)))
          refine BZ h fun v33 a33 h => Ax [2037] (Js N v31 v32 v20.fA true v33 a33) bo rfl (qf Fx rfl (qs XP rfl (AO (by kernel_rfl) ?_)))
          exact sn [(2031, 2026), (2032, 2027), (2033, 2028), (2034, 2029), (2035, 2030), (2036, 2037)] h
         ·refine Aj ?_
          exact ZO _ h ((Aq 9 5 2038 1 _ rfl rfl rfl rfl).trans (sm [(2031, 2026), (2032, 2027), (2033, 2028), (2034, 2029), (2035, 2030), (2036, 2038)] _ _ rfl rfl))
        ·refine Ag Aw rfl (qf Ca rfl (ql Hc rfl (qL GR Dc rfl (CQ (A9 2035 _ _ rfl rfl) (CQ (A9 2036 _ _ rfl rfl) (Dp Dl Dc IY rfl ?_))))))
         refine FT h fun c34 h => Cy (f := AM) Dl Dl Dc WP IY c34 rfl (qf Ca rfl (qs az rfl (Ab (Ag Aw rfl (qm rfl (AX rfl (qe rfl ?_)))))))
         exact sn [(2014, 2031), (2015, 2032), (2016, 2033), (2017, 149)] h
      ·refine AS ?_
       exact sn [(2018, 2022), (2019, 2023), (2020, 2024), (2021, 2025)] h
    ·refine Ae hs (wq rfl (qL Dq Cu rfl (qs Cu rfl (qe rfl ?_))))
     obtain rfl := sj h
     refine Ae (sm [(1000, 2018), (1001, 2019), (1002, 2020), (1003, 2021)] [(2, oD (.ptr 2 0)), (3, bD true)] [(2, .box [.own 1000, .own 1001, .own 1002, .own 1003]), (1000, .vec 1 (v5.1.map Ak)), (1001, .vec 1 (v5.2.1.map Ak)), (1002, .vec 1 (v5.2.2.map Ak)), (1003, .vec 6 (v16.map AM))] rfl rfl) (As ?_)
     exact ⟨⟨[_, _], ⟨.cellN _ _ _ _ _ _ _ rfl rfl Dq Cu rfl rfl (Jh rfl), tm⟩, rfl⟩, ⟨rfl, rfl, rfl, rfl, tv⟩⟩
theorem IF (N : Nat) (p0 : List (List Bool)) (p1 : Int) (p2 : Int) (r : Bool) (h : DK N p0 p1 p2 = some r) : Ap zA0 98 [pD (.sl (p0.map (EX eB))), iD p1, iD p2] [] (bD r) := by
 unfold DK at h
 refine cw (n := 24) (rs := [.tmp 6]) Tryz.func98 fun w0 S0 => ?_
 refine wq rfl (qa rfl (Ab (wp rfl (qm rfl (AJ Ep rfl (qm rfl (BC rfl (Ab ?_))))))))
 refine Bb h (fun h => ?_) fun h => ?_
 ·refine wq rfl (qe rfl ?_)
  obtain rfl := sj h
  refine Ae (sm [] [(6, bD false)] [] rfl rfl) (As ?_)
  exact ⟨⟨[_], tm, rfl⟩, tv⟩
 ·refine Aj (wp rfl (qe rfl ?_))
  refine AB (L := Cw N p0 p1 p2) h (fun v2 => mk [(0, pD (.sl (p0.map (EX eB)))), (1, iD p1), (2, iD p2), (7, iD v2)] []) (fun v3 => mk [] []) (fun _ _ => rfl) (sm [] _ _ rfl rfl) (fun j2 n2 v2 h => ?_) (fun v3 s h hs => ?_)
  ·unfold Cw at h
   refine wp rfl (qw 2 rfl (AT rfl (Ab ?_)))
   refine Bb h (fun h => ?_) fun h => ?_
   ·refine Aj (AL (AH (wq rfl (qw 2 rfl ?_))))
    refine BK h fun v5 a5 b5 h => qi Ep Jy a5 (Af b5) rfl (qk Or rfl (AJ Fo rfl (qm rfl (BC rfl (Ab ?_)))))
    refine Bb h (fun h => ?_) fun h => ?_
    ·refine wq rfl (qe rfl ?_)
     obtain rfl := sj h
     refine Ae (sm [] [(6, bD false)] [] rfl rfl) (As ?_)
     exact ⟨⟨[_], tm, rfl⟩, tv⟩
    ·refine Aj (Ag Aw rfl (qm rfl (AX rfl (qe rfl ?_))))
     exact sn [] h
   ·refine AS ?_
    exact sn [] h
  ·refine Ae hs (wq rfl (qe rfl ?_))
   obtain rfl := sj h
   refine Ae (sm [] [(6, bD true)] [] rfl rfl) (As ?_)
   exact ⟨⟨[_], tm, rfl⟩, tv⟩
theorem Md (N : Nat) (p0 : Aa) (p1 : Al) (r : Int) (h : ES N p0 p1 = some r) : Ap zA0 64 [.e (.agg (Ah p0)), .e (.agg (Ba p1))] [] (iD r) := by
 unfold ES at h
 refine cw (n := 101) (rs := [.tmp 4]) Tryz.func64 fun w0 S0 => ?_
 refine wq rfl (qb rfl (qb rfl (qa rfl (Ab (AL ?_)))))
 refine AQ h (fun v1 => mk [(2, oD (.ptr 2 0)), (3, oD (.ptr 3 0)), (22, bD v1)] [(2, .box (Ah p0)), (3, .box (Ba p1))]) (fun j1 h => ?_) (fun v1 h => ?_)
 ·refine Ag Aw rfl (qf Gj rfl (ql BV rfl (AT rfl (qm rfl ?_))))
  refine Eo 10 h rfl (fun h => ?_) fun h => ?_
  ·refine qw 3 rfl (qp rfl (qw 4 rfl (qu rfl (qu rfl (qn rfl (qp rfl (Ab ?_)))))))
   exact sn [] h
  ·refine qf Gj rfl (ql BV rfl (GB rfl (qp rfl (qm rfl ?_))))
   refine Eo 15 h rfl (fun h => ?_) fun h => ?_
   ·refine qw 3 rfl (qu rfl (qu rfl (qn rfl (qp rfl (Ab ?_)))))
    exact sn [] h
   ·refine qf Jm rfl (ql Tv rfl (qm rfl ?_))
    refine Eo 18 h rfl (fun h => ?_) fun h => ?_
    ·refine qL GR Dc rfl ?_
     refine BZ h fun v5 a5 h => Ax [] (Cl N p1 v5 a5) Ro rfl (qp rfl (qp rfl (Ab ?_)))
     exact sn [] h
    ·refine qw 2 rfl (qp rfl (qp rfl (Ab ?_)))
     exact sn [] h
 ·refine Bb h (fun h => ?_) fun h => ?_
  ·refine wq rfl (qe rfl ?_)
   obtain rfl := sj h
   refine Ae (sm [] [(4, iD 1)] [] rfl rfl) (As ?_)
   exact ⟨⟨[_], tm, rfl⟩, tv⟩
  ·refine Aj (wq rfl (qf A7 rfl (ql A1 rfl (AJ Ar rfl (qa rfl (Ab (AL ?_)))))))
   refine AQ h (fun v7 => mk [(2, oD (.ptr 2 0)), (3, oD (.ptr 3 0)), (45, bD v7)] [(2, .box (Ah p0)), (3, .box (Ba p1))]) (fun j7 h => ?_) (fun v7 h => ?_)
   ·refine Ag Aw rfl (qf CY rfl (ql BV rfl (AT rfl (qm rfl ?_))))
    refine Eo 29 h rfl (fun h => ?_) fun h => ?_
    ·refine qw 4 rfl (qp rfl (qw 4 rfl (qp rfl (qw 5 rfl (qp rfl (Ab ?_))))))
     exact sn [] h
    ·refine qf CY rfl (ql BV rfl (qm rfl (E0 rfl (qp rfl (qm rfl ?_)))))
     refine Eo 35 h rfl (fun h => ?_) fun h => ?_
     ·refine qw 3 rfl (qp rfl (qw 5 rfl (qp rfl (Ab ?_))))
      exact sn [] h
     ·refine qf HD rfl (ql BV rfl (AT rfl (qp rfl (qm rfl ?_))))
      refine Eo 40 h rfl (fun h => ?_) fun h => ?_
      ·refine qw 4 rfl (qp rfl (Ab ?_))
       exact sn [] h
      ·refine qf HD rfl (ql BV rfl (qm rfl (E0 rfl (qp rfl (Ab ?_)))))
       exact sn [] h
   ·refine Bb h (fun h => ?_) fun h => ?_
    ·refine wq rfl (qe rfl ?_)
     obtain rfl := sj h
     refine Ae (sm [] [(4, iD 4)] [] rfl rfl) (As ?_)
     exact ⟨⟨[_], tm, rfl⟩, tv⟩
    ·refine Aj (wp rfl (qf Hg rfl (ql Io rfl (qf A7 rfl (ql A1 rfl (qf CY rfl (ql BV rfl ?_)))))))
     refine BK h fun v12 a12 b12 h => qi Ar Cx a12 (Af b12) rfl (qk BV rfl (qf A7 rfl (ql A1 rfl (qf HD rfl (ql BV rfl ?_)))))
     refine BK h fun v13 a13 b13 h => qi Ar Cx a13 (Af b13) rfl (qk BV rfl ?_)
     refine BZ h fun v14 a14 h => Ax [] (IF N p1.fr v12 v13 v14 a14) aN rfl (CD rfl (AO (by kernel_rfl) ?_))
     refine Bb h (fun h => ?_) fun h => ?_
     ·refine wq rfl (qe rfl ?_)
      obtain rfl := sj h
      refine Ae (sm [] [(4, iD 6)] [] rfl rfl) (As ?_)
      exact ⟨⟨[_], tm, rfl⟩, tv⟩
     ·refine Aj (wp rfl (qf Gj rfl (ql BV rfl (BC rfl (Ab ?_)))))
      refine Bb h (fun h => ?_) fun h => ?_
      ·refine wp rfl (qf Fx rfl (ql Io rfl (AJ Ep rfl (BC rfl (Ab ?_)))))
       refine Bb h (fun h => ?_) fun h => ?_
       ·refine wq rfl (qe rfl ?_)
        obtain rfl := sj h
        refine Ae (sm [] [(4, iD 6)] [] rfl rfl) (As ?_)
        exact ⟨⟨[_], tm, rfl⟩, tv⟩
       ·refine Aj (wq rfl (qe rfl ?_))
        obtain rfl := sj h
        refine Ae (sm [] [(4, iD 0)] [] rfl rfl) (As ?_)
        exact ⟨⟨[_], tm, rfl⟩, tv⟩
      ·refine Aj (wp rfl (qf Fx rfl (ql Io rfl (qf A7 rfl (ql A1 rfl (qf CY rfl (ql BV rfl ?_)))))))
       refine BK h fun v18 a18 b18 h => qi Ar Cx a18 (Af b18) rfl (qk BV rfl (qf A7 rfl (ql A1 rfl (qf CY rfl (ql BV rfl ?_)))))
       refine BK h fun v19 a19 b19 h => qi Ar Cx a19 (Af b19) rfl (qk BV rfl ?_)
       refine BZ h fun v20 a20 h => Ax [] (IF N p1.fk v18 v19 v20 a20) aN rfl (CD rfl (AO (by kernel_rfl) ?_))
       refine Bb h (fun h => ?_) fun h => ?_
       ·refine wq rfl (qe rfl ?_)
        obtain rfl := sj h
        refine Ae (sm [] [(4, iD 6)] [] rfl rfl) (As ?_)
        exact ⟨⟨[_], tm, rfl⟩, tv⟩
       ·refine Aj (wp rfl (qe rfl ?_))
        refine AB (L := B4 N p1) h (fun v22 => mk [(3, oD (.ptr 3 0)), (6, iD v22)] [(3, .box (Ba p1))]) (fun v23 => mk [] []) (fun _ _ => rfl) (sm [] _ _ rfl rfl) (fun j22 n22 v22 h => ?_) (fun v23 s h hs => ?_)
        ·unfold B4 at h
         refine wp rfl (qm rfl (qf Fx rfl (ql Io rfl (AJ Ep rfl (AT rfl (Ab ?_))))))
         refine Bb h (fun h => ?_) fun h => ?_
         ·refine Aj (AL (AH (wq rfl (qf Fx rfl (ql Io rfl (qm rfl ?_))))))
          refine BK h fun v25 a25 b25 h => qi Ep Jy a25 (Af b25) rfl (qk Or rfl (qm rfl ?_))
          refine BK h fun v26 a26 b26 h => qi Fo PG a26 (Af b26) rfl (qk Tv rfl (CD rfl (Ab ?_)))
          refine Bb h (fun h => ?_) fun h => ?_
          ·refine wq rfl (qe rfl ?_)
           obtain rfl := sj h
           refine Ae (sm [] [(4, iD 1)] [] rfl rfl) (As ?_)
           exact ⟨⟨[_], tm, rfl⟩, tv⟩
          ·refine Aj (Ag Aw rfl (qm rfl (AX rfl (qe rfl ?_))))
           exact sn [] h
         ·refine AS ?_
          exact sn [] h
        ·refine Ae hs (wq rfl (qe rfl ?_))
         obtain rfl := sj h
         refine Ae (sm [] [(4, iD 0)] [] rfl rfl) (As ?_)
         exact ⟨⟨[_], tm, rfl⟩, tv⟩
theorem Ed (N : Nat) (p0 : Aa) (r : Int) (h : BE N p0 = some r) : Ap zA0 33 [.e (.agg (Ah p0))] [] (iD r) := by
 unfold BE at h
 refine cw (n := 102) (rs := [.tmp 2]) Tryz.func33 fun w0 S0 => ?_
 refine wq rfl (qb rfl (qa rfl (Ab (AL ?_))))
 refine AQ h (fun v1 => mk [(1, oD (.ptr 1 0)), (16, bD v1)] [(1, .box (Ah p0))]) (fun j1 h => ?_) (fun v1 h => ?_)
 ·refine Ag Aw rfl (qf A7 rfl (ql A1 rfl (AJ Ar rfl (GB rfl (qm rfl ?_)))))
  refine Eo 11 h rfl (fun h => ?_) fun h => ?_
  ·refine qw 4 rfl (qp rfl (Ab ?_))
   exact sn [] h
  ·refine qf Ca rfl (ql Hc rfl (AJ Dl rfl (GB rfl (qp rfl (Ab ?_)))))
   exact sn [] h
 ·refine Bb h (fun h => ?_) fun h => ?_
  ·refine wq rfl (qe rfl ?_)
   obtain rfl := sj h
   refine Ae (sm [] [(2, iD 3)] [] rfl rfl) (As ?_)
   exact ⟨⟨[_], tm, rfl⟩, tv⟩
  ·refine Aj (AL ?_)
   refine AQ h (fun v4 => mk [(1, oD (.ptr 1 0)), (32, bD v4)] [(1, .box (Ah p0))]) (fun j4 h => ?_) (fun v4 h => ?_)
   ·refine Ag Aw rfl (qf Fv rfl (ql A1 rfl (AJ Ar rfl (qf A7 rfl (ql A1 rfl (AJ Ar rfl (BC rfl (qm rfl ?_))))))))
    refine Eo 24 h rfl (fun h => ?_) fun h => ?_
    ·refine qw 7 rfl (qp rfl (Ab ?_))
     exact sn [] h
    ·refine qf GP rfl (ql A1 rfl (AJ Ar rfl (qf A7 rfl (ql A1 rfl (AJ Ar rfl (BC rfl (qp rfl (Ab ?_))))))))
     exact sn [] h
   ·refine Bb h (fun h => ?_) fun h => ?_
    ·refine wq rfl (qe rfl ?_)
     obtain rfl := sj h
     refine Ae (sm [] [(2, iD 6)] [] rfl rfl) (As ?_)
     exact ⟨⟨[_], tm, rfl⟩, tv⟩
    ·refine Aj (wp rfl (qe rfl ?_))
     refine AB (L := Bk N p0) h (fun v7 => mk [(1, oD (.ptr 1 0)), (3, iD v7)] [(1, .box (Ah p0))]) (fun v8 => mk [(1, oD (.ptr 1 0))] [(1, .box (Ah p0))]) (fun _ _ => rfl) (sm [] _ _ rfl rfl) (fun j7 n7 v7 h => ?_) (fun v8 s h hs => ?_)
     ·unfold Bk at h
      refine wp rfl (qm rfl (qf A7 rfl (ql A1 rfl (AJ Ar rfl (AT rfl (Ab ?_))))))
      refine Bb h (fun h => ?_) fun h => ?_
      ·refine Aj (AL (AH (wq rfl (qf A7 rfl (ql A1 rfl (qm rfl ?_))))))
       refine BK h fun v10 a10 b10 h => qi Ar Cx a10 (Af b10) rfl (qk BV rfl (qe rfl ?_))
       refine AQ h (fun v11 => mk [(1, oD (.ptr 1 0)), (3, iD v7), (84, bD v11)] [(1, .box (Ah p0))]) (fun j11 h => ?_) (fun v11 h => ?_)
       ·refine Ag Aw rfl (qm rfl (AT rfl (qm rfl ?_)))
        refine Eo 47 h rfl (fun h => ?_) fun h => ?_
        ·refine qw 2 rfl (qp rfl (qw 7 rfl (qp rfl (qw 8 rfl (qp rfl (qw 7 rfl (qp rfl (qw 8 rfl (qp rfl (Ab ?_))))))))))
         exact sn [] h
        ·refine qm rfl (GB rfl (qp rfl (qm rfl ?_)))
         refine Eo 51 h rfl (fun h => ?_) fun h => ?_
         ·refine qw 6 rfl (qp rfl (qw 8 rfl (qp rfl (qw 7 rfl (qp rfl (qw 8 rfl (qp rfl (Ab ?_))))))))
          exact sn [] h
         ·refine qf Fv rfl (ql A1 rfl (qm rfl ?_))
          refine BK h fun v14 a14 b14 h => qi Ar Cx a14 (Af b14) rfl (qk BV rfl (AT rfl (qp rfl (qm rfl ?_))))
          refine Eo 59 h rfl (fun h => ?_) fun h => ?_
          ·refine qw 7 rfl (qp rfl (qw 7 rfl (qp rfl (qw 8 rfl (qp rfl (Ab ?_))))))
           exact sn [] h
          ·refine qf Fv rfl (ql A1 rfl (qm rfl ?_))
           refine BK h fun v16 a16 b16 h => qi Ar Cx a16 (Af b16) rfl (qk BV rfl (qm rfl (E0 rfl (qp rfl (qm rfl ?_)))))
           refine Eo 68 h rfl (fun h => ?_) fun h => ?_
           ·refine qw 6 rfl (qp rfl (qw 8 rfl (qp rfl (Ab ?_))))
            exact sn [] h
           ·refine qf GP rfl (ql A1 rfl (qm rfl ?_))
            refine BK h fun v18 a18 b18 h => qi Ar Cx a18 (Af b18) rfl (qk BV rfl (AT rfl (qp rfl (qm rfl ?_))))
            refine Eo 76 h rfl (fun h => ?_) fun h => ?_
            ·refine qw 7 rfl (qp rfl (Ab ?_))
             exact sn [] h
            ·refine qf GP rfl (ql A1 rfl (qm rfl ?_))
             refine BK h fun v20 a20 b20 h => qi Ar Cx a20 (Af b20) rfl (qk BV rfl (qm rfl (E0 rfl (qp rfl (Ab ?_)))))
             exact sn [] h
       ·refine Bb h (fun h => ?_) fun h => ?_
        ·refine wq rfl (qe rfl ?_)
         obtain rfl := sj h
         refine Ae (sm [] [(2, iD 7)] [] rfl rfl) (As ?_)
         exact ⟨⟨[_], tm, rfl⟩, tv⟩
        ·refine Aj (Ag Aw rfl (qm rfl (AX rfl (qe rfl ?_))))
         exact sn [] h
      ·refine AS ?_
       exact sn [] h
     ·refine Ae hs (wp rfl (qe rfl ?_))
      refine AB (L := Be N p0) h (fun v22 => mk [(1, oD (.ptr 1 0)), (5, iD v22)] [(1, .box (Ah p0))]) (fun v23 => mk [] []) (fun _ _ => rfl) (sm [] _ _ rfl rfl) (fun j22 n22 v22 h => ?_) (fun v23 s h hs => ?_)
      ·unfold Be at h
       refine wp rfl (qm rfl (qf Ca rfl (ql Hc rfl (AJ Dl rfl (AT rfl (Ab ?_))))))
       refine Bb h (fun h => ?_) fun h => ?_
       ·refine Aj (AL (AH (wq rfl (qL Dq Cu rfl (qf Ca rfl (ql Hc rfl (qm rfl ?_)))))))
        refine BK h fun v25 a25 b25 h => qi Dl Dc a25 (Af b25) rfl (qK GR Dc rfl ?_)
        refine BZ h fun v26 a26 h => Ax [] (Md N p0 v25 v26 a26) dD rfl (qa rfl (AO (by kernel_rfl) (wq rfl (qm rfl (BC rfl (Ab ?_))))))
        refine Bb h (fun h => ?_) fun h => ?_
        ·refine wq rfl (qm rfl (qe rfl ?_))
         obtain rfl := sj h
         refine Ae (sm [] [(2, iD v26)] [] rfl rfl) (As ?_)
         exact ⟨⟨[_], tm, rfl⟩, tv⟩
        ·refine Aj (Ag Aw rfl (qm rfl (AX rfl (qe rfl ?_))))
         exact sn [] h
       ·refine AS ?_
        exact sn [] h
      ·refine Ae hs (wq rfl (qe rfl ?_))
       obtain rfl := sj h
       refine Ae (sm [] [(2, iD 0)] [] rfl rfl) (As ?_)
       exact ⟨⟨[_], tm, rfl⟩, tv⟩
theorem M8 (N : Nat) (p0 : Int) (r : (List Int)) (h : HE N p0 = some r) : Ap zA0 55 [iD p0] [(1, r.map Ak)] (oD (.own 0)) := by
 unfold HE at h
 refine cw (n := 21) (rs := [.tmp 2]) Tryz.func55 fun w0 S0 => ?_
 refine wq rfl (qa rfl (Ab (wq rfl (qa rfl (Ab (wp rfl (qe rfl ?_)))))))
 refine AB (L := Fz N p0) h (fun v1 => mk [(0, iD p0), (3, oD (.own 2001)), (4, iD v1.2)] [(2001, .vec 1 (v1.1.map Ak))]) (fun v2 => mk [(3, oD (.own 2002))] [(2002, .vec 1 (v2.map Ak))]) (fun _ _ => rfl) ((A6 3 2004 1 rfl rfl rfl).trans (sm [(2001, 2004)] _ _ rfl rfl)) (fun j1 n1 v1 h => ?_) (fun v2 s h hs => ?_)
 ·unfold Fz at h
  refine wp rfl (qw 2 rfl ?_)
  refine FT h fun c3 h => GQ rfl c3 (GB rfl (Ab ?_))
  refine Bb h (fun h => ?_) fun h => ?_
  ·refine Aj ?_
   refine AQ h (fun v5 => mk [(0, iD p0), (3, oD (.own 2003)), (4, iD v1.2)] [(2003, .vec 1 (v5.map Ak))]) (fun j5 h => ?_) (fun v5 h => ?_)
   ·refine AH (wq rfl (qw 2 rfl ?_))
    refine FT h fun c6 h => GQ rfl c6 (Ml rfl (by decide) (Ch rfl (Ab ?_)))
    refine Bb h (fun h => ?_) fun h => ?_
    ·refine Ag Aw rfl (qw 2 rfl (Dp Ar Cx IT rfl ?_))
     refine FT h fun c8 h => Cy (f := Ak) Ar Ar Cx JU IT c8 rfl (qe rfl ?_)
     exact sn [(2003, 19)] h
    ·refine Aj ?_
     exact sn [(2003, 2001)] h
   ·refine Ag Aw rfl (qm rfl (AX rfl (qe rfl ?_)))
    exact sn [(2001, 2003)] h
  ·refine AS ?_
   exact sn [(2002, 2001)] h
 ·refine Ae hs (wq rfl (qm rfl (qe rfl ?_)))
  obtain rfl := sj h
  refine Ae (sm [(1000, 2002)] [(2, oD (.own 1000))] [(1000, .vec 1 (v2.map Ak))] rfl rfl) (As ?_)
  exact ⟨⟨[_], tm, rfl⟩, ⟨rfl, tv⟩⟩
theorem Lg (N : Nat) (p0 : List Int) (p1 : List Int) (r : Bool) (h : GK N p0 p1 = some r) : Ap zA0 56 [pD (.sl (p0.map Ak)), pD (.sl (p1.map Ak))] [] (bD r) := by
 unfold GK at h
 refine cw (n := 40) (rs := [.tmp 4]) Tryz.func56 fun w0 S0 => ?_
 refine wq rfl (qa rfl (Ab (wp rfl (qm rfl (AJ Ar rfl (qm rfl (AJ Ar rfl (BC rfl (Ab ?_)))))))))
 refine Bb h (fun h => ?_) fun h => ?_
 ·refine wq rfl (qm rfl (AJ Ar rfl (qm rfl (AJ Ar rfl (AT rfl (qe rfl ?_))))))
  obtain rfl := sj h
  refine Ae (sm [] [(4, bD ((decide ((p0.length : Int) < (p1.length : Int)))))] [] rfl rfl) (As ?_)
  exact ⟨⟨[_], tm, rfl⟩, tv⟩
 ·refine Aj (wp rfl (qe rfl ?_))
  refine AB (L := EJ N p0 p1) h (fun v2 => mk [(0, pD (.sl (p0.map Ak))), (1, pD (.sl (p1.map Ak))), (5, iD v2)] []) (fun v3 => mk [] []) (fun _ _ => rfl) (sm [] _ _ rfl rfl) (fun j2 n2 v2 h => ?_) (fun v3 s h hs => ?_)
  ·unfold EJ at h
   refine wp rfl (qw 2 rfl (AJ Ar rfl (AT rfl (Ab ?_))))
   refine Bb h (fun h => ?_) fun h => ?_
   ·refine Aj (AL (AH (wq rfl (qw 2 rfl ?_))))
    refine BK h fun v5 a5 b5 h => qi Ar Cx a5 (Af b5) rfl (qk BV rfl (qw 2 rfl ?_))
    refine BK h fun v6 a6 b6 h => qi Ar Cx a6 (Af b6) rfl (qk BV rfl (BC rfl (AO (by kernel_rfl) ?_)))
    refine Bb h (fun h => ?_) fun h => ?_
    ·refine wq rfl (qw 2 rfl ?_)
     refine BK h fun v8 a8 b8 h => qi Ar Cx a8 (Af b8) rfl (qk BV rfl (qw 2 rfl ?_))
     refine BK h fun v9 a9 b9 h => qi Ar Cx a9 (Af b9) rfl (qk BV rfl (AT rfl (qa rfl (AO (by kernel_rfl) ?_))))
     obtain rfl := sj h
     refine Ae (sm [] [(4, bD ((decide (v8 < v9))))] [] rfl rfl) (As ?_)
     exact ⟨⟨[_], tm, rfl⟩, tv⟩
    ·refine Aj (Ag Aw rfl (qm rfl (AX rfl (qe rfl ?_))))
     exact sn [] h
   ·refine AS ?_
    exact sn [] h
  ·refine Ae hs (wq rfl (qe rfl ?_))
   obtain rfl := sj h
   refine Ae (sm [] [(4, bD false)] [] rfl rfl) (As ?_)
   exact ⟨⟨[_], tm, rfl⟩, tv⟩
theorem MC (N : Nat) (p0 : Int) (r : (List (List Int))) (h : C3 N p0 = some r) : Ap zA0 30 [iD p0] [(1, r.map (EX Ak))] (oD (.own 0)) := by
 unfold C3 at h
 refine cw (n := 53) (rs := [.tmp 2]) Tryz.func30 fun w0 S0 => ?_
 refine wq rfl (qa rfl (Ab (wq rfl (qa rfl (Ab (wp rfl (qe rfl ?_)))))))
 refine AB (L := Ff N p0) h (fun v1 => mk [(0, iD p0), (3, oD (.own 2001)), (4, iD v1.2)] [(2001, .vec 1 (v1.1.map (EX Ak)))]) (fun v2 => mk [(3, oD (.own 2002))] [(2002, .vec 1 (v2.map (EX Ak)))]) (fun _ _ => rfl) ((A6 3 2007 1 rfl rfl rfl).trans (sm [(2001, 2007)] _ _ rfl rfl)) (fun j1 n1 v1 h => ?_) (fun v2 s h hs => ?_)
 ·unfold Ff at h
  refine wp rfl (qw 2 rfl ?_)
  refine FT h fun c3 h => I7 rfl c3 (AT rfl (Ab ?_))
  refine Bb h (fun h => ?_) fun h => ?_
  ·refine Aj (AL (AH (wq rfl (qw 2 rfl ?_))))
   refine BZ h fun v5 a5 h => Ax [2003] (M8 N v1.2 v5 a5) d7 rfl (CQ (A9 2003 _ _ rfl rfl) (Dp Fc G8 Vt rfl ?_))
   refine FT h fun c6 h => Cy (f := (EX Ak)) Fc Fc G8 Zk Vt c6 rfl (qa rfl (Ab (wq rfl (qm rfl (Ef Fc rfl (J4 rfl (qe rfl ?_)))))))
   refine AB (L := Fd N) h (fun v7 => mk [(0, iD p0), (3, oD (.own 2004)), (4, iD v1.2), (5, iD v7.2)] [(2004, .vec 1 (v7.1.map (EX Ak)))]) (fun v8 => mk [(0, iD p0), (3, oD (.own 2005)), (4, iD v1.2)] [(2005, .vec 1 (v8.map (EX Ak)))]) (fun _ _ => rfl) (sm [(2004, 16)] _ _ rfl rfl) (fun j7 n7 v7 h => ?_) (fun v8 s h hs => ?_)
   ·unfold Fd at h
    refine AL ?_
    refine AQ h (fun v9 => mk [(0, iD p0), (3, oD (.own 2006)), (4, iD v1.2), (5, iD v7.2), (33, bD v9)] [(2006, .vec 1 (v7.1.map (EX Ak)))]) (fun j9 h => ?_) (fun v9 h => ?_)
    ·refine Ag Aw rfl (qm rfl (GB rfl (qm rfl ?_)))
     refine Eo 22 h rfl (fun h => ?_) fun h => ?_
     ·refine qw 2 rfl ?_
      refine BK h fun v11 a11 b11 h => qI Fc G8 a11 (Af b11) rfl (qj A1 (Af b11) rfl (qw 2 rfl (J4 rfl ?_)))
      refine BK h fun v12 a12 b12 h => qI Fc G8 a12 (Af b12) rfl (qj A1 (Af b12) rfl ?_)
      refine BZ h fun v13 a13 h => Ax [] (Lg N v11 v12 v13 a13) d9 rfl (qp rfl (AO (by kernel_rfl) ?_))
      exact sn [(2006, 2004)] h
     ·refine qw 10 rfl (qp rfl (AO (by kernel_rfl) ?_))
      exact sn [(2006, 2004)] h
    ·refine Bb h (fun h => ?_) fun h => ?_
     ·refine Aj (AL (AH (Ag Aw rfl (qw 4 rfl (J4 rfl (qw 2 rfl (J4 rfl ?_)))))))
      refine BK h fun v15 a15 b15 h => qI Fc G8 a15 (Af b15) rfl (qj A1 (Af b15) rfl (qw 2 rfl ?_))
      refine BK h fun v16 a16 b16 h => qI Fc G8 a16 (Af b16) rfl (qj A1 (Af b16) rfl ?_)
      refine BK h fun v17 a17 b17 h => qI Fc G8 a17 (Af b17) rfl ?_
      refine Dy rfl rfl rfl rfl (Af b17) rfl G8 rfl (I3 rfl) (Dr (EX Ak) v7.1 _ v15) ?_
      refine BK h fun v18 a18 b18 h => qI Fc G8 a18 (Af b18) rfl ?_
      refine Dy rfl rfl rfl rfl (Af b18) rfl G8 rfl (I3 rfl) (Dr (EX Ak) (v7.1.set ((v7.2).toNat) v15) _ v16) ?_
      refine AO (by kernel_rfl) (Ag Aw rfl (qm rfl (J4 rfl (qe rfl ?_))))
      exact sn [(2004, 2006)] h
     ·refine AS ?_
      exact sn [(2005, 2006)] h
   ·refine Ae hs (Ag Aw rfl (qm rfl (AX rfl (qe rfl ?_))))
    exact sn [(2001, 2005)] h
  ·refine AS ?_
   exact sn [(2002, 2001)] h
 ·refine Ae hs (wq rfl (qm rfl (qe rfl ?_)))
  obtain rfl := sj h
  refine Ae (sm [(1000, 2002)] [(2, oD (.own 1000))] [(1000, .vec 1 (v2.map (EX Ak)))] rfl rfl) (As ?_)
  exact ⟨⟨[_], tm, rfl⟩, ⟨rfl, tv⟩⟩
theorem I9 (N : Nat) (p0 : List Int) (p1 : Int) (r : Int) (h : DZ N p0 p1 = some r) : Ap zA0 57 [pD (.sl (p0.map Ak)), iD p1] [] (iD r) := by
 unfold DZ at h
 refine cw (n := 19) (rs := [.tmp 4]) Tryz.func57 fun w0 S0 => ?_
 refine wq rfl (qa rfl (Ab (wp rfl (qe rfl ?_))))
 refine AB (L := Ce N p0 p1) h (fun v1 => mk [(0, pD (.sl (p0.map Ak))), (1, iD p1), (5, iD v1)] []) (fun v2 => mk [] []) (fun _ _ => rfl) (sm [] _ _ rfl rfl) (fun j1 n1 v1 h => ?_) (fun v2 s h hs => ?_)
 ·unfold Ce at h
  refine wp rfl (qw 2 rfl (AJ Ar rfl (AT rfl (Ab ?_))))
  refine Bb h (fun h => ?_) fun h => ?_
  ·refine Aj (AL (AH (wq rfl (qw 2 rfl ?_))))
   refine BK h fun v4 a4 b4 h => qi Ar Cx a4 (Af b4) rfl (qk BV rfl (qm rfl (Ch rfl (Ab ?_))))
   refine Bb h (fun h => ?_) fun h => ?_
   ·refine wq rfl (qm rfl (qe rfl ?_))
    obtain rfl := sj h
    refine Ae (sm [] [(4, iD v1)] [] rfl rfl) (As ?_)
    exact ⟨⟨[_], tm, rfl⟩, tv⟩
   ·refine Aj (Ag Aw rfl (qm rfl (AX rfl (qe rfl ?_))))
    exact sn [] h
  ·refine AS ?_
   exact sn [] h
 ·refine Ae hs (wq rfl (qe rfl ?_))
  obtain rfl := sj h
  refine Ae (sm [] [(4, iD ((-1)))] [] rfl rfl) (As ?_)
  exact ⟨⟨[_], tm, rfl⟩, tv⟩
theorem IQ (N : Nat) (p0 : List (List Bool)) (r : (List (List Bool))) (h : DL N p0 = some r) : Ap zA0 92 [pD (.sl (p0.map (EX eB)))] [(1, r.map (EX eB))] (oD (.own 0)) := by
 unfold DL at h
 refine cw (n := 21) (rs := [.tmp 2]) Tryz.func92 fun w0 S0 => ?_
 refine wq rfl (qa rfl (Ab (wq rfl (qa rfl (Ab (wp rfl (qe rfl ?_)))))))
 refine AB (L := Cz N p0) h (fun v1 => mk [(0, pD (.sl (p0.map (EX eB)))), (3, oD (.own 2001)), (4, iD v1.2)] [(2001, .vec 1 (v1.1.map (EX eB)))]) (fun v2 => mk [(3, oD (.own 2002))] [(2002, .vec 1 (v2.map (EX eB)))]) (fun _ _ => rfl) ((A6 3 2003 1 rfl rfl rfl).trans (sm [(2001, 2003)] _ _ rfl rfl)) (fun j1 n1 v1 h => ?_) (fun v2 s h hs => ?_)
 ·unfold Cz at h
  refine wp rfl (qw 2 rfl (AJ Ep rfl (AT rfl (Ab ?_))))
  refine Bb h (fun h => ?_) fun h => ?_
  ·refine Aj (AL (AH (Ag Aw rfl (qm rfl (Dp Fo PG Tw rfl (qw 2 rfl ?_))))))
   refine BK h fun v4 a4 b4 h => qi Ep Jy a4 (Af b4) rfl (qk Or rfl ?_)
   refine FT h fun c5 h => I0 (f := eB) Fo Fo PG Wi Tw (fun _ => rfl) c5 rfl (CQ (A9 17 _ _ rfl rfl) (Dp Ep Jy TL rfl ?_))
   refine FT h fun c6 h => Cy (f := (EX eB)) Ep Ep Jy Xh TL c6 rfl (qa rfl (Ab (Ag Aw rfl (qm rfl (AX rfl (qe rfl ?_))))))
   exact sn [(2001, 19)] h
  ·refine AS ?_
   exact sn [(2002, 2001)] h
 ·refine Ae hs (wq rfl (qm rfl (qe rfl ?_)))
  obtain rfl := sj h
  refine Ae (sm [(1000, 2002)] [(2, oD (.own 1000))] [(1000, .vec 1 (v2.map (EX eB)))] rfl rfl) (As ?_)
  exact ⟨⟨[_], tm, rfl⟩, ⟨rfl, tv⟩⟩
theorem Lj (N : Nat) (p0 : Al) (p1 : Int) (p2 : Int) (r : Al) (h : Fw N p0 p1 p2 = some r) : Ap zA0 58 [.e (.agg (Ba p0)), iD p1, iD p2] [(1, r.fr.map (EX eB)), (1, r.fk.map (EX eB))] (.e (.agg [iC r.fg, iC r.ff, iC r.fj, .pure (.val (.bool r.ft)), .own 0, .own 1])) := by
 unfold Fw at h
 refine cw (n := 20) (rs := [.cell 6 84]) Tryz.func58 fun w0 S0 => ?_
 refine wq rfl (qb rfl (qz IY rfl (Ab (wq rfl (qf Gj rfl (ql BV rfl (qw 2 rfl (qf Jm rfl (ql Tv rfl (qf Hg rfl (ql Io rfl ?_)))))))))))
 refine BZ h fun v1 a1 h => Ax [2001] (IQ N p0.fr v1 a1) bf rfl (qf Fx rfl (ql Io rfl ?_))
 refine BZ h fun v2 a2 h => Ax [2002] (IQ N p0.fk v2 a2) bf rfl (Bg IY Y5 rfl (qs Dc rfl (AO (by kernel_rfl) ?_)))
 obtain rfl := sj h
 refine Ae (sm [(1000, 2001), (1001, 2002)] [(6, oD (.ptr 6 0))] [(6, .box [iC p0.fg, iC p1, iC p2, .pure (.val (.bool p0.ft)), .own 1000, .own 1001]), (1000, .vec 1 (v1.map (EX eB))), (1001, .vec 1 (v2.map (EX eB)))] rfl rfl) (As ?_)
 exact ⟨⟨[_], ⟨.cellN _ _ _ _ _ _ _ rfl rfl GR Dc rfl rfl (Jh rfl), tv⟩, rfl⟩, ⟨rfl, rfl, tv⟩⟩
theorem KP (N : Nat) (p0 : Aa) (p1 : List Int) (r : Aa × Int) (h : D0 N p0 p1 = some r) : Ap zA0 31 [.e (.agg (Ah p0)), pD (.sl (p1.map Ak))] [(1, r.1.fa.map Ak), (1, r.1.fh.map Ak), (1, r.1.fq.map Ak), (6, r.1.fc.map AM)] (.tup [.agg [.own 0, .own 1, .own 2, .own 3], .one (iC r.2)]) := by
 unfold D0 at h
 refine cw (n := 124) (rs := [.cell 4 29, .tmp 5]) Tryz.func31 fun w0 S0 => ?_
 refine wq rfl (qb rfl (qz Kx rfl (qa rfl (Ab (wp rfl (qL Dq Cu rfl ?_))))))
 refine BZ h fun v1 a1 h => Ax [] (Ed N p0 v1 a1) XS rfl (qa rfl (Ab (wq rfl (qm rfl (BC rfl (Ab ?_))))))
 refine Bb h (fun h => ?_) fun h => ?_
 ·refine wq rfl (Bg Kx R3 rfl (qm rfl (qs Cu rfl (qe rfl ?_))))
  obtain rfl := sj h
  refine Ae ((Aq 4 0 2001 1 _ rfl rfl rfl rfl).trans ((Aq 4 1 2002 1 _ rfl rfl rfl rfl).trans ((Aq 4 2 2003 1 _ rfl rfl rfl rfl).trans ((Aq 4 3 2004 6 _ rfl rfl rfl rfl).trans (sm [(1000, 2001), (1001, 2002), (1002, 2003), (1003, 2004)] [(4, oD (.ptr 4 0)), (5, iD v1)] [(4, .box [.own 1000, .own 1001, .own 1002, .own 1003]), (1000, .vec 1 ((([] : List Int)).map Ak)), (1001, .vec 1 ((([] : List Int)).map Ak)), (1002, .vec 1 ((([] : List Int)).map Ak)), (1003, .vec 6 ((([] : List Al)).map AM))] rfl rfl))))) (As ?_)
  exact ⟨⟨[_, _], ⟨.cellN _ _ _ _ _ _ _ rfl rfl Dq Cu rfl rfl (Jh rfl), tm⟩, rfl⟩, ⟨rfl, rfl, rfl, rfl, tv⟩⟩
 ·refine Aj (wp rfl (qe rfl ?_))
  refine AB (L := AZ N p1) h (fun v3 => mk [(1, pD (.sl (p1.map Ak))), (2, oD (.ptr 2 0)), (4, oD (.ptr 4 0)), (7, iD v3)] [(2, .box (Ah p0)), (4, .box [.pure (.nil0), .pure (.nil0), .pure (.nil0), .pure (.nil0)])]) (fun v4 => mk [(1, pD (.sl (p1.map Ak))), (2, oD (.ptr 2 0)), (4, oD (.ptr 4 0))] [(2, .box (Ah p0)), (4, .box [.pure (.nil0), .pure (.nil0), .pure (.nil0), .pure (.nil0)])]) (fun _ _ => rfl) (sm [] _ _ rfl rfl) (fun j3 n3 v3 h => ?_) (fun v4 s h hs => ?_)
  ·unfold AZ at h
   refine wp rfl (qw 2 rfl (AJ Ar rfl (AT rfl (Ab ?_))))
   refine Bb h (fun h => ?_) fun h => ?_
   ·refine Aj (AL (AH (wq rfl (qw 2 rfl ?_))))
    refine BK h fun v6 a6 b6 h => qi Ar Cx a6 (Af b6) rfl (qk BV rfl (qw 2 rfl (J4 rfl ?_)))
    refine BK h fun v7 a7 b7 h => qi Ar Cx a7 (Af b7) rfl (qk BV rfl (U4 rfl (AO (by kernel_rfl) ?_)))
    refine Bb h (fun h => ?_) fun h => ?_
    ·refine wq rfl (Bg Kx R3 rfl (qs Cu rfl (qe rfl ?_)))
     obtain rfl := sj h
     refine Ae ((Aq 4 0 2005 1 _ rfl rfl rfl rfl).trans ((Aq 4 1 2006 1 _ rfl rfl rfl rfl).trans ((Aq 4 2 2007 1 _ rfl rfl rfl rfl).trans ((Aq 4 3 2008 6 _ rfl rfl rfl rfl).trans (sm [(1000, 2005), (1001, 2006), (1002, 2007), (1003, 2008)] [(4, oD (.ptr 4 0)), (5, iD 1)] [(4, .box [.own 1000, .own 1001, .own 1002, .own 1003]), (1000, .vec 1 ((([] : List Int)).map Ak)), (1001, .vec 1 ((([] : List Int)).map Ak)), (1002, .vec 1 ((([] : List Int)).map Ak)), (1003, .vec 6 ((([] : List Al)).map AM))] rfl rfl))))) (As ?_)
     exact ⟨⟨[_, _], ⟨.cellN _ _ _ _ _ _ _ rfl rfl Dq Cu rfl rfl (Jh rfl), tm⟩, rfl⟩, ⟨rfl, rfl, rfl, rfl, tv⟩⟩
    ·refine Aj (Ag Aw rfl (qm rfl (AX rfl (qe rfl ?_))))
     exact sn [] h
   ·refine AS ?_
    exact sn [] h
  ·refine Ae hs (wq rfl (qz Kx rfl (Ab (wp rfl (qe rfl ?_)))))
   refine AB (L := CL N p0 p1) h (fun v9 => mk [(1, pD (.sl (p1.map Ak))), (2, oD (.ptr 2 0)), (4, oD (.ptr 4 0)), (8, oD (.ptr 8 0)), (9, iD v9.2.2.2)] [(2, .box (Ah p0)), (4, .box [.pure (.nil0), .pure (.nil0), .pure (.nil0), .pure (.nil0)]), (8, .box [.own 2009, .own 2010, .own 2011, .pure (.nil0)]), (2009, .vec 1 (v9.1.map Ak)), (2010, .vec 1 (v9.2.1.map Ak)), (2011, .vec 1 (v9.2.2.1.map Ak))]) (fun v10 => mk [(1, pD (.sl (p1.map Ak))), (2, oD (.ptr 2 0)), (4, oD (.ptr 4 0)), (8, oD (.ptr 8 0))] [(2, .box (Ah p0)), (4, .box [.pure (.nil0), .pure (.nil0), .pure (.nil0), .pure (.nil0)]), (8, .box [.own 2012, .own 2013, .own 2014, .pure (.nil0)]), (2012, .vec 1 (v10.1.map Ak)), (2013, .vec 1 (v10.2.1.map Ak)), (2014, .vec 1 (v10.2.2.map Ak))]) (fun _ _ => rfl) ((Aq 8 0 2022 1 _ rfl rfl rfl rfl).trans ((Aq 8 1 2023 1 _ rfl rfl rfl rfl).trans ((Aq 8 2 2024 1 _ rfl rfl rfl rfl).trans (sm [(2009, 2022), (2010, 2023), (2011, 2024)] _ _ rfl rfl)))) (fun j9 n9 v9 h => ?_) (fun v10 s h hs => ?_)
   ·unfold CL at h
    refine wp rfl (qw 2 rfl (AJ Ar rfl (AT rfl (Ab ?_))))
    refine Bb h (fun h => ?_) fun h => ?_
    ·refine Aj (AL (AH (wq rfl (qw 2 rfl ?_))))
     refine BK h fun v12 a12 b12 h => qi Ar Cx a12 (Af b12) rfl (qk BV rfl (qa rfl (Ab (AL ?_))))
     refine AQ h (fun v13 => mk [(1, pD (.sl (p1.map Ak))), (2, oD (.ptr 2 0)), (4, oD (.ptr 4 0)), (8, oD (.ptr 8 0)), (9, iD v9.2.2.2), (10, iD v12), (56, bD v13)] [(2, .box (Ah p0)), (4, .box [.pure (.nil0), .pure (.nil0), .pure (.nil0), .pure (.nil0)]), (8, .box [.own 2015, .own 2016, .own 2017, .pure (.nil0)]), (2015, .vec 1 (v9.1.map Ak)), (2016, .vec 1 (v9.2.1.map Ak)), (2017, .vec 1 (v9.2.2.1.map Ak))]) (fun j13 h => ?_) (fun v13 h => ?_)
     ·refine Ag Aw rfl (qm rfl (AT rfl (qm rfl ?_)))
      refine Eo 50 h rfl (fun h => ?_) fun h => ?_
      ·refine qw 5 rfl (qp rfl (Ab ?_))
       exact sn [(2015, 2009), (2016, 2010), (2017, 2011)] h
      ·refine qm rfl (qf A7 rfl (ql A1 rfl (AJ Ar rfl (E0 rfl (qp rfl (Ab ?_))))))
       exact sn [(2015, 2009), (2016, 2010), (2017, 2011)] h
     ·refine Bb h (fun h => ?_) fun h => ?_
      ·refine wq rfl (Bg Kx R3 rfl (qs Cu rfl (qe rfl ?_)))
       obtain rfl := sj h
       refine Ae ((Aq 4 0 2018 1 _ rfl rfl rfl rfl).trans ((Aq 4 1 2019 1 _ rfl rfl rfl rfl).trans ((Aq 4 2 2020 1 _ rfl rfl rfl rfl).trans ((Aq 4 3 2021 6 _ rfl rfl rfl rfl).trans (sm [(1000, 2018), (1001, 2019), (1002, 2020), (1003, 2021)] [(4, oD (.ptr 4 0)), (5, iD 4)] [(4, .box [.own 1000, .own 1001, .own 1002, .own 1003]), (1000, .vec 1 ((([] : List Int)).map Ak)), (1001, .vec 1 ((([] : List Int)).map Ak)), (1002, .vec 1 ((([] : List Int)).map Ak)), (1003, .vec 6 ((([] : List Al)).map AM))] rfl rfl))))) (As ?_)
       exact ⟨⟨[_, _], ⟨.cellN _ _ _ _ _ _ _ rfl rfl Dq Cu rfl rfl (Jh rfl), tm⟩, rfl⟩, ⟨rfl, rfl, rfl, rfl, tv⟩⟩
      ·refine Aj (wq rfl (qf A7 rfl (ql A1 rfl (qf A7 rfl (ql A1 rfl (qm rfl ?_))))))
       refine BK h fun v16 a16 b16 h => qi Ar Cx a16 (Af b16) rfl (qk BV rfl (Dp Ar Cx IT rfl ?_))
       refine FT h fun c17 h => Cy (f := Ak) Ar Ar Cx JU IT c17 rfl (qf A7 rfl (qs G8 rfl (AO (by kernel_rfl) (wq rfl (qf Fv rfl (ql A1 rfl (qf Fv rfl (ql A1 rfl (qm rfl ?_)))))))))
       refine BK h fun v18 a18 b18 h => qi Ar Cx a18 (Af b18) rfl (qk BV rfl (Dp Ar Cx IT rfl ?_))
       refine FT h fun c19 h => Cy (f := Ak) Ar Ar Cx JU IT c19 rfl (qf Fv rfl (qs G8 rfl (AO (by kernel_rfl) (Ag Aw rfl (qf GP rfl (ql A1 rfl (qf GP rfl (ql A1 rfl (qm rfl ?_)))))))))
       refine BK h fun v20 a20 b20 h => qi Ar Cx a20 (Af b20) rfl (qk BV rfl (Dp Ar Cx IT rfl ?_))
       refine FT h fun c21 h => Cy (f := Ak) Ar Ar Cx JU IT c21 rfl (qf GP rfl (qs G8 rfl (AO (by kernel_rfl) (Ag Aw rfl (qm rfl (AX rfl (qe rfl ?_)))))))
       exact sn [(2009, 66), (2010, 76), (2011, 86)] h
    ·refine AS ?_
     exact sn [(2012, 2009), (2013, 2010), (2014, 2011)] h
   ·refine Ae hs (wp rfl (qe rfl ?_))
    refine AB (L := BD N p0 p1) h (fun v22 => mk [(1, pD (.sl (p1.map Ak))), (2, oD (.ptr 2 0)), (4, oD (.ptr 4 0)), (8, oD (.ptr 8 0)), (11, iD v22.2)] [(2, .box (Ah p0)), (4, .box [.pure (.nil0), .pure (.nil0), .pure (.nil0), .pure (.nil0)]), (8, .box [.own 2025, .own 2026, .own 2027, .own 2028]), (2025, .vec 1 (v10.1.map Ak)), (2026, .vec 1 (v10.2.1.map Ak)), (2027, .vec 1 (v10.2.2.map Ak)), (2028, .vec 6 (v22.1.map AM))]) (fun v23 => mk [(4, oD (.ptr 4 0)), (8, oD (.ptr 8 0))] [(4, .box [.pure (.nil0), .pure (.nil0), .pure (.nil0), .pure (.nil0)]), (8, .box [.own 2029, .own 2030, .own 2031, .own 2032]), (2029, .vec 1 (v10.1.map Ak)), (2030, .vec 1 (v10.2.1.map Ak)), (2031, .vec 1 (v10.2.2.map Ak)), (2032, .vec 6 (v23.map AM))]) (fun _ _ => rfl) ((Aq 8 3 2041 6 _ rfl rfl rfl rfl).trans (sm [(2025, 2012), (2026, 2013), (2027, 2014), (2028, 2041)] _ _ rfl rfl)) (fun j22 n22 v22 h => ?_) (fun v23 s h hs => ?_)
    ·unfold BD at h
     refine wp rfl (qm rfl (qf Ca rfl (ql Hc rfl (AJ Dl rfl (AT rfl (Ab ?_))))))
     refine Bb h (fun h => ?_) fun h => ?_
     ·refine Aj ?_
      refine AQ h (fun v25 => mk [(1, pD (.sl (p1.map Ak))), (2, oD (.ptr 2 0)), (4, oD (.ptr 4 0)), (8, oD (.ptr 8 0)), (11, iD v22.2)] [(2, .box (Ah p0)), (4, .box [.pure (.nil0), .pure (.nil0), .pure (.nil0), .pure (.nil0)]), (8, .box [.own 2033, .own 2034, .own 2035, .own 2036]), (2033, .vec 1 (v10.1.map Ak)), (2034, .vec 1 (v10.2.1.map Ak)), (2035, .vec 1 (v10.2.2.map Ak)), (2036, .vec 6 (v25.map AM))]) (fun j25 h => ?_) (fun v25 h => ?_)
      ·refine AH (wq rfl (qf Ca rfl (ql Hc rfl (qm rfl ?_))))
       refine BK h fun v26 a26 b26 h => qi Dl Dc a26 (Af b26) rfl (qK GR Dc rfl (qz IY rfl (qs Dc rfl (Ab (wq rfl (qm rfl (qf CY rfl (ql BV rfl ?_))))))))
       refine BZ h fun v27 a27 h => Ax [] (I9 N p1 v26.ff v27 a27) cV rfl (qm rfl (qf HD rfl (ql BV rfl ?_)))
       refine BZ h fun v28 a28 h => Ax [] (I9 N p1 v26.fj v28 a28) cV rfl (qa rfl (qa rfl (AO (by kernel_rfl) ?_)))
       refine AQ h (fun v29 => mk [(1, pD (.sl (p1.map Ak))), (2, oD (.ptr 2 0)), (4, oD (.ptr 4 0)), (8, oD (.ptr 8 0)), (11, iD v22.2), (12, oD (.ptr 12 0)), (13, iD v27), (14, iD v28), (113, bD v29)] [(2, .box (Ah p0)), (4, .box [.pure (.nil0), .pure (.nil0), .pure (.nil0), .pure (.nil0)]), (8, .box [.own 2037, .own 2038, .own 2039, .own 2040]), (12, .box (Ba v26)), (2037, .vec 1 (v10.1.map Ak)), (2038, .vec 1 (v10.2.1.map Ak)), (2039, .vec 1 (v10.2.2.map Ak)), (2040, .vec 6 (v22.1.map AM))]) (fun j29 h => ?_) (fun v29 h => ?_)
       ·refine Ag Aw rfl (qm rfl (E0 rfl (qm rfl ?_)))
        refine Eo 110 h rfl (fun h => ?_) fun h => ?_
        ·refine qm rfl (E0 rfl (qp rfl (Ab ?_)))
         exact sn [(2037, 2025), (2038, 2026), (2039, 2027), (2040, 2028)] h
        ·refine qw 2 rfl (qp rfl (Ab ?_))
         exact sn [(2037, 2025), (2038, 2026), (2039, 2027), (2040, 2028)] h
       ·refine Bb h (fun h => ?_) fun h => ?_
        ·refine Ag Aw rfl (qf Ca rfl (ql Hc rfl (qL GR Dc rfl (qw 2 rfl ?_))))
         refine BZ h fun v32 a32 h => Ax [] ((Lj N v26 v27 v28 v32 a32).share rfl) dP rfl (Dp Dl Dc IY rfl ?_)
         refine FT h fun c33 h => Cy (f := AM) Dl Dl Dc WP IY c33 rfl (qf Ca rfl (qs az rfl (AO (by kernel_rfl) ?_)))
         exact sn [(2033, 2037), (2034, 2038), (2035, 2039), (2036, 121)] h
        ·refine Aj ?_
         exact sn [(2033, 2037), (2034, 2038), (2035, 2039), (2036, 2040)] h
      ·refine Ag Aw rfl (qm rfl (AX rfl (qe rfl ?_)))
       exact sn [(2025, 2033), (2026, 2034), (2027, 2035), (2028, 2036)] h
     ·refine AS ?_
      exact sn [(2029, 2025), (2030, 2026), (2031, 2027), (2032, 2028)] h
    ·refine Ae hs (wq rfl (qL Dq Cu rfl (qs Cu rfl (qe rfl ?_))))
     obtain rfl := sj h
     refine Ae (sm [(1000, 2029), (1001, 2030), (1002, 2031), (1003, 2032)] [(4, oD (.ptr 4 0)), (5, iD 0)] [(4, .box [.own 1000, .own 1001, .own 1002, .own 1003]), (1000, .vec 1 (v10.1.map Ak)), (1001, .vec 1 (v10.2.1.map Ak)), (1002, .vec 1 (v10.2.2.map Ak)), (1003, .vec 6 (v23.map AM))] rfl rfl) (As ?_)
     exact ⟨⟨[_, _], ⟨.cellN _ _ _ _ _ _ _ rfl rfl Dq Cu rfl rfl (Jh rfl), tm⟩, rfl⟩, ⟨rfl, rfl, rfl, rfl, tv⟩⟩
theorem Mb (N : Nat) (p0 : Aa) (r : Ac × Int) (h : E2 N p0 = some r) : Ap zA0 59 [.e (.agg (Ah p0))] [(1, r.1.fd.map Ak), (1, r.1.fb.map Ak), (1, r.1.fe.map DV)] (.tup [.agg [.own 0, .own 1, .own 2], .one (iC r.2)]) := by
 unfold E2 at h
 refine cw (n := 68) (rs := [.cell 2 49, .tmp 3]) Tryz.func59 fun w0 S0 => ?_
 refine wq rfl (qb rfl (qz EH rfl (qa rfl (Ab (wp rfl (qL Dq Cu rfl ?_))))))
 refine BZ h fun v1 a1 h => Ax [] (Ed N p0 v1 a1) XS rfl (qa rfl (Ab (wq rfl (qm rfl (BC rfl (Ab ?_))))))
 refine Bb h (fun h => ?_) fun h => ?_
 ·refine wq rfl (Bg EH Jl rfl (qm rfl (qs A3 rfl (qe rfl ?_))))
  obtain rfl := sj h
  refine Ae ((Aq 2 0 2001 1 _ rfl rfl rfl rfl).trans ((Aq 2 1 2002 1 _ rfl rfl rfl rfl).trans ((Aq 2 2 2003 1 _ rfl rfl rfl rfl).trans (sm [(1000, 2001), (1001, 2002), (1002, 2003)] [(2, oD (.ptr 2 0)), (3, iD v1)] [(2, .box [.own 1000, .own 1001, .own 1002]), (1000, .vec 1 ((([] : List Int)).map Ak)), (1001, .vec 1 ((([] : List Int)).map Ak)), (1002, .vec 1 ((([] : List Int)).map DV))] rfl rfl)))) (As ?_)
  exact ⟨⟨[_, _], ⟨.cellN _ _ _ _ _ _ _ rfl rfl B8 A3 rfl rfl (Jh rfl), tm⟩, rfl⟩, ⟨rfl, rfl, rfl, tv⟩⟩
 ·refine Aj (wq rfl (qz EH rfl (Ab (wp rfl (qe rfl ?_)))))
  refine AB (L := Cf N p0) h (fun v3 => mk [(1, oD (.ptr 1 0)), (2, oD (.ptr 2 0)), (5, oD (.ptr 5 0)), (6, iD v3.2.2)] [(1, .box (Ah p0)), (2, .box [.pure (.nil0), .pure (.nil0), .pure (.nil0)]), (5, .box [.own 2004, .own 2005, .pure (.nil0)]), (2004, .vec 1 (v3.1.map Ak)), (2005, .vec 1 (v3.2.1.map Ak))]) (fun v4 => mk [(1, oD (.ptr 1 0)), (2, oD (.ptr 2 0)), (5, oD (.ptr 5 0))] [(1, .box (Ah p0)), (2, .box [.pure (.nil0), .pure (.nil0), .pure (.nil0)]), (5, .box [.own 2006, .own 2007, .pure (.nil0)]), (2006, .vec 1 (v4.1.map Ak)), (2007, .vec 1 (v4.2.map Ak))]) (fun _ _ => rfl) ((Aq 5 0 2008 1 _ rfl rfl rfl rfl).trans ((Aq 5 1 2009 1 _ rfl rfl rfl rfl).trans (sm [(2004, 2008), (2005, 2009)] _ _ rfl rfl))) (fun j3 n3 v3 h => ?_) (fun v4 s h hs => ?_)
  ·unfold Cf at h
   refine wp rfl (qm rfl (qf A7 rfl (ql A1 rfl (AJ Ar rfl (AT rfl (Ab ?_))))))
   refine Bb h (fun h => ?_) fun h => ?_
   ·refine Aj (AL (AH (wq rfl (qf Db rfl (ql A1 rfl (qf Fv rfl (ql A1 rfl (qm rfl ?_))))))))
    refine BK h fun v6 a6 b6 h => qi Ar Cx a6 (Af b6) rfl (qk BV rfl (Dp Ar Cx IT rfl ?_))
    refine FT h fun c7 h => Cy (f := Ak) Ar Ar Cx JU IT c7 rfl (qf Db rfl (qs G8 rfl (AO (by kernel_rfl) (Ag Aw rfl (qf BO rfl (ql A1 rfl (Dp Ar Cx IT rfl ?_)))))))
    refine FT h fun c8 h => Cy (f := Ak) Ar Ar Cx JU IT c8 rfl (qf BO rfl (qs G8 rfl (Ab (Ag Aw rfl (qm rfl (AX rfl (qe rfl ?_)))))))
    exact sn [(2004, 30), (2005, 35)] h
   ·refine AS ?_
    exact sn [(2006, 2004), (2007, 2005)] h
  ·refine Ae hs (wp rfl (qe rfl ?_))
   refine AB (L := Bi N p0) h (fun v9 => mk [(1, oD (.ptr 1 0)), (2, oD (.ptr 2 0)), (5, oD (.ptr 5 0)), (7, iD v9.2)] [(1, .box (Ah p0)), (2, .box [.pure (.nil0), .pure (.nil0), .pure (.nil0)]), (5, .box [.own 2010, .own 2011, .own 2012]), (2010, .vec 1 (v4.1.map Ak)), (2011, .vec 1 (v4.2.map Ak)), (2012, .vec 1 (v9.1.map DV))]) (fun v10 => mk [(2, oD (.ptr 2 0)), (5, oD (.ptr 5 0))] [(2, .box [.pure (.nil0), .pure (.nil0), .pure (.nil0)]), (5, .box [.own 2013, .own 2014, .own 2015]), (2013, .vec 1 (v4.1.map Ak)), (2014, .vec 1 (v4.2.map Ak)), (2015, .vec 1 (v10.map DV))]) (fun _ _ => rfl) ((Aq 5 2 2019 1 _ rfl rfl rfl rfl).trans (sm [(2010, 2006), (2011, 2007), (2012, 2019)] _ _ rfl rfl)) (fun j9 n9 v9 h => ?_) (fun v10 s h hs => ?_)
   ·unfold Bi at h
    refine wp rfl (qm rfl (qf Ca rfl (ql Hc rfl (AJ Dl rfl (AT rfl (Ab ?_))))))
    refine Bb h (fun h => ?_) fun h => ?_
    ·refine Aj (AL (AH (wq rfl (qe rfl ?_))))
     refine AQ h (fun v12 => mk [(1, oD (.ptr 1 0)), (2, oD (.ptr 2 0)), (5, oD (.ptr 5 0)), (7, iD v9.2), (8, pD (.val (.int .u8 v12)))] [(1, .box (Ah p0)), (2, .box [.pure (.nil0), .pure (.nil0), .pure (.nil0)]), (5, .box [.own 2016, .own 2017, .own 2018]), (2016, .vec 1 (v4.1.map Ak)), (2017, .vec 1 (v4.2.map Ak)), (2018, .vec 1 (v9.1.map DV))]) (fun j12 h => ?_) (fun v12 h => ?_)
     ·refine wq rfl (qf Ca rfl (ql Hc rfl (qm rfl ?_)))
      refine BK h fun v13 a13 b13 h => qi Dl Dc a13 (Af b13) rfl (qK GR Dc rfl ?_)
      refine BZ h fun v14 a14 h => Ax [] (Cl N v13 v14 a14) Ro rfl (Ab ?_)
      refine Bb h (fun h => ?_) fun h => ?_
      ·refine Ag Aw rfl (qf Fv rfl (ql A1 rfl (qf Ca rfl (ql Hc rfl (qm rfl ?_)))))
       refine BK h fun v16 a16 b16 h => qi Dl Dc a16 (Af b16) rfl (qg CY rfl (qk BV rfl ?_))
       refine BK h fun v17 a17 b17 h => qi Ar Cx a17 (Af b17) rfl (qk BV rfl ?_)
       refine FT h fun c18 h => I7 rfl c18 (qa rfl (AO (by kernel_rfl) ?_))
       exact sn [(2016, 2010), (2017, 2011), (2018, 2012)] h
      ·refine Aj ?_
       exact sn [(2016, 2010), (2017, 2011), (2018, 2012)] h
     ·refine Ag Aw rfl (qf CV rfl (ql HX rfl (qm rfl (Dp D4 EC Na rfl ?_))))
      refine FT h fun c19 h => Cy (f := DV) D4 D4 EC Pj Na c19 rfl (qf CV rfl (qs dg rfl (Ab (Ag Aw rfl (qm rfl (AX rfl (qe rfl ?_)))))))
      exact sn [(2010, 2016), (2011, 2017), (2012, 65)] h
    ·refine AS ?_
     exact sn [(2013, 2010), (2014, 2011), (2015, 2012)] h
   ·refine Ae hs (wq rfl (qL B8 A3 rfl (qs A3 rfl (qe rfl ?_))))
    obtain rfl := sj h
    refine Ae (sm [(1000, 2013), (1001, 2014), (1002, 2015)] [(2, oD (.ptr 2 0)), (3, iD 0)] [(2, .box [.own 1000, .own 1001, .own 1002]), (1000, .vec 1 (v4.1.map Ak)), (1001, .vec 1 (v4.2.map Ak)), (1002, .vec 1 (v10.map DV))] rfl rfl) (As ?_)
    exact ⟨⟨[_, _], ⟨.cellN _ _ _ _ _ _ _ rfl rfl B8 A3 rfl rfl (Jh rfl), tm⟩, rfl⟩, ⟨rfl, rfl, rfl, tv⟩⟩
theorem Lt (N : Nat) (p0 : Ac) (r : Ac) (h : Es N p0 = some r) : Ap zA0 131 [.e (.agg (AK p0))] [(1, r.fd.map Ak), (1, r.fb.map Ak), (1, r.fe.map DV)] (.e (.agg [.own 0, .own 1, .own 2])) := by
 unfold Es at h
 refine cw (n := 16) (rs := [.cell 2 49]) Tryz.func131 fun w0 S0 => ?_
 refine wq rfl (qb rfl (qz EH rfl (Ab (wq rfl (Dp Ar Cx IT rfl (qf Db rfl (ql A1 rfl ?_)))))))
 refine FT h fun c1 h => I0 (f := Ak) Ar Ar Cx JU IT (fun _ => rfl) c1 rfl (Dp Ar Cx IT rfl (qf BO rfl (ql A1 rfl ?_)))
 refine FT h fun c2 h => I0 (f := Ak) Ar Ar Cx JU IT (fun _ => rfl) c2 rfl (Dp D4 EC Na rfl (qf CV rfl (ql HX rfl ?_)))
 refine FT h fun c3 h => I0 (f := DV) D4 D4 EC Pj Na (fun _ => rfl) c3 rfl (Bg EH Jl rfl (qs A3 rfl (AO (by kernel_rfl) ?_)))
 obtain rfl := sj h
 refine Ae (sm [(1000, 6), (1001, 10), (1002, 14)] [(2, oD (.ptr 2 0))] [(2, .box [.own 1000, .own 1001, .own 1002]), (1000, .vec 1 (((([] : List Int)) ++ p0.fd).map Ak)), (1001, .vec 1 (((([] : List Int)) ++ p0.fb).map Ak)), (1002, .vec 1 (((([] : List Int)) ++ p0.fe).map DV))] rfl rfl) (As ?_)
 exact ⟨⟨[_], ⟨.cellN _ _ _ _ _ _ _ rfl rfl B8 A3 rfl rfl (Jh rfl), tv⟩, rfl⟩, ⟨rfl, rfl, rfl, tv⟩⟩
theorem Nm (N : Nat) (p0 : Ac) (r : (List Ac)) (h : Ew N p0 = some r) : Ap zA0 93 [.e (.agg (AK p0))] [(3, r.map E6)] (oD (.own 0)) := by
 unfold Ew at h
 refine cw (n := 62) (rs := [.tmp 2]) Tryz.func93 fun w0 S0 => ?_
 refine wq rfl (qb rfl (qa rfl (Ab (wq rfl (qa rfl (Ab (wp rfl (qe rfl ?_))))))))
 refine AB (L := CE N p0) h (fun v1 => mk [(1, oD (.ptr 1 0)), (3, iD v1.1), (4, iD v1.2)] [(1, .box (AK p0))]) (fun v2 => mk [(1, oD (.ptr 1 0)), (3, iD v2)] [(1, .box (AK p0))]) (fun _ _ => rfl) (sm [] _ _ rfl rfl) (fun j1 n1 v1 h => ?_) (fun v2 s h hs => ?_)
 ·unfold CE at h
  refine wp rfl (qm rfl (qf BO rfl (ql A1 rfl (AJ Ar rfl (AT rfl (Ab ?_))))))
  refine Bb h (fun h => ?_) fun h => ?_
  ·refine Aj ?_
   refine AQ h (fun v4 => mk [(1, oD (.ptr 1 0)), (3, iD v4), (4, iD v1.2)] [(1, .box (AK p0))]) (fun j4 h => ?_) (fun v4 h => ?_)
   ·refine AH (wq rfl (qf BO rfl (ql A1 rfl (qm rfl ?_))))
    refine BK h fun v5 a5 b5 h => qi Ar Cx a5 (Af b5) rfl (qk BV rfl (E0 rfl (Ab ?_)))
    refine Bb h (fun h => ?_) fun h => ?_
    ·refine Ag Aw rfl (qm rfl (AX rfl (qe rfl ?_)))
     exact sn [] h
    ·refine Aj ?_
     exact sn [] h
   ·refine Ag Aw rfl (qm rfl (AX rfl (qe rfl ?_)))
    exact sn [] h
  ·refine AS ?_
   exact sn [] h
 ·refine Ae hs (wq rfl (qa rfl (Ab (wp rfl (qe rfl ?_)))))
  refine AB (L := BB N p0 v2) h (fun v7 => mk [(1, oD (.ptr 1 0)), (3, iD v2), (5, oD (.own 2001)), (6, iD v7.2)] [(1, .box (AK p0)), (2001, .vec 3 (v7.1.map E6))]) (fun v8 => mk [(5, oD (.own 2002))] [(2002, .vec 3 (v8.map E6))]) (fun _ _ => rfl) ((A6 5 2022 3 rfl rfl rfl).trans (sm [(2001, 2022)] _ _ rfl rfl)) (fun j7 n7 v7 h => ?_) (fun v8 s h hs => ?_)
  ·unfold BB at h
   refine wp rfl (qw 2 rfl ?_)
   refine FT h fun c9 h => I7 rfl c9 (AT rfl (Ab ?_))
   refine Bb h (fun h => ?_) fun h => ?_
   ·refine Aj (AL (AH (wq rfl (qL B8 A3 rfl ?_))))
    refine BZ h fun v11 a11 h => Ax [2003, 2004, 2005] (Lt N p0 v11 a11) bT rfl (qz EH rfl (qs A3 rfl (Ab (wq rfl (qa rfl (Ab (wp rfl (qe rfl ?_))))))))
    refine AB (L := B1 N p0 v7) h (fun v12 => mk [(1, oD (.ptr 1 0)), (3, iD v2), (5, oD (.own 2009)), (6, iD v7.2), (7, oD (.ptr 7 0)), (8, iD v12.2.1), (9, iD v12.2.2)] [(1, .box (AK p0)), (7, .box [.own 2006, .own 2007, .own 2008]), (2006, .vec 1 (v11.fd.map Ak)), (2007, .vec 1 (v12.1.map Ak)), (2008, .vec 1 (v11.fe.map DV)), (2009, .vec 3 (v7.1.map E6))]) (fun v13 => mk [(1, oD (.ptr 1 0)), (3, iD v2), (5, oD (.own 2013)), (6, iD v7.2), (7, oD (.ptr 7 0))] [(1, .box (AK p0)), (7, .box [.own 2010, .own 2011, .own 2012]), (2010, .vec 1 (v11.fd.map Ak)), (2011, .vec 1 (v13.map Ak)), (2012, .vec 1 (v11.fe.map DV)), (2013, .vec 3 (v7.1.map E6))]) (fun _ _ => rfl) (sm [(2006, 2003), (2007, 2004), (2008, 2005), (2009, 2001)] _ _ rfl rfl) (fun j12 n12 v12 h => ?_) (fun v13 s h hs => ?_)
    ·unfold B1 at h
     refine wp rfl (qm rfl (qf BO rfl (ql A1 rfl (AJ Ar rfl (AT rfl (Ab ?_))))))
     refine Bb h (fun h => ?_) fun h => ?_
     ·refine Aj ?_
      refine AQ h (fun v15 => mk [(1, oD (.ptr 1 0)), (3, iD v2), (5, oD (.own 2017)), (6, iD v7.2), (7, oD (.ptr 7 0)), (8, iD v15.2), (9, iD v12.2.2)] [(1, .box (AK p0)), (7, .box [.own 2014, .own 2015, .own 2016]), (2014, .vec 1 (v11.fd.map Ak)), (2015, .vec 1 (v15.1.map Ak)), (2016, .vec 1 (v11.fe.map DV)), (2017, .vec 3 (v7.1.map E6))]) (fun j15 h => ?_) (fun v15 h => ?_)
      ·refine AH (wp rfl (qf BO rfl (ql A1 rfl (qm rfl ?_))))
       refine BK h fun v16 a16 b16 h => qi Ar Cx a16 (Af b16) rfl (qk BV rfl (AT rfl (Ab ?_)))
       refine Bb h (fun h => ?_) fun h => ?_
       ·refine AS ?_
        exact sn [(2014, 2006), (2015, 2007), (2016, 2008), (2017, 2009)] h
       ·refine Aj ?_
        refine AQ h (fun v18 => mk [(1, oD (.ptr 1 0)), (3, iD v2), (5, oD (.own 2021)), (6, iD v7.2), (7, oD (.ptr 7 0)), (8, iD v12.2.1), (9, iD v12.2.2)] [(1, .box (AK p0)), (7, .box [.own 2018, .own 2019, .own 2020]), (2018, .vec 1 (v11.fd.map Ak)), (2019, .vec 1 (v18.map Ak)), (2020, .vec 1 (v11.fe.map DV)), (2021, .vec 3 (v7.1.map E6))]) (fun j18 h => ?_) (fun v18 h => ?_)
        ·refine wq rfl (qw 2 rfl ?_)
         refine FT h fun c19 h => GQ rfl c19 (Ml rfl (by decide) (Ch rfl (Ab ?_)))
         refine Bb h (fun h => ?_) fun h => ?_
         ·refine Ag Aw rfl (qf BO rfl (ql A1 rfl (qm rfl ?_)))
          refine BK h fun v21 a21 b21 h => qI Ar Cx a21 (Af b21) rfl ?_
          refine Dy rfl rfl rfl rfl (Af b21) rfl Cx rfl (I3 rfl) (Dr Ak v12.1 _ ((-1))) ?_
          refine Ab ?_
          exact sn [(2018, 2006), (2019, 2007), (2020, 2008), (2021, 2009)] h
         ·refine Aj ?_
          exact sn [(2018, 2006), (2019, 2007), (2020, 2008), (2021, 2009)] h
        ·refine Ag Aw rfl (qm rfl (AX rfl (qe rfl ?_)))
         exact sn [(2014, 2018), (2015, 2019), (2016, 2020), (2017, 2021)] h
      ·refine Ag Aw rfl (qm rfl (AX rfl (qe rfl ?_)))
       exact sn [(2006, 2014), (2007, 2015), (2008, 2016), (2009, 2017)] h
     ·refine AS ?_
      exact sn [(2010, 2006), (2011, 2007), (2012, 2008), (2013, 2009)] h
    ·refine Ae hs (Ag Aw rfl (qm rfl (qL B8 A3 rfl (CQ (A9 2010 _ _ rfl rfl) (CQ (A9 2011 _ _ rfl rfl) (CQ (A9 2012 _ _ rfl rfl) (Dp Mr A3 EH rfl ?_)))))))
     refine FT h fun c22 h => Cy (f := E6) Mr Mr A3 Zj EH c22 rfl (qa rfl (Ab (Ag Aw rfl (qm rfl (AX rfl (qe rfl ?_))))))
     exact sn [(2001, 60)] h
   ·refine AS ?_
    exact sn [(2002, 2001)] h
  ·refine Ae hs (wq rfl (qm rfl (qe rfl ?_)))
   obtain rfl := sj h
   refine Ae (sm [(1000, 2002)] [(2, oD (.own 1000))] [(1000, .vec 3 (v8.map E6))] rfl rfl) (As ?_)
   exact ⟨⟨[_], tm, rfl⟩, ⟨rfl, tv⟩⟩
theorem Eu (N : Nat) (p0 : Ac) (p1 : Int) (r : Int) (h : B0 N p0 p1 = some r) : Ap zA0 96 [.e (.agg (AK p0)), iD p1] [] (pD (.val (.int .u8 r))) := by
 unfold B0 at h
 refine cw (n := 27) (rs := [.tmp 4]) Tryz.func96 fun w0 S0 => ?_
 refine wq rfl (qb rfl (qa rfl (Ab (wq rfl (qf Db rfl (ql A1 rfl (qm rfl ?_)))))))
 refine BK h fun v1 a1 b1 h => qi Ar Cx a1 (Af b1) rfl (qk BV rfl ?_)
 refine FT h fun c2 h => I7 rfl c2 (qe rfl ?_)
 refine AQ h (fun v3 => mk [(5, pD (.val (.int .u8 v3)))] []) (fun j3 h => ?_) (fun v3 h => ?_)
 ·refine wq rfl (qf BO rfl (ql A1 rfl (qm rfl ?_)))
  refine BK h fun v4 a4 b4 h => qi Ar Cx a4 (Af b4) rfl (qk BV rfl (E0 rfl (Ab ?_)))
  refine Bb h (fun h => ?_) fun h => ?_
  ·refine Ag Aw rfl (qm rfl (qf BO rfl (ql A1 rfl (qm rfl ?_))))
   refine BK h fun v6 a6 b6 h => qi Ar Cx a6 (Af b6) rfl (qk BV rfl ?_)
   refine FT h fun c7 h => I7 rfl c7 (Wf rfl (qe rfl ?_))
   exact sn [] h
  ·refine Aj ?_
   exact sn [] h
 ·refine wq rfl (qm rfl (qe rfl ?_))
  obtain rfl := sj h
  refine Ae (sm [] [(4, pD (.val (.int .u8 v3)))] [] rfl rfl) (As ?_)
  exact ⟨⟨[_], tm, rfl⟩, tv⟩
theorem GO (N : Nat) (p0 : Int) (p1 : Int) (r : Bool) (h : CA N p0 p1 = some r) : Ap zA0 97 [pD (.val (.int .u8 p0)), iD p1] [] (bD r) := by
 unfold CA at h
 refine cw (n := 10) (rs := [.tmp 4]) Tryz.func97 fun w0 S0 => ?_
 refine wq rfl (qa rfl (Ab (wq rfl (qw 2 rfl ?_))))
 refine FT h fun c1 h => GQ rfl c1 (Il rfl (Ch rfl (qe rfl ?_)))
 obtain rfl := sj h
 refine Ae (sm [] [(4, bD (((AI .u8 ((AY .u8 p0 p1)) 1) == 1)))] [] rfl rfl) (As ?_)
 exact ⟨⟨[_], tm, rfl⟩, tv⟩
theorem L1 (N : Nat) (p0 : Aa) (p1 : Ac) (r : (List An)) (h : EU N p0 p1 = some r) : Ap zA0 132 [.e (.agg (Ah p0)), .e (.agg (AK p1))] [(3, r.map A0)] (oD (.own 0)) := by
 unfold EU at h
 refine cw (n := 111) (rs := [.tmp 4]) Tryz.func132 fun w0 S0 => ?_
 refine wq rfl (qb rfl (qb rfl (qa rfl (Ab (wq rfl (qa rfl (Ab (wp rfl (qe rfl ?_)))))))))
 refine AB (L := CI N p0 p1) h (fun v1 => mk [(2, oD (.ptr 2 0)), (3, oD (.ptr 3 0)), (5, oD (.own 2001)), (6, iD v1.2)] [(2, .box (Ah p0)), (3, .box (AK p1)), (2001, .vec 3 (v1.1.map A0))]) (fun v2 => mk [(5, oD (.own 2002))] [(2002, .vec 3 (v2.map A0))]) (fun _ _ => rfl) ((A6 5 2013 3 rfl rfl rfl).trans (sm [(2001, 2013)] _ _ rfl rfl)) (fun j1 n1 v1 h => ?_) (fun v2 s h hs => ?_)
 ·unfold CI at h
  refine wp rfl (qm rfl (qf Ca rfl (ql Hc rfl (AJ Dl rfl (AT rfl (Ab ?_))))))
  refine Bb h (fun h => ?_) fun h => ?_
  ·refine Aj (AL (AH (wq rfl (qf Ca rfl (ql Hc rfl (qm rfl ?_))))))
   refine BK h fun v4 a4 b4 h => qi Dl Dc a4 (Af b4) rfl (qK GR Dc rfl (qz IY rfl (qs Dc rfl (Ab (wq rfl (qL B8 A3 rfl (qf CY rfl (ql BV rfl ?_))))))))
   refine BZ h fun v5 a5 h => Ax [] (Eu N p1 v4.ff v5 a5) Wl rfl (qe rfl ?_)
   refine AQ h (fun v6 => mk [(2, oD (.ptr 2 0)), (3, oD (.ptr 3 0)), (5, oD (.own 2003)), (6, iD v1.2), (7, oD (.ptr 7 0)), (8, pD (.val (.int .u8 v6)))] [(2, .box (Ah p0)), (3, .box (AK p1)), (7, .box (Ba v4)), (2003, .vec 3 (v1.1.map A0))]) (fun j6 h => ?_) (fun v6 h => ?_)
   ·refine wq rfl (qL GR Dc rfl ?_)
    refine BZ h fun v7 a7 h => Ax [] (Cl N v4 v7 a7) Ro rfl (Ab ?_)
    refine Bb h (fun h => ?_) fun h => ?_
    ·refine Ag Aw rfl (qf CV rfl (ql HX rfl (qm rfl ?_)))
     refine BK h fun v9 a9 b9 h => qi D4 EC a9 (Af b9) rfl (qk IH rfl (qe rfl ?_))
     exact sn [(2003, 2001)] h
    ·refine Aj ?_
     exact sn [(2003, 2001)] h
   ·refine wq rfl (qe rfl ?_)
    refine AB (L := BJ N p0 p1 v1 v4 v6) h (fun v10 => mk [(2, oD (.ptr 2 0)), (3, oD (.ptr 3 0)), (5, oD (.own 2004)), (6, iD v1.2), (7, oD (.ptr 7 0)), (8, pD (.val (.int .u8 v6))), (9, iD v10.2)] [(2, .box (Ah p0)), (3, .box (AK p1)), (7, .box (Ba v4)), (2004, .vec 3 (v10.1.map A0))]) (fun v11 => mk [(2, oD (.ptr 2 0)), (3, oD (.ptr 3 0)), (5, oD (.own 2005)), (6, iD v1.2)] [(2, .box (Ah p0)), (3, .box (AK p1)), (2005, .vec 3 (v11.map A0))]) (fun _ _ => rfl) (sm [(2004, 2003)] _ _ rfl rfl) (fun j10 n10 v10 h => ?_) (fun v11 s h hs => ?_)
    ·unfold BJ at h
     refine wp rfl (qm rfl (qf A7 rfl (ql A1 rfl (qf CY rfl (ql BV rfl ?_)))))
     refine BK h fun v12 a12 b12 h => qi Ar Cx a12 (Af b12) rfl (qk BV rfl (AT rfl (Ab ?_)))
     refine Bb h (fun h => ?_) fun h => ?_
     ·refine Aj ?_
      refine AQ h (fun v14 => mk [(2, oD (.ptr 2 0)), (3, oD (.ptr 3 0)), (5, oD (.own 2006)), (6, iD v1.2), (7, oD (.ptr 7 0)), (8, pD (.val (.int .u8 v6))), (9, iD v10.2)] [(2, .box (Ah p0)), (3, .box (AK p1)), (7, .box (Ba v4)), (2006, .vec 3 (v14.map A0))]) (fun j14 h => ?_) (fun v14 h => ?_)
      ·refine AH (wp rfl (qw 2 rfl ?_))
       refine BZ h fun v15 a15 h => Ax [] (GO N v6 v10.2 v15 a15) Yx rfl (CD rfl (Ab ?_))
       refine Bb h (fun h => ?_) fun h => ?_
       ·refine AS ?_
        exact sn [(2006, 2004)] h
       ·refine Aj (wq rfl (qa rfl (Ab (wp rfl (qe rfl ?_)))))
        refine AB (L := Bm N p0 p1 v1 v4 v10) h (fun v17 => mk [(2, oD (.ptr 2 0)), (3, oD (.ptr 3 0)), (5, oD (.own 2007)), (6, iD v1.2), (7, oD (.ptr 7 0)), (8, pD (.val (.int .u8 v6))), (9, iD v10.2), (10, bD v17.2.1), (11, iD v17.2.2)] [(2, .box (Ah p0)), (3, .box (AK p1)), (7, .box (Ba v4)), (2007, .vec 3 (v17.1.map A0))]) (fun v18 => mk [(2, oD (.ptr 2 0)), (3, oD (.ptr 3 0)), (5, oD (.own 2008)), (6, iD v1.2), (7, oD (.ptr 7 0)), (8, pD (.val (.int .u8 v6))), (9, iD v10.2), (10, bD v18.2)] [(2, .box (Ah p0)), (3, .box (AK p1)), (7, .box (Ba v4)), (2008, .vec 3 (v18.1.map A0))]) (fun _ _ => rfl) (sm [(2007, 2004)] _ _ rfl rfl) (fun j17 n17 v17 h => ?_) (fun v18 s h hs => ?_)
        ·unfold Bm at h
         refine wp rfl (qm rfl (qf A7 rfl (ql A1 rfl (qf HD rfl (ql BV rfl ?_)))))
         refine BK h fun v19 a19 b19 h => qi Ar Cx a19 (Af b19) rfl (qk BV rfl (AT rfl (Ab ?_)))
         refine Bb h (fun h => ?_) fun h => ?_
         ·refine Aj ?_
          refine AQ h (fun v21 => mk [(2, oD (.ptr 2 0)), (3, oD (.ptr 3 0)), (5, oD (.own 2009)), (6, iD v1.2), (7, oD (.ptr 7 0)), (8, pD (.val (.int .u8 v6))), (9, iD v10.2), (10, bD v21.2), (11, iD v17.2.2)] [(2, .box (Ah p0)), (3, .box (AK p1)), (7, .box (Ba v4)), (2009, .vec 3 (v21.1.map A0))]) (fun j21 h => ?_) (fun v21 h => ?_)
          ·refine AH (wp rfl (qL B8 A3 rfl (qf HD rfl (ql BV rfl ?_))))
           refine BZ h fun v22 a22 h => Ax [] (Eu N p1 v4.fj v22 a22) Wl rfl (qm rfl ?_)
           refine BZ h fun v23 a23 h => Ax [] (GO N v22 v17.2.2 v23 a23) Yx rfl (CD rfl (Ab ?_))
           refine Bb h (fun h => ?_) fun h => ?_
           ·refine AS ?_
            exact sn [(2009, 2007)] h
           ·refine Aj ?_
            refine AQ h (fun v25 => mk [(2, oD (.ptr 2 0)), (3, oD (.ptr 3 0)), (5, oD (.own 2010)), (6, iD v1.2), (7, oD (.ptr 7 0)), (8, pD (.val (.int .u8 v6))), (9, iD v10.2), (10, bD v25), (11, iD v17.2.2)] [(2, .box (Ah p0)), (3, .box (AK p1)), (7, .box (Ba v4)), (2010, .vec 3 (v17.1.map A0))]) (fun j25 h => ?_) (fun v25 h => ?_)
            ·refine Ag Aw rfl (qw 2 rfl ?_)
             refine Eo 67 h rfl (fun h => ?_) fun h => ?_
             ·refine qw 8 rfl (qp rfl (qe rfl ?_))
              exact sn [(2010, 2007)] h
             ·refine qf Hg rfl (ql Io rfl (qm rfl ?_))
              refine BK h fun v27 a27 b27 h => qi Ep Jy a27 (Af b27) rfl (qk Or rfl (qm rfl ?_))
              refine BK h fun v28 a28 b28 h => qi Fo PG a28 (Af b28) rfl (qk Tv rfl (qp rfl (qe rfl ?_)))
              exact sn [(2010, 2007)] h
            ·refine AQ h (fun v29 => mk [(2, oD (.ptr 2 0)), (3, oD (.ptr 3 0)), (5, oD (.own 2011)), (6, iD v1.2), (7, oD (.ptr 7 0)), (8, pD (.val (.int .u8 v6))), (9, iD v10.2), (10, bD v25), (11, iD v17.2.2), (90, bD v29)] [(2, .box (Ah p0)), (3, .box (AK p1)), (7, .box (Ba v4)), (2011, .vec 3 (v17.1.map A0))]) (fun j29 h => ?_) (fun v29 h => ?_)
             ·refine Ag Aw rfl (qf Jm rfl (ql Tv rfl (CD rfl (qm rfl ?_))))
              refine Eo 80 h rfl (fun h => ?_) fun h => ?_
              ·refine qf Hg rfl (ql Io rfl (qm rfl ?_))
               refine BK h fun v31 a31 b31 h => qi Ep Jy a31 (Af b31) rfl (qk Or rfl (qm rfl ?_))
               refine BK h fun v32 a32 b32 h => qi Fo PG a32 (Af b32) rfl (qk Tv rfl (CD rfl (qp rfl (Ab ?_))))
               exact sn [(2011, 2010)] h
              ·refine qw 9 rfl (qp rfl (Ab ?_))
               exact sn [(2011, 2010)] h
             ·refine Bb h (fun h => ?_) fun h => ?_
              ·refine Ag Aw rfl (qw 4 rfl (Bg I8 QW rfl (Dp HL IE I8 rfl ?_)))
               refine FT h fun c34 h => Cy (f := A0) HL HL IE Re I8 c34 rfl (qe rfl ?_)
               exact sn [(2009, 97)] h
              ·refine Aj ?_
               exact sn [(2009, 2011)] h
          ·refine Ag Aw rfl (qm rfl (AX rfl (qe rfl ?_)))
           exact sn [(2007, 2009)] h
         ·refine AS ?_
          exact sn [(2008, 2007)] h
        ·refine Ae hs ?_
         refine AQ h (fun v35 => mk [(2, oD (.ptr 2 0)), (3, oD (.ptr 3 0)), (5, oD (.own 2012)), (6, iD v1.2), (7, oD (.ptr 7 0)), (8, pD (.val (.int .u8 v6))), (9, iD v10.2), (103, bD v35)] [(2, .box (Ah p0)), (3, .box (AK p1)), (7, .box (Ba v4)), (2012, .vec 3 (v18.1.map A0))]) (fun j35 h => ?_) (fun v35 h => ?_)
         ·refine Ag Aw rfl (qf Jm rfl (ql Tv rfl (qm rfl ?_)))
          refine Eo 100 h rfl (fun h => ?_) fun h => ?_
          ·refine qm rfl (CD rfl (qp rfl (Ab ?_)))
           exact sn [(2012, 2008)] h
          ·refine qw 2 rfl (qp rfl (Ab ?_))
           exact sn [(2012, 2008)] h
         ·refine Bb h (fun h => ?_) fun h => ?_
          ·refine Ag Aw rfl (qw 3 rfl (Bg I8 QW rfl (Dp HL IE I8 rfl ?_)))
           refine FT h fun c38 h => Cy (f := A0) HL HL IE Re I8 c38 rfl (qe rfl ?_)
           exact sn [(2006, 109)] h
          ·refine Aj ?_
           exact sn [(2006, 2012)] h
      ·refine Ag Aw rfl (qm rfl (AX rfl (qe rfl ?_)))
       exact sn [(2004, 2006)] h
     ·refine AS ?_
      exact sn [(2005, 2004)] h
    ·refine Ae hs (Ag Aw rfl (qm rfl (AX rfl (qe rfl ?_))))
     exact sn [(2001, 2005)] h
  ·refine AS ?_
   exact sn [(2002, 2001)] h
 ·refine Ae hs (wq rfl (qm rfl (qe rfl ?_)))
  obtain rfl := sj h
  refine Ae (sm [(1000, 2002)] [(4, oD (.own 1000))] [(1000, .vec 3 (v2.map A0))] rfl rfl) (As ?_)
  exact ⟨⟨[_], tm, rfl⟩, ⟨rfl, tv⟩⟩
theorem Ll (N : Nat) (p0 : Aa) (p1 : Ac) (r : Bool) (h : Er N p0 p1 = some r) : Ap zA0 94 [.e (.agg (Ah p0)), .e (.agg (AK p1))] [] (bD r) := by
 unfold Er at h
 refine cw (n := 10) (rs := [.tmp 4]) Tryz.func94 fun w0 S0 => ?_
 refine wq rfl (qb rfl (qb rfl (qa rfl (Ab (wq rfl (qL Dq Cu rfl (qL B8 A3 rfl ?_)))))))
 refine BZ h fun v1 a1 h => Ax [2001] (L1 N p0 p1 v1 a1) ba rfl (Ef HL rfl (Ch rfl (qe rfl ?_)))
 obtain rfl := sj h
 refine Ae (sm [] [(4, bD (((v1.length : Int) == 0)))] [] rfl rfl) (As ?_)
 exact ⟨⟨[_], tm, rfl⟩, tv⟩
theorem HZ (N : Nat) (p0 : Aa) (p1 : Ac) (r : Bool) (h : Dg N p0 p1 = some r) : Ap zA0 60 [.e (.agg (Ah p0)), .e (.agg (AK p1))] [] (bD r) := by
 unfold Dg at h
 refine cw (n := 22) (rs := [.tmp 4]) Tryz.func60 fun w0 S0 => ?_
 refine wq rfl (qb rfl (qb rfl (qa rfl (Ab (wq rfl (qL B8 A3 rfl ?_))))))
 refine BZ h fun v1 a1 h => Ax [2001] (Nm N p1 v1 a1) dw rfl (qa rfl (Ab (wp rfl (qe rfl ?_))))
 refine AB (L := B7 N p0 v1) h (fun v2 => mk [(2, oD (.ptr 2 0)), (5, oD (.own 2002)), (6, iD v2)] [(2, .box (Ah p0)), (2002, .vec 3 (v1.map E6))]) (fun v3 => mk [] []) (fun _ _ => rfl) (sm [(2002, 2001)] _ _ rfl rfl) (fun j2 n2 v2 h => ?_) (fun v3 s h hs => ?_)
 ·unfold B7 at h
  refine wp rfl (qw 2 rfl (Ef Mr rfl (AT rfl (Ab ?_))))
  refine Bb h (fun h => ?_) fun h => ?_
  ·refine Aj (AL (AH (wq rfl (qL Dq Cu rfl (qw 2 rfl ?_)))))
   refine BK h fun v5 a5 b5 h => qI Mr A3 a5 (Af b5) rfl (qJ B8 A3 (Af b5) rfl ?_)
   refine BZ h fun v6 a6 h => Ax [] (Ll N p0 v5 v6 a6) dO rfl (CD rfl (AO (by kernel_rfl) ?_))
   refine Bb h (fun h => ?_) fun h => ?_
   ·refine wq rfl (qe rfl ?_)
    obtain rfl := sj h
    refine Ae (sm [] [(4, bD false)] [] rfl rfl) (As ?_)
    exact ⟨⟨[_], tm, rfl⟩, tv⟩
   ·refine Aj (Ag Aw rfl (qm rfl (AX rfl (qe rfl ?_))))
    exact sn [] h
  ·refine AS ?_
   exact sn [] h
 ·refine Ae hs (wq rfl (qe rfl ?_))
  obtain rfl := sj h
  refine Ae (sm [] [(4, bD true)] [] rfl rfl) (As ?_)
  exact ⟨⟨[_], tm, rfl⟩, tv⟩
theorem Mg (N : Nat) (p0 : Aa) (p1 : Ac) (r : Int) (h : EY N p0 p1 = some r) : Ap zA0 90 [.e (.agg (Ah p0)), .e (.agg (AK p1))] [] (iD r) := by
 unfold EY at h
 refine cw (n := 154) (rs := [.tmp 4]) Tryz.func90 fun w0 S0 => ?_
 refine wq rfl (qb rfl (qb rfl (qa rfl (Ab (wp rfl (qL Dq Cu rfl ?_))))))
 refine BZ h fun v1 a1 h => Ax [] (Ed N p0 v1 a1) XS rfl (qa rfl (Ab (wq rfl (qm rfl (BC rfl (Ab ?_))))))
 refine Bb h (fun h => ?_) fun h => ?_
 ·refine wq rfl (qm rfl (qe rfl ?_))
  obtain rfl := sj h
  refine Ae (sm [] [(4, iD v1)] [] rfl rfl) (As ?_)
  exact ⟨⟨[_], tm, rfl⟩, tv⟩
 ·refine Aj (wq rfl (qf A7 rfl (ql A1 rfl (AJ Ar rfl (qa rfl (Ab (AL ?_)))))))
  refine AQ h (fun v3 => mk [(2, oD (.ptr 2 0)), (3, oD (.ptr 3 0)), (6, iD ((p0.fa.length : Int))), (39, bD v3)] [(2, .box (Ah p0)), (3, .box (AK p1))]) (fun j3 h => ?_) (fun v3 h => ?_)
  ·refine Ag Aw rfl (qf Db rfl (ql A1 rfl (AJ Ar rfl (qm rfl (BC rfl (qm rfl ?_))))))
   refine Eo 24 h rfl (fun h => ?_) fun h => ?_
   ·refine qw 5 rfl (qp rfl (qw 8 rfl (qp rfl (Ab ?_))))
    exact sn [] h
   ·refine qf BO rfl (ql A1 rfl (AJ Ar rfl (qm rfl (BC rfl (qp rfl (qm rfl ?_))))))
    refine Eo 31 h rfl (fun h => ?_) fun h => ?_
    ·refine qw 7 rfl (qp rfl (Ab ?_))
     exact sn [] h
    ·refine qf CV rfl (ql HX rfl (AJ D4 rfl (qf Ca rfl (ql Hc rfl (AJ Dl rfl (BC rfl (qp rfl (Ab ?_))))))))
     exact sn [] h
  ·refine Bb h (fun h => ?_) fun h => ?_
   ·refine wq rfl (qe rfl ?_)
    obtain rfl := sj h
    refine Ae (sm [] [(4, iD 6)] [] rfl rfl) (As ?_)
    exact ⟨⟨[_], tm, rfl⟩, tv⟩
   ·refine Aj (wp rfl (qe rfl ?_))
    refine AB (L := Cg N p0 p1) h (fun v7 => mk [(2, oD (.ptr 2 0)), (3, oD (.ptr 3 0)), (6, iD ((p0.fa.length : Int))), (7, iD v7)] [(2, .box (Ah p0)), (3, .box (AK p1))]) (fun v8 => mk [(2, oD (.ptr 2 0)), (3, oD (.ptr 3 0))] [(2, .box (Ah p0)), (3, .box (AK p1))]) (fun _ _ => rfl) (sm [] _ _ rfl rfl) (fun j7 n7 v7 h => ?_) (fun v8 s h hs => ?_)
    ·unfold Cg at h
     refine wp rfl (qw 2 rfl (AT rfl (Ab ?_)))
     refine Bb h (fun h => ?_) fun h => ?_
     ·refine Aj (AL (AH (AL ?_)))
      refine AQ h (fun v10 => mk [(2, oD (.ptr 2 0)), (3, oD (.ptr 3 0)), (6, iD ((p0.fa.length : Int))), (7, iD v7), (84, bD v10)] [(2, .box (Ah p0)), (3, .box (AK p1))]) (fun j10 h => ?_) (fun v10 h => ?_)
      ·refine Ag Aw rfl (qf Db rfl (ql A1 rfl (qm rfl ?_)))
       refine BK h fun v11 a11 b11 h => qi Ar Cx a11 (Af b11) rfl (qk BV rfl (AT rfl (qm rfl ?_)))
       refine Eo 51 h rfl (fun h => ?_) fun h => ?_
       ·refine qw 11 rfl (qp rfl (qw 7 rfl (qp rfl (qw 12 rfl (qp rfl (AO (by kernel_rfl) ?_))))))
        exact sn [] h
       ·refine qf Db rfl (ql A1 rfl (qm rfl ?_))
        refine BK h fun v13 a13 b13 h => qi Ar Cx a13 (Af b13) rfl (qk BV rfl (qf A7 rfl (ql A1 rfl (qm rfl ?_))))
        refine BK h fun v14 a14 b14 h => qi Ar Cx a14 (Af b14) rfl (qk BV rfl (E0 rfl (qp rfl (qm rfl ?_))))
        refine Eo 64 h rfl (fun h => ?_) fun h => ?_
        ·refine qw 6 rfl (qp rfl (qw 12 rfl (qp rfl (AO (by kernel_rfl) ?_))))
         exact sn [] h
        ·refine qf BO rfl (ql A1 rfl (qm rfl ?_))
         refine BK h fun v16 a16 b16 h => qi Ar Cx a16 (Af b16) rfl (qk BV rfl (AT rfl (qp rfl (qm rfl ?_))))
         refine Eo 72 h rfl (fun h => ?_) fun h => ?_
         ·refine qw 11 rfl (qp rfl (AO (by kernel_rfl) ?_))
          exact sn [] h
         ·refine qf BO rfl (ql A1 rfl (qm rfl ?_))
          refine BK h fun v18 a18 b18 h => qi Ar Cx a18 (Af b18) rfl (qk BV rfl (qf A7 rfl (ql A1 rfl (qm rfl ?_))))
          refine BK h fun v19 a19 b19 h => qi Ar Cx a19 (Af b19) rfl (qk BV rfl (E0 rfl (qp rfl (AO (by kernel_rfl) ?_))))
          exact sn [] h
      ·refine Bb h (fun h => ?_) fun h => ?_
       ·refine wq rfl (qe rfl ?_)
        obtain rfl := sj h
        refine Ae (sm [] [(4, iD 7)] [] rfl rfl) (As ?_)
        exact ⟨⟨[_], tm, rfl⟩, tv⟩
       ·refine Aj (wq rfl (qf Db rfl (ql A1 rfl (qm rfl ?_))))
        refine BK h fun v21 a21 b21 h => qi Ar Cx a21 (Af b21) rfl (qk BV rfl (qf BO rfl (ql A1 rfl (qm rfl ?_))))
        refine BK h fun v22 a22 b22 h => qi Ar Cx a22 (Af b22) rfl (qk BV rfl (Ch rfl (AO (by kernel_rfl) ?_)))
        refine Bb h (fun h => ?_) fun h => ?_
        ·refine wq rfl (qe rfl ?_)
         obtain rfl := sj h
         refine Ae (sm [] [(4, iD 1)] [] rfl rfl) (As ?_)
         exact ⟨⟨[_], tm, rfl⟩, tv⟩
        ·refine Aj (Ag Aw rfl (qm rfl (AX rfl (qe rfl ?_))))
         exact sn [] h
     ·refine AS ?_
      exact sn [] h
    ·refine Ae hs (wp rfl (qe rfl ?_))
     refine AB (L := B6 N p0 p1) h (fun v24 => mk [(2, oD (.ptr 2 0)), (3, oD (.ptr 3 0)), (8, iD v24)] [(2, .box (Ah p0)), (3, .box (AK p1))]) (fun v25 => mk [] []) (fun _ _ => rfl) (sm [] _ _ rfl rfl) (fun j24 n24 v24 h => ?_) (fun v25 s h hs => ?_)
     ·unfold B6 at h
      refine wp rfl (qm rfl (qf Ca rfl (ql Hc rfl (AJ Dl rfl (AT rfl (Ab ?_))))))
      refine Bb h (fun h => ?_) fun h => ?_
      ·refine Aj (AL (AH (wq rfl (qf Ca rfl (ql Hc rfl (qm rfl ?_))))))
       refine BK h fun v27 a27 b27 h => qi Dl Dc a27 (Af b27) rfl (qK GR Dc rfl (qz IY rfl (qs Dc rfl (Ab (wq rfl (qf A7 rfl (ql A1 rfl (qf CY rfl (ql BV rfl ?_)))))))))
       refine BK h fun v28 a28 b28 h => qi Ar Cx a28 (Af b28) rfl (qk BV rfl ?_)
       refine FT h fun c29 h => I7 rfl c29 (J4 rfl (qe rfl ?_))
       refine AQ h (fun v30 => mk [(2, oD (.ptr 2 0)), (3, oD (.ptr 3 0)), (8, iD v24), (153, bD v30)] [(2, .box (Ah p0)), (3, .box (AK p1))]) (fun j30 h => ?_) (fun v30 h => ?_)
       ·refine Ag Aw rfl (qL GR Dc rfl ?_)
        refine BZ h fun v31 a31 h => Ax [] (Cl N v27 v31 a31) Ro rfl (CD rfl (qm rfl ?_))
        refine Eo 119 h rfl (fun h => ?_) fun h => ?_
        ·refine qf CV rfl (ql HX rfl (qm rfl ?_))
         refine BK h fun v33 a33 b33 h => qi D4 EC a33 (Af b33) rfl (qk IH rfl (BC rfl (qp rfl (qm rfl ?_))))
         refine Eo 127 h rfl (fun h => ?_) fun h => ?_
         ·refine qw 3 rfl (qu rfl (qu rfl (qu rfl (qu rfl (qu rfl (qu rfl (qu rfl (qu rfl (qu rfl (qu rfl (qu rfl (qu rfl (qu rfl (qu rfl (qu rfl (qu rfl (qu rfl (qu rfl (qu rfl (qu rfl (qu rfl (qn rfl (qp rfl (AO (by kernel_rfl) ?_))))))))))))))))))))))))
          exact sn [] h
         ·refine qL GR Dc rfl ?_
          refine BZ h fun v35 a35 h => Ax [] (Cl N v27 v35 a35) Ro rfl (qm rfl ?_)
          refine Eo 130 h rfl (fun h => ?_) fun h => ?_
          ·refine qf CV rfl (ql HX rfl (qm rfl ?_))
           refine BK h fun v37 a37 b37 h => qi D4 EC a37 (Af b37) rfl (qk IH rfl (qm rfl (H5 rfl (BC rfl (qm rfl ?_)))))
           refine Eo 139 h rfl (fun h => ?_) fun h => ?_
           ·refine qw 11 rfl (qp rfl (qp rfl (qp rfl (AO (by kernel_rfl) ?_))))
            exact sn [] h
           ·refine qL B8 A3 rfl (qf CY rfl (ql BV rfl ?_))
            refine BZ h fun v39 a39 h => Ax [] (Eu N p1 v27.ff v39 a39) Wl rfl (qf CV rfl (ql HX rfl (qm rfl ?_)))
            refine BK h fun v40 a40 b40 h => qi D4 EC a40 (Af b40) rfl (qk IH rfl (H5 rfl (BC rfl (qp rfl (qp rfl (qp rfl (AO (by kernel_rfl) ?_)))))))
            exact sn [] h
          ·refine qw 9 rfl (qu rfl (qu rfl (qu rfl (qu rfl (qu rfl (qu rfl (qu rfl (qu rfl (qu rfl (qu rfl (qu rfl (qn rfl (qp rfl (qp rfl (AO (by kernel_rfl) ?_)))))))))))))))
           exact sn [] h
        ·refine qw 6 rfl (qp rfl (qm rfl (qL GR Dc rfl ?_)))
         refine BZ h fun v41 a41 h => Ax [] (Cl N v27 v41 a41) Ro rfl (qm rfl ?_)
         refine Eo 130 h rfl (fun h => ?_) fun h => ?_
         ·refine qf CV rfl (ql HX rfl (qm rfl ?_))
          refine BK h fun v43 a43 b43 h => qi D4 EC a43 (Af b43) rfl (qk IH rfl (qm rfl (H5 rfl (BC rfl (qm rfl ?_)))))
          refine Eo 139 h rfl (fun h => ?_) fun h => ?_
          ·refine qw 11 rfl (qp rfl (qp rfl (qp rfl (AO (by kernel_rfl) ?_))))
           exact sn [] h
          ·refine qL B8 A3 rfl (qf CY rfl (ql BV rfl ?_))
           refine BZ h fun v45 a45 h => Ax [] (Eu N p1 v27.ff v45 a45) Wl rfl (qf CV rfl (ql HX rfl (qm rfl ?_)))
           refine BK h fun v46 a46 b46 h => qi D4 EC a46 (Af b46) rfl (qk IH rfl (H5 rfl (BC rfl (qp rfl (qp rfl (qp rfl (AO (by kernel_rfl) ?_)))))))
           exact sn [] h
         ·refine qw 9 rfl (qu rfl (qu rfl (qu rfl (qu rfl (qu rfl (qu rfl (qu rfl (qu rfl (qu rfl (qu rfl (qu rfl (qn rfl (qp rfl (qp rfl (AO (by kernel_rfl) ?_)))))))))))))))
          exact sn [] h
       ·refine Bb h (fun h => ?_) fun h => ?_
        ·refine wq rfl (qe rfl ?_)
         obtain rfl := sj h
         refine Ae (sm [] [(4, iD 1)] [] rfl rfl) (As ?_)
         exact ⟨⟨[_], tm, rfl⟩, tv⟩
        ·refine Aj (Ag Aw rfl (qm rfl (AX rfl (qe rfl ?_))))
         exact sn [] h
      ·refine AS ?_
       exact sn [] h
     ·refine Ae hs (wq rfl (qe rfl ?_))
      obtain rfl := sj h
      refine Ae (sm [] [(4, iD 0)] [] rfl rfl) (As ?_)
      exact ⟨⟨[_], tm, rfl⟩, tv⟩
theorem Me (N : Nat) (p0 : Ad) (r : Bool) (h : EO N p0 = some r) : Ap zA0 133 [.e (.agg (Dm p0))] [] (bD r) := by
 unfold EO at h
 refine cw (n := 31) (rs := [.tmp 2]) Tryz.func133 fun w0 S0 => ?_
 refine wq rfl (qb rfl (qe rfl ?_))
 refine AQ h (fun v1 => mk [(2, bD v1)] []) (fun j1 h => ?_) (fun v1 h => ?_)
 ·refine Ag Aw rfl (qf Gp rfl (ql BV rfl (E0 rfl (qm rfl ?_))))
  refine Eo 6 h rfl (fun h => ?_) fun h => ?_
  ·refine qf Gp rfl (ql BV rfl (U4 rfl (qp rfl (qm rfl ?_))))
   refine Eo 11 h rfl (fun h => ?_) fun h => ?_
   ·refine qf FA rfl (ql BV rfl (E0 rfl (qp rfl (qm rfl ?_))))
    refine Eo 16 h rfl (fun h => ?_) fun h => ?_
    ·refine qf HB rfl (ql BV rfl (E0 rfl (qp rfl (qm rfl ?_))))
     refine Eo 21 h rfl (fun h => ?_) fun h => ?_
     ·refine qf Gp rfl (ql BV rfl (Ch rfl (qm rfl ?_)))
      refine Eo 25 h rfl (fun h => ?_) fun h => ?_
      ·refine qw 3 rfl (qp rfl (qp rfl (qe rfl ?_)))
       exact sn [] h
      ·refine qf HB rfl (ql BV rfl (Ch rfl (qp rfl (qp rfl (qe rfl ?_)))))
       exact sn [] h
     ·refine qw 4 rfl (qu rfl (qu rfl (qu rfl (qn rfl (qp rfl (qe rfl ?_))))))
      exact sn [] h
    ·refine qw 3 rfl (qp rfl (qw 5 rfl (qu rfl (qu rfl (qu rfl (qn rfl (qp rfl (qe rfl ?_))))))))
     exact sn [] h
   ·refine qw 3 rfl (qp rfl (qw 4 rfl (qp rfl (qw 5 rfl (qu rfl (qu rfl (qu rfl (qn rfl (qp rfl (qe rfl ?_))))))))))
    exact sn [] h
  ·refine qw 3 rfl (qp rfl (qw 4 rfl (qp rfl (qw 4 rfl (qp rfl (qw 5 rfl (qu rfl (qu rfl (qu rfl (qn rfl (qp rfl (qe rfl ?_))))))))))))
   exact sn [] h
 ·obtain rfl := sj h
  refine Ae (sm [] [(2, bD v1)] [] rfl rfl) (As ?_)
  exact ⟨⟨[_], tm, rfl⟩, tv⟩
theorem I2 (N : Nat) (p0 : Aa) (p1 : Ac) (p2 : Ad) (r : Ac × Bool) (h : CR N p0 p1 p2 = some r) : Ap zA0 62 [.e (.agg (Ah p0)), .e (.agg (AK p1)), .e (.agg (Dm p2))] [(1, r.1.fd.map Ak), (1, r.1.fb.map Ak), (1, r.1.fe.map DV)] (.tup [.agg [.own 0, .own 1, .own 2], .one (.pure (.val (.bool r.2)))]) := by
 unfold CR at h
 refine cw (n := 201) (rs := [.cell 6 49, .tmp 7]) Tryz.func62 fun w0 S0 => ?_
 refine wq rfl (qb rfl (qb rfl (qb rfl (qz EH rfl (qa rfl (Ab (wq rfl (Dp Ar Cx IT rfl (qf Db rfl (ql A1 rfl ?_))))))))))
 refine FT h fun c1 h => I0 (f := Ak) Ar Ar Cx JU IT (fun _ => rfl) c1 rfl (Dp Ar Cx IT rfl (qf BO rfl (ql A1 rfl ?_)))
 refine FT h fun c2 h => I0 (f := Ak) Ar Ar Cx JU IT (fun _ => rfl) c2 rfl (Dp D4 EC Na rfl (qf CV rfl (ql HX rfl ?_)))
 refine FT h fun c3 h => I0 (f := DV) D4 D4 EC Pj Na (fun _ => rfl) c3 rfl (Bg EH Jl rfl (qz EH rfl (qs A3 rfl (AO (by kernel_rfl) (wq rfl (qf FA rfl (ql BV rfl (qe rfl ?_))))))))
 refine AQ h (fun v4 => mk [(6, oD (.ptr 6 0)), (8, oD (.ptr 8 0))] [(6, .box [.pure (.nil0), .pure (.nil0), .pure (.nil0)]), (8, .box [.own 2001, .own 2002, .own 2003]), (2001, .vec 1 (v4.1.map Ak)), (2002, .vec 1 (v4.2.1.map Ak)), (2003, .vec 1 (v4.2.2.map DV))]) (fun j4 h => ?_) (fun v4 h => ?_)
 ·refine wq rfl (qf Gp rfl (ql BV rfl (Ab (AH (wq rfl (Ch rfl (qe rfl ?_)))))))
  refine Bb h (fun h => ?_) fun h => ?_
  ·refine AL ?_
   refine AQ h (fun v6 => mk [(3, oD (.ptr 3 0)), (5, oD (.ptr 5 0)), (6, oD (.ptr 6 0)), (8, oD (.ptr 8 0)), (9, iD p2.fi), (60, bD v6)] [(3, .box (Ah p0)), (5, .box (Dm p2)), (6, .box [.pure (.nil0), .pure (.nil0), .pure (.nil0)]), (8, .box [.own 2004, .own 2005, .own 2006]), (2004, .vec 1 (((([] : List Int)) ++ p1.fd).map Ak)), (2005, .vec 1 (((([] : List Int)) ++ p1.fb).map Ak)), (2006, .vec 1 (((([] : List Int)) ++ p1.fe).map DV))]) (fun j6 h => ?_) (fun v6 h => ?_)
   ·refine Ag Aw rfl (qf BO rfl (ql A1 rfl (qm rfl ?_)))
    refine BK h fun v7 a7 b7 h => qi Ar Cx a7 (Af b7) rfl (qk BV rfl (E0 rfl (qm rfl ?_)))
    refine Eo 51 h rfl (fun h => ?_) fun h => ?_
    ·refine qw 8 rfl (qp rfl (AO (by kernel_rfl) ?_))
     exact sn [(2004, 18), (2005, 22), (2006, 26)] h
    ·refine qf HB rfl (ql BV rfl (qf Db rfl (ql A1 rfl (qm rfl ?_))))
     refine BK h fun v9 a9 b9 h => qi Ar Cx a9 (Af b9) rfl (qk BV rfl (Ch rfl (qp rfl (AO (by kernel_rfl) ?_))))
     exact sn [(2004, 18), (2005, 22), (2006, 26)] h
   ·refine Bb h (fun h => ?_) fun h => ?_
    ·refine wq rfl (Bg EH Jl rfl (qs A3 rfl (qe rfl ?_)))
     obtain rfl := sj h
     refine Ae ((Aq 6 0 2007 1 _ rfl rfl rfl rfl).trans ((Aq 6 1 2008 1 _ rfl rfl rfl rfl).trans ((Aq 6 2 2009 1 _ rfl rfl rfl rfl).trans (sm [(1000, 2007), (1001, 2008), (1002, 2009)] [(6, oD (.ptr 6 0)), (7, bD false)] [(6, .box [.own 1000, .own 1001, .own 1002]), (1000, .vec 1 ((([] : List Int)).map Ak)), (1001, .vec 1 ((([] : List Int)).map Ak)), (1002, .vec 1 ((([] : List Int)).map DV))] rfl rfl)))) (As ?_)
     exact ⟨⟨[_, _], ⟨.cellN _ _ _ _ _ _ _ rfl rfl B8 A3 rfl rfl (Jh rfl), tm⟩, rfl⟩, ⟨rfl, rfl, rfl, tv⟩⟩
    ·refine Aj (wq rfl (qf BO rfl (ql A1 rfl (qm rfl (qf HB rfl (ql BV rfl ?_))))))
     refine BK h fun v11 a11 b11 h => qI Ar Cx a11 (Af b11) rfl ?_
     refine Dy rfl rfl rfl rfl (Af b11) rfl Cx rfl (I3 rfl) (Dr Ak ((([] : List Int)) ++ p1.fb) _ p2.fo) ?_
     refine Ab (wq rfl (qe rfl ?_))
     refine AB (L := B3 N p0 p2) h (fun v12 => mk [(3, oD (.ptr 3 0)), (5, oD (.ptr 5 0)), (6, oD (.ptr 6 0)), (8, oD (.ptr 8 0)), (9, iD p2.fi), (10, iD v12.2)] [(3, .box (Ah p0)), (5, .box (Dm p2)), (6, .box [.pure (.nil0), .pure (.nil0), .pure (.nil0)]), (8, .box [.own 2010, .own 2011, .own 2012]), (2010, .vec 1 (((([] : List Int)) ++ p1.fd).map Ak)), (2011, .vec 1 ((((([] : List Int)) ++ p1.fb).set ((p2.fi).toNat) p2.fo).map Ak)), (2012, .vec 1 (v12.1.map DV))]) (fun v13 => mk [(6, oD (.ptr 6 0)), (8, oD (.ptr 8 0))] [(6, .box [.pure (.nil0), .pure (.nil0), .pure (.nil0)]), (8, .box [.own 2013, .own 2014, .own 2015]), (2013, .vec 1 (((([] : List Int)) ++ p1.fd).map Ak)), (2014, .vec 1 ((((([] : List Int)) ++ p1.fb).set ((p2.fi).toNat) p2.fo).map Ak)), (2015, .vec 1 (v13.map DV))]) (fun _ _ => rfl) (sm [(2010, 2004), (2011, 2005), (2012, 2006)] _ _ rfl rfl) (fun j12 n12 v12 h => ?_) (fun v13 s h hs => ?_)
     ·unfold B3 at h
      refine wp rfl (qm rfl (qf Ca rfl (ql Hc rfl (AJ Dl rfl (AT rfl (Ab ?_))))))
      refine Bb h (fun h => ?_) fun h => ?_
      ·refine Aj ?_
       refine AQ h (fun v15 => mk [(3, oD (.ptr 3 0)), (5, oD (.ptr 5 0)), (6, oD (.ptr 6 0)), (8, oD (.ptr 8 0)), (9, iD p2.fi), (10, iD v12.2)] [(3, .box (Ah p0)), (5, .box (Dm p2)), (6, .box [.pure (.nil0), .pure (.nil0), .pure (.nil0)]), (8, .box [.own 2016, .own 2017, .own 2018]), (2016, .vec 1 (((([] : List Int)) ++ p1.fd).map Ak)), (2017, .vec 1 ((((([] : List Int)) ++ p1.fb).set ((p2.fi).toNat) p2.fo).map Ak)), (2018, .vec 1 (v15.map DV))]) (fun j15 h => ?_) (fun v15 h => ?_)
       ·refine AH ?_
        refine AQ h (fun v16 => mk [(3, oD (.ptr 3 0)), (5, oD (.ptr 5 0)), (6, oD (.ptr 6 0)), (8, oD (.ptr 8 0)), (9, iD p2.fi), (10, iD v12.2), (90, bD v16)] [(3, .box (Ah p0)), (5, .box (Dm p2)), (6, .box [.pure (.nil0), .pure (.nil0), .pure (.nil0)]), (8, .box [.own 2019, .own 2020, .own 2021]), (2019, .vec 1 (((([] : List Int)) ++ p1.fd).map Ak)), (2020, .vec 1 ((((([] : List Int)) ++ p1.fb).set ((p2.fi).toNat) p2.fo).map Ak)), (2021, .vec 1 (v12.1.map DV))]) (fun j16 h => ?_) (fun v16 h => ?_)
        ·refine Ag Aw rfl (qf Ca rfl (ql Hc rfl (qm rfl ?_)))
         refine BK h fun v17 a17 b17 h => qi Dl Dc a17 (Af b17) rfl (qg CY rfl (qk BV rfl (qm rfl (Ch rfl (qm rfl ?_)))))
         refine Eo 83 h rfl (fun h => ?_) fun h => ?_
         ·refine qf Ca rfl (ql Hc rfl (qm rfl ?_))
          refine BK h fun v19 a19 b19 h => qi Dl Dc a19 (Af b19) rfl (qK GR Dc rfl ?_)
          refine BZ h fun v20 a20 h => Ax [] (Cl N v19 v20 a20) Ro rfl (qp rfl (Ab ?_))
          exact sn [(2019, 2010), (2020, 2011), (2021, 2012)] h
         ·refine qw 6 rfl (qp rfl (Ab ?_))
          exact sn [(2019, 2010), (2020, 2011), (2021, 2012)] h
        ·refine Bb h (fun h => ?_) fun h => ?_
         ·refine Ag Aw rfl (qf CV rfl (ql HX rfl (qm rfl (qf CV rfl (ql HX rfl (qm rfl ?_))))))
          refine BK h fun v22 a22 b22 h => qI D4 EC a22 (Af b22) rfl (qj IH (Af b22) rfl (qf HB rfl (ql BV rfl ?_)))
          refine FT h fun c23 h => I7 rfl c23 (Wf rfl ?_)
          refine BK h fun v24 a24 b24 h => qI D4 EC a24 (Af b24) rfl ?_
          refine Dy rfl rfl rfl rfl (Af b24) rfl EC rfl (I3 rfl) (Dr DV v12.1 _ ((PP .u8 v22 ((DQ .u8 1 p2.fo))))) ?_
          refine AO (by kernel_rfl) ?_
          exact sn [(2016, 2019), (2017, 2020), (2018, 2021)] h
         ·refine Aj ?_
          exact sn [(2016, 2019), (2017, 2020), (2018, 2021)] h
       ·refine Ag Aw rfl (qm rfl (AX rfl (qe rfl ?_)))
        exact sn [(2010, 2016), (2011, 2017), (2012, 2018)] h
      ·refine AS ?_
       exact sn [(2013, 2010), (2014, 2011), (2015, 2012)] h
     ·exact ZO _ h (hs.trans (sm [(2001, 2013), (2002, 2014), (2003, 2015)] _ _ rfl rfl))
  ·refine wq rfl (Ch rfl (qe rfl ?_))
   refine Bb h (fun h => ?_) fun h => ?_
   ·refine wp rfl (qf BO rfl (ql A1 rfl (qm rfl ?_)))
    refine BK h fun v26 a26 b26 h => qi Ar Cx a26 (Af b26) rfl (qk BV rfl (AT rfl (Ab ?_)))
    refine Bb h (fun h => ?_) fun h => ?_
    ·refine wq rfl (Bg EH Jl rfl (qs A3 rfl (qe rfl ?_)))
     obtain rfl := sj h
     refine Ae ((Aq 6 0 2022 1 _ rfl rfl rfl rfl).trans ((Aq 6 1 2023 1 _ rfl rfl rfl rfl).trans ((Aq 6 2 2024 1 _ rfl rfl rfl rfl).trans (sm [(1000, 2022), (1001, 2023), (1002, 2024)] [(6, oD (.ptr 6 0)), (7, bD false)] [(6, .box [.own 1000, .own 1001, .own 1002]), (1000, .vec 1 ((([] : List Int)).map Ak)), (1001, .vec 1 ((([] : List Int)).map Ak)), (1002, .vec 1 ((([] : List Int)).map DV))] rfl rfl)))) (As ?_)
     exact ⟨⟨[_, _], ⟨.cellN _ _ _ _ _ _ _ rfl rfl B8 A3 rfl rfl (Jh rfl), tm⟩, rfl⟩, ⟨rfl, rfl, rfl, tv⟩⟩
    ·refine Aj (Ag Aw rfl (qf Db rfl (ql A1 rfl (qm rfl (qf BO rfl (ql A1 rfl (qm rfl (qf BO rfl (ql A1 rfl (qm rfl ?_))))))))))
     refine BK h fun v28 a28 b28 h => qi Ar Cx a28 (Af b28) rfl (qk BV rfl ?_)
     refine BK h fun v29 a29 b29 h => qI Ar Cx a29 (Af b29) rfl ?_
     refine Dy rfl rfl rfl rfl (Af b29) rfl Cx rfl (I3 rfl) (Dr Ak ((([] : List Int)) ++ p1.fd) _ v28) ?_
     refine BK h fun v30 a30 b30 h => qI Ar Cx a30 (Af b30) rfl ?_
     refine Dy rfl rfl rfl rfl (Af b30) rfl Cx rfl (I3 rfl) (Dr Ak ((([] : List Int)) ++ p1.fb) _ ((-1))) ?_
     refine AO (by kernel_rfl) ?_
     exact sn [(2001, 18), (2002, 22), (2003, 26)] h
   ·refine wq rfl (Ch rfl (qe rfl ?_))
    refine Bb h (fun h => ?_) fun h => ?_
    ·refine wq rfl (qf Ca rfl (ql Hc rfl (qm rfl ?_)))
     refine BK h fun v32 a32 b32 h => qi Dl Dc a32 (Af b32) rfl (qK GR Dc rfl (qz IY rfl (qs Dc rfl (Ab (wp rfl (qL GR Dc rfl ?_))))))
     refine BZ h fun v33 a33 h => Ax [] (Cl N v32 v33 a33) Ro rfl (CD rfl (Ab ?_))
     refine Bb h (fun h => ?_) fun h => ?_
     ·refine wq rfl (Bg EH Jl rfl (qs A3 rfl (qe rfl ?_)))
      obtain rfl := sj h
      refine Ae ((Aq 6 0 2025 1 _ rfl rfl rfl rfl).trans ((Aq 6 1 2026 1 _ rfl rfl rfl rfl).trans ((Aq 6 2 2027 1 _ rfl rfl rfl rfl).trans (sm [(1000, 2025), (1001, 2026), (1002, 2027)] [(6, oD (.ptr 6 0)), (7, bD false)] [(6, .box [.own 1000, .own 1001, .own 1002]), (1000, .vec 1 ((([] : List Int)).map Ak)), (1001, .vec 1 ((([] : List Int)).map Ak)), (1002, .vec 1 ((([] : List Int)).map DV))] rfl rfl)))) (As ?_)
      exact ⟨⟨[_, _], ⟨.cellN _ _ _ _ _ _ _ rfl rfl B8 A3 rfl rfl (Jh rfl), tm⟩, rfl⟩, ⟨rfl, rfl, rfl, tv⟩⟩
     ·refine Aj (wq rfl (qL B8 A3 rfl (qf CY rfl (ql BV rfl ?_))))
      refine BZ h fun v35 a35 h => Ax [] (Eu N p1 v32.ff v35 a35) Wl rfl (qa rfl (Ab (wp rfl (qf CV rfl (ql HX rfl (qm rfl ?_))))))
      refine BK h fun v36 a36 b36 h => qi D4 EC a36 (Af b36) rfl (qk IH rfl (qm rfl (Ch rfl (Ab ?_))))
      refine Bb h (fun h => ?_) fun h => ?_
      ·refine wq rfl (Bg EH Jl rfl (qs A3 rfl (qe rfl ?_)))
       obtain rfl := sj h
       refine Ae ((Aq 6 0 2028 1 _ rfl rfl rfl rfl).trans ((Aq 6 1 2029 1 _ rfl rfl rfl rfl).trans ((Aq 6 2 2030 1 _ rfl rfl rfl rfl).trans (sm [(1000, 2028), (1001, 2029), (1002, 2030)] [(6, oD (.ptr 6 0)), (7, bD false)] [(6, .box [.own 1000, .own 1001, .own 1002]), (1000, .vec 1 ((([] : List Int)).map Ak)), (1001, .vec 1 ((([] : List Int)).map Ak)), (1002, .vec 1 ((([] : List Int)).map DV))] rfl rfl)))) (As ?_)
       exact ⟨⟨[_, _], ⟨.cellN _ _ _ _ _ _ _ rfl rfl B8 A3 rfl rfl (Jh rfl), tm⟩, rfl⟩, ⟨rfl, rfl, rfl, tv⟩⟩
      ·refine Aj (wp rfl (qe rfl ?_))
       refine AB (L := BI N p0 p1 p2 v32 v35) h (fun v38 => mk [(3, oD (.ptr 3 0)), (4, oD (.ptr 4 0)), (6, oD (.ptr 6 0)), (8, oD (.ptr 8 0)), (9, iD p2.fi), (11, oD (.ptr 11 0)), (12, pD (.val (.int .u8 v35))), (13, iD v38)] [(3, .box (Ah p0)), (4, .box (AK p1)), (6, .box [.pure (.nil0), .pure (.nil0), .pure (.nil0)]), (8, .box [.own 2031, .own 2032, .own 2033]), (11, .box (Ba v32)), (2031, .vec 1 (((([] : List Int)) ++ p1.fd).map Ak)), (2032, .vec 1 (((([] : List Int)) ++ p1.fb).map Ak)), (2033, .vec 1 (((([] : List Int)) ++ p1.fe).map DV))]) (fun v39 => mk [(6, oD (.ptr 6 0)), (8, oD (.ptr 8 0)), (9, iD p2.fi), (12, pD (.val (.int .u8 v35)))] [(6, .box [.pure (.nil0), .pure (.nil0), .pure (.nil0)]), (8, .box [.own 2034, .own 2035, .own 2036]), (2034, .vec 1 (((([] : List Int)) ++ p1.fd).map Ak)), (2035, .vec 1 (((([] : List Int)) ++ p1.fb).map Ak)), (2036, .vec 1 (((([] : List Int)) ++ p1.fe).map DV))]) (fun _ _ => rfl) (sm [(2031, 18), (2032, 22), (2033, 26)] _ _ rfl rfl) (fun j38 n38 v38 h => ?_) (fun v39 s h hs => ?_)
       ·unfold BI at h
        refine wp rfl (qm rfl (qf A7 rfl (ql A1 rfl (qf CY rfl (ql BV rfl ?_)))))
        refine BK h fun v40 a40 b40 h => qi Ar Cx a40 (Af b40) rfl (qk BV rfl (AT rfl (Ab ?_)))
        refine Bb h (fun h => ?_) fun h => ?_
        ·refine Aj (AL (AH ?_))
         refine AQ h (fun v42 => mk [(3, oD (.ptr 3 0)), (4, oD (.ptr 4 0)), (6, oD (.ptr 6 0)), (8, oD (.ptr 8 0)), (9, iD p2.fi), (11, oD (.ptr 11 0)), (12, pD (.val (.int .u8 v35))), (13, iD v38), (14, bD v42)] [(3, .box (Ah p0)), (4, .box (AK p1)), (6, .box [.pure (.nil0), .pure (.nil0), .pure (.nil0)]), (8, .box [.own 2037, .own 2038, .own 2039]), (11, .box (Ba v32)), (2037, .vec 1 (((([] : List Int)) ++ p1.fd).map Ak)), (2038, .vec 1 (((([] : List Int)) ++ p1.fb).map Ak)), (2039, .vec 1 (((([] : List Int)) ++ p1.fe).map DV))]) (fun j42 h => ?_) (fun v42 h => ?_)
         ·refine Ag Aw rfl (qf CV rfl (ql HX rfl (qm rfl ?_)))
          refine BK h fun v43 a43 b43 h => qi D4 EC a43 (Af b43) rfl (qk IH rfl (qm rfl ?_))
          refine BZ h fun v44 a44 h => Ax [] (GO N v43 v38 v44 a44) Yx rfl (qm rfl ?_)
          refine Eo 166 h rfl (fun h => ?_) fun h => ?_
          ·refine qw 2 rfl ?_
           refine BZ h fun v46 a46 h => Ax [] (GO N v35 v38 v46 a46) Yx rfl (CD rfl (qp rfl (qe rfl ?_)))
           exact sn [(2037, 2031), (2038, 2032), (2039, 2033)] h
          ·refine qw 4 rfl (qp rfl (qe rfl ?_))
           exact sn [(2037, 2031), (2038, 2032), (2039, 2033)] h
         ·refine AQ h (fun v47 => mk [(3, oD (.ptr 3 0)), (4, oD (.ptr 4 0)), (6, oD (.ptr 6 0)), (8, oD (.ptr 8 0)), (9, iD p2.fi), (11, oD (.ptr 11 0)), (12, pD (.val (.int .u8 v35))), (13, iD v38), (193, bD v47)] [(3, .box (Ah p0)), (4, .box (AK p1)), (6, .box [.pure (.nil0), .pure (.nil0), .pure (.nil0)]), (8, .box [.own 2040, .own 2041, .own 2042]), (11, .box (Ba v32)), (2040, .vec 1 (((([] : List Int)) ++ p1.fd).map Ak)), (2041, .vec 1 (((([] : List Int)) ++ p1.fb).map Ak)), (2042, .vec 1 (((([] : List Int)) ++ p1.fe).map DV))]) (fun j47 h => ?_) (fun v47 h => ?_)
          ·refine Ag Aw rfl (qw 2 rfl ?_)
           refine Eo 173 h rfl (fun h => ?_) fun h => ?_
           ·refine qf Gj rfl (ql BV rfl (Ch rfl (qp rfl (qm rfl ?_))))
            refine Eo 178 h rfl (fun h => ?_) fun h => ?_
            ·refine qf Fx rfl (ql Io rfl (qm rfl ?_))
             refine BK h fun v50 a50 b50 h => qi Ep Jy a50 (Af b50) rfl (qk Or rfl (qf Db rfl (ql A1 rfl (qf CY rfl (ql BV rfl ?_)))))
             refine BK h fun v51 a51 b51 h => qi Ar Cx a51 (Af b51) rfl (qk BV rfl ?_)
             refine BK h fun v52 a52 b52 h => qi Fo PG a52 (Af b52) rfl (qk Tv rfl (CD rfl (qp rfl (AO (by kernel_rfl) ?_))))
             exact sn [(2040, 2037), (2041, 2038), (2042, 2039)] h
            ·refine qw 14 rfl (qp rfl (AO (by kernel_rfl) ?_))
             exact sn [(2040, 2037), (2041, 2038), (2042, 2039)] h
           ·refine qw 3 rfl (qp rfl (qw 15 rfl (qp rfl (AO (by kernel_rfl) ?_))))
            exact sn [(2040, 2037), (2041, 2038), (2042, 2039)] h
          ·refine Bb h (fun h => ?_) fun h => ?_
           ·refine wq rfl (Bg EH Jl rfl (qs A3 rfl (qe rfl ?_)))
            obtain rfl := sj h
            refine Ae ((Aq 6 0 2043 1 _ rfl rfl rfl rfl).trans ((Aq 6 1 2044 1 _ rfl rfl rfl rfl).trans ((Aq 6 2 2045 1 _ rfl rfl rfl rfl).trans (sm [(1000, 2043), (1001, 2044), (1002, 2045)] [(6, oD (.ptr 6 0)), (7, bD false)] [(6, .box [.own 1000, .own 1001, .own 1002]), (1000, .vec 1 ((([] : List Int)).map Ak)), (1001, .vec 1 ((([] : List Int)).map Ak)), (1002, .vec 1 ((([] : List Int)).map DV))] rfl rfl)))) (As ?_)
            exact ⟨⟨[_, _], ⟨.cellN _ _ _ _ _ _ _ rfl rfl B8 A3 rfl rfl (Jh rfl), tm⟩, rfl⟩, ⟨rfl, rfl, rfl, tv⟩⟩
           ·refine Aj (Ag Aw rfl (qm rfl (AX rfl (qe rfl ?_))))
            exact sn [(2031, 2040), (2032, 2041), (2033, 2042)] h
        ·refine AS ?_
         exact sn [(2034, 2031), (2035, 2032), (2036, 2033)] h
       ·refine Ae hs (Ag Aw rfl (qf CV rfl (ql HX rfl (qw 2 rfl ?_))))
        refine BK h fun v54 a54 b54 h => qI D4 EC a54 (Af b54) rfl ?_
        refine Dy rfl rfl rfl rfl (Af b54) rfl EC rfl (I3 rfl) (Dr DV ((([] : List Int)) ++ p1.fe) _ v35) ?_
        refine Ab ?_
        exact sn [(2001, 2034), (2002, 2035), (2003, 2036)] h
    ·refine wp rfl (qf BO rfl (ql A1 rfl (qm rfl ?_)))
     refine BK h fun v55 a55 b55 h => qi Ar Cx a55 (Af b55) rfl (qk BV rfl (AT rfl (Ab ?_)))
     refine Bb h (fun h => ?_) fun h => ?_
     ·refine wq rfl (Bg EH Jl rfl (qs A3 rfl (qe rfl ?_)))
      obtain rfl := sj h
      refine Ae ((Aq 6 0 2046 1 _ rfl rfl rfl rfl).trans ((Aq 6 1 2047 1 _ rfl rfl rfl rfl).trans ((Aq 6 2 2048 1 _ rfl rfl rfl rfl).trans (sm [(1000, 2046), (1001, 2047), (1002, 2048)] [(6, oD (.ptr 6 0)), (7, bD false)] [(6, .box [.own 1000, .own 1001, .own 1002]), (1000, .vec 1 ((([] : List Int)).map Ak)), (1001, .vec 1 ((([] : List Int)).map Ak)), (1002, .vec 1 ((([] : List Int)).map DV))] rfl rfl)))) (As ?_)
      exact ⟨⟨[_, _], ⟨.cellN _ _ _ _ _ _ _ rfl rfl B8 A3 rfl rfl (Jh rfl), tm⟩, rfl⟩, ⟨rfl, rfl, rfl, tv⟩⟩
     ·refine Aj (Ag Aw rfl (qf BO rfl (ql A1 rfl (qm rfl ?_))))
      refine BK h fun v57 a57 b57 h => qI Ar Cx a57 (Af b57) rfl ?_
      refine Dy rfl rfl rfl rfl (Af b57) rfl Cx rfl (I3 rfl) (Dr Ak ((([] : List Int)) ++ p1.fb) _ ((-1))) ?_
      refine Ab ?_
      exact sn [(2001, 18), (2002, 22), (2003, 26)] h
 ·refine wq rfl (qL B8 A3 rfl (qs A3 rfl (qe rfl ?_)))
  obtain rfl := sj h
  refine Ae (sm [(1000, 2001), (1001, 2002), (1002, 2003)] [(6, oD (.ptr 6 0)), (7, bD true)] [(6, .box [.own 1000, .own 1001, .own 1002]), (1000, .vec 1 (v4.1.map Ak)), (1001, .vec 1 (v4.2.1.map Ak)), (1002, .vec 1 (v4.2.2.map DV))] rfl rfl) (As ?_)
  exact ⟨⟨[_, _], ⟨.cellN _ _ _ _ _ _ _ rfl rfl B8 A3 rfl rfl (Jh rfl), tm⟩, rfl⟩, ⟨rfl, rfl, rfl, tv⟩⟩
theorem L2 (N : Nat) (p0 : Aa) (p1 : Ac) (p2 : Ad) (r : Ac × Int) (h : E3 N p0 p1 p2 = some r) : Ap zA0 95 [.e (.agg (Ah p0)), .e (.agg (AK p1)), .e (.agg (Dm p2))] [(1, r.1.fd.map Ak), (1, r.1.fb.map Ak), (1, r.1.fe.map DV)] (.tup [.agg [.own 0, .own 1, .own 2], .one (iC r.2)]) := by
 unfold E3 at h
 refine cw (n := 73) (rs := [.cell 6 49, .tmp 7]) Tryz.func95 fun w0 S0 => ?_
 refine wq rfl (qb rfl (qb rfl (qb rfl (qz EH rfl (qa rfl (Ab (wp rfl (qL Dq Cu rfl (qL B8 A3 rfl ?_)))))))))
 refine BZ h fun v1 a1 h => Ax [] (Mg N p0 p1 v1 a1) di rfl (qa rfl (Ab (wq rfl (qm rfl (BC rfl (Ab ?_))))))
 refine Bb h (fun h => ?_) fun h => ?_
 ·refine wq rfl (Bg EH Jl rfl (qm rfl (qs A3 rfl (qe rfl ?_))))
  obtain rfl := sj h
  refine Ae ((Aq 6 0 2001 1 _ rfl rfl rfl rfl).trans ((Aq 6 1 2002 1 _ rfl rfl rfl rfl).trans ((Aq 6 2 2003 1 _ rfl rfl rfl rfl).trans (sm [(1000, 2001), (1001, 2002), (1002, 2003)] [(6, oD (.ptr 6 0)), (7, iD v1)] [(6, .box [.own 1000, .own 1001, .own 1002]), (1000, .vec 1 ((([] : List Int)).map Ak)), (1001, .vec 1 ((([] : List Int)).map Ak)), (1002, .vec 1 ((([] : List Int)).map DV))] rfl rfl)))) (As ?_)
  exact ⟨⟨[_, _], ⟨.cellN _ _ _ _ _ _ _ rfl rfl B8 A3 rfl rfl (Jh rfl), tm⟩, rfl⟩, ⟨rfl, rfl, rfl, tv⟩⟩
 ·refine Aj (wp rfl (qL JT E9 rfl ?_))
  refine BZ h fun v3 a3 h => Ax [] (Me N p2 v3 a3) cS rfl (CD rfl (Ab ?_))
  refine Bb h (fun h => ?_) fun h => ?_
  ·refine wq rfl (Bg EH Jl rfl (qs A3 rfl (qe rfl ?_)))
   obtain rfl := sj h
   refine Ae ((Aq 6 0 2004 1 _ rfl rfl rfl rfl).trans ((Aq 6 1 2005 1 _ rfl rfl rfl rfl).trans ((Aq 6 2 2006 1 _ rfl rfl rfl rfl).trans (sm [(1000, 2004), (1001, 2005), (1002, 2006)] [(6, oD (.ptr 6 0)), (7, iD 1)] [(6, .box [.own 1000, .own 1001, .own 1002]), (1000, .vec 1 ((([] : List Int)).map Ak)), (1001, .vec 1 ((([] : List Int)).map Ak)), (1002, .vec 1 ((([] : List Int)).map DV))] rfl rfl)))) (As ?_)
   exact ⟨⟨[_, _], ⟨.cellN _ _ _ _ _ _ _ rfl rfl B8 A3 rfl rfl (Jh rfl), tm⟩, rfl⟩, ⟨rfl, rfl, rfl, tv⟩⟩
  ·refine Aj (AL ?_)
   refine AQ h (fun v5 => mk [(3, oD (.ptr 3 0)), (4, oD (.ptr 4 0)), (5, oD (.ptr 5 0)), (6, oD (.ptr 6 0)), (45, bD v5)] [(3, .box (Ah p0)), (4, .box (AK p1)), (5, .box (Dm p2)), (6, .box [.pure (.nil0), .pure (.nil0), .pure (.nil0)])]) (fun j5 h => ?_) (fun v5 h => ?_)
   ·refine Ag Aw rfl (qf Gp rfl (ql BV rfl (Ch rfl (qm rfl ?_))))
    refine Eo 25 h rfl (fun h => ?_) fun h => ?_
    ·refine qf FA rfl (ql BV rfl (qf Ca rfl (ql Hc rfl (AJ Dl rfl (E0 rfl (qp rfl (qm rfl ?_)))))))
     refine Eo 33 h rfl (fun h => ?_) fun h => ?_
     ·refine qw 4 rfl (qu rfl (qu rfl (qu rfl (qu rfl (qu rfl (qu rfl (qn rfl (qp rfl (Ab ?_)))))))))
      exact sn [] h
     ·refine qf Gp rfl (ql BV rfl (BC rfl (qm rfl ?_)))
      refine Eo 37 h rfl (fun h => ?_) fun h => ?_
      ·refine qf FA rfl (ql BV rfl (qf A7 rfl (ql A1 rfl (AJ Ar rfl (E0 rfl (qp rfl (qp rfl (Ab ?_))))))))
       exact sn [] h
      ·refine qw 6 rfl (qp rfl (qp rfl (Ab ?_)))
       exact sn [] h
    ·refine qw 6 rfl (qp rfl (qm rfl (qf Gp rfl (ql BV rfl (BC rfl (qm rfl ?_))))))
     refine Eo 37 h rfl (fun h => ?_) fun h => ?_
     ·refine qf FA rfl (ql BV rfl (qf A7 rfl (ql A1 rfl (AJ Ar rfl (E0 rfl (qp rfl (qp rfl (Ab ?_))))))))
      exact sn [] h
     ·refine qw 6 rfl (qp rfl (qp rfl (Ab ?_)))
      exact sn [] h
   ·refine Bb h (fun h => ?_) fun h => ?_
    ·refine wq rfl (Bg EH Jl rfl (qs A3 rfl (qe rfl ?_)))
     obtain rfl := sj h
     refine Ae ((Aq 6 0 2007 1 _ rfl rfl rfl rfl).trans ((Aq 6 1 2008 1 _ rfl rfl rfl rfl).trans ((Aq 6 2 2009 1 _ rfl rfl rfl rfl).trans (sm [(1000, 2007), (1001, 2008), (1002, 2009)] [(6, oD (.ptr 6 0)), (7, iD 4)] [(6, .box [.own 1000, .own 1001, .own 1002]), (1000, .vec 1 ((([] : List Int)).map Ak)), (1001, .vec 1 ((([] : List Int)).map Ak)), (1002, .vec 1 ((([] : List Int)).map DV))] rfl rfl)))) (As ?_)
     exact ⟨⟨[_, _], ⟨.cellN _ _ _ _ _ _ _ rfl rfl B8 A3 rfl rfl (Jh rfl), tm⟩, rfl⟩, ⟨rfl, rfl, rfl, tv⟩⟩
    ·refine Aj (AL ?_)
     refine AQ h (fun v11 => mk [(3, oD (.ptr 3 0)), (4, oD (.ptr 4 0)), (5, oD (.ptr 5 0)), (6, oD (.ptr 6 0)), (60, bD v11)] [(3, .box (Ah p0)), (4, .box (AK p1)), (5, .box (Dm p2)), (6, .box [.pure (.nil0), .pure (.nil0), .pure (.nil0)])]) (fun j11 h => ?_) (fun v11 h => ?_)
     ·refine Ag Aw rfl (qf Gp rfl (ql BV rfl (Ch rfl (qm rfl ?_))))
      refine Eo 50 h rfl (fun h => ?_) fun h => ?_
      ·refine qf HB rfl (ql BV rfl (qf A7 rfl (ql A1 rfl (qf FA rfl (ql BV rfl ?_)))))
       refine BK h fun v13 a13 b13 h => qi Ar Cx a13 (Af b13) rfl (qk BV rfl (E0 rfl (qp rfl (AO (by kernel_rfl) ?_))))
       exact sn [] h
      ·refine qw 9 rfl (qp rfl (AO (by kernel_rfl) ?_))
       exact sn [] h
     ·refine Bb h (fun h => ?_) fun h => ?_
      ·refine wq rfl (Bg EH Jl rfl (qs A3 rfl (qe rfl ?_)))
       obtain rfl := sj h
       refine Ae ((Aq 6 0 2010 1 _ rfl rfl rfl rfl).trans ((Aq 6 1 2011 1 _ rfl rfl rfl rfl).trans ((Aq 6 2 2012 1 _ rfl rfl rfl rfl).trans (sm [(1000, 2010), (1001, 2011), (1002, 2012)] [(6, oD (.ptr 6 0)), (7, iD 4)] [(6, .box [.own 1000, .own 1001, .own 1002]), (1000, .vec 1 ((([] : List Int)).map Ak)), (1001, .vec 1 ((([] : List Int)).map Ak)), (1002, .vec 1 ((([] : List Int)).map DV))] rfl rfl)))) (As ?_)
       exact ⟨⟨[_, _], ⟨.cellN _ _ _ _ _ _ _ rfl rfl B8 A3 rfl rfl (Jh rfl), tm⟩, rfl⟩, ⟨rfl, rfl, rfl, tv⟩⟩
      ·refine Aj (wq rfl (qL Dq Cu rfl (qL B8 A3 rfl (qL JT E9 rfl ?_))))
       refine BZ h fun v15 a15 h => Ax [2013, 2014, 2015] (I2 N p0 p1 p2 v15 a15) aZ rfl (qm rfl (qx rfl (qx rfl (qz EH rfl (qs A3 rfl (qa rfl (Ab (wp rfl (qm rfl (CD rfl (Ab ?_)))))))))))
       refine Bb h (fun h => ?_) fun h => ?_
       ·refine wq rfl (Bg EH Jl rfl (qs A3 rfl (qe rfl ?_)))
        obtain rfl := sj h
        refine Ae ((Aq 6 0 2016 1 _ rfl rfl rfl rfl).trans ((Aq 6 1 2017 1 _ rfl rfl rfl rfl).trans ((Aq 6 2 2018 1 _ rfl rfl rfl rfl).trans (sm [(1000, 2016), (1001, 2017), (1002, 2018)] [(6, oD (.ptr 6 0)), (7, iD 11)] [(6, .box [.own 1000, .own 1001, .own 1002]), (1000, .vec 1 ((([] : List Int)).map Ak)), (1001, .vec 1 ((([] : List Int)).map Ak)), (1002, .vec 1 ((([] : List Int)).map DV))] rfl rfl)))) (As ?_)
        exact ⟨⟨[_, _], ⟨.cellN _ _ _ _ _ _ _ rfl rfl B8 A3 rfl rfl (Jh rfl), tm⟩, rfl⟩, ⟨rfl, rfl, rfl, tv⟩⟩
       ·refine Aj (wq rfl (qL B8 A3 rfl (qs A3 rfl (qe rfl ?_))))
        obtain rfl := sj h
        refine Ae (sm [(1000, 2013), (1001, 2014), (1002, 2015)] [(6, oD (.ptr 6 0)), (7, iD 0)] [(6, .box [.own 1000, .own 1001, .own 1002]), (1000, .vec 1 (v15.1.fd.map Ak)), (1001, .vec 1 (v15.1.fb.map Ak)), (1002, .vec 1 (v15.1.fe.map DV))] rfl rfl) (As ?_)
        exact ⟨⟨[_, _], ⟨.cellN _ _ _ _ _ _ _ rfl rfl B8 A3 rfl rfl (Jh rfl), tm⟩, rfl⟩, ⟨rfl, rfl, rfl, tv⟩⟩
theorem L3 (N : Nat) (p0 : Aa) (p1 : Ac) (r : (List Ad)) (h : EZ N p0 p1 = some r) : Ap zA0 61 [.e (.agg (Ah p0)), .e (.agg (AK p1))] [(3, r.map AG)] (oD (.own 0)) := by
 unfold EZ at h
 refine cw (n := 49) (rs := [.tmp 4]) Tryz.func61 fun w0 S0 => ?_
 refine wq rfl (qb rfl (qb rfl (qa rfl (Ab (wq rfl (qa rfl (Ab (wp rfl (qe rfl ?_)))))))))
 refine AB (L := Bw N p0 p1) h (fun v1 => mk [(2, oD (.ptr 2 0)), (3, oD (.ptr 3 0)), (5, oD (.own 2001)), (6, iD v1.2)] [(2, .box (Ah p0)), (3, .box (AK p1)), (2001, .vec 3 (v1.1.map AG))]) (fun v2 => mk [(5, oD (.own 2002))] [(2002, .vec 3 (v2.map AG))]) (fun _ _ => rfl) ((A6 5 2011 3 rfl rfl rfl).trans (sm [(2001, 2011)] _ _ rfl rfl)) (fun j1 n1 v1 h => ?_) (fun v2 s h hs => ?_)
 ·unfold Bw at h
  refine wp rfl (qm rfl (U4 rfl (Ab ?_)))
  refine Bb h (fun h => ?_) fun h => ?_
  ·refine Aj (AL (AH (wq rfl (qe rfl ?_))))
   refine AB (L := Cd N p0 p1 v1) h (fun v4 => mk [(2, oD (.ptr 2 0)), (3, oD (.ptr 3 0)), (5, oD (.own 2003)), (6, iD v1.2), (7, iD v4.2)] [(2, .box (Ah p0)), (3, .box (AK p1)), (2003, .vec 3 (v4.1.map AG))]) (fun v5 => mk [(2, oD (.ptr 2 0)), (3, oD (.ptr 3 0)), (5, oD (.own 2004)), (6, iD v1.2)] [(2, .box (Ah p0)), (3, .box (AK p1)), (2004, .vec 3 (v5.map AG))]) (fun _ _ => rfl) (sm [(2003, 2001)] _ _ rfl rfl) (fun j4 n4 v4 h => ?_) (fun v5 s h hs => ?_)
   ·unfold Cd at h
    refine wp rfl (qm rfl (qf A7 rfl (ql A1 rfl (AJ Ar rfl (qf Ca rfl (ql Hc rfl (AJ Dl rfl ?_)))))))
    refine bV (.p rfl) rfl rfl ?_
    refine AT rfl (Ab ?_)
    refine Bb h (fun h => ?_) fun h => ?_
    ·refine Aj (AL (AH (wq rfl (qe rfl ?_))))
     refine AB (L := Cc N p0 p1 v1 v4) h (fun v7 => mk [(2, oD (.ptr 2 0)), (3, oD (.ptr 3 0)), (5, oD (.own 2005)), (6, iD v1.2), (7, iD v4.2), (8, iD v7.2)] [(2, .box (Ah p0)), (3, .box (AK p1)), (2005, .vec 3 (v7.1.map AG))]) (fun v8 => mk [(2, oD (.ptr 2 0)), (3, oD (.ptr 3 0)), (5, oD (.own 2006)), (6, iD v1.2), (7, iD v4.2)] [(2, .box (Ah p0)), (3, .box (AK p1)), (2006, .vec 3 (v8.map AG))]) (fun _ _ => rfl) (sm [(2005, 2003)] _ _ rfl rfl) (fun j7 n7 v7 h => ?_) (fun v8 s h hs => ?_)
     ·unfold Cc at h
      refine wp rfl (qm rfl (AT rfl (Ab ?_)))
      refine Bb h (fun h => ?_) fun h => ?_
      ·refine Aj ?_
       refine AQ h (fun v10 => mk [(2, oD (.ptr 2 0)), (3, oD (.ptr 3 0)), (5, oD (.own 2007)), (6, iD v1.2), (7, iD v4.2), (8, iD v7.2)] [(2, .box (Ah p0)), (3, .box (AK p1)), (2007, .vec 3 (v10.map AG))]) (fun j10 h => ?_) (fun v10 h => ?_)
       ·refine AH (wq rfl (qw 3 rfl (Bg K7 YM rfl (qz K7 rfl (qs E9 rfl (Ab (wq rfl (qL Dq Cu rfl (qL B8 A3 rfl (qL JT E9 rfl ?_))))))))))
        refine BZ h fun v11 a11 h => Ax [2008, 2009, 2010] (L2 N p0 p1 ((Ad.mk v1.2 v4.2 v7.2)) v11 a11) dh rfl (qm rfl (qx rfl (qx rfl (qz EH rfl (qs A3 rfl (qa rfl (Ab (wq rfl (qm rfl (Ch rfl (Ab ?_)))))))))))
        refine Bb h (fun h => ?_) fun h => ?_
        ·refine Ag Aw rfl (qm rfl (qL JT E9 rfl (Dp Fa E9 K7 rfl ?_)))
         refine FT h fun c13 h => Cy (f := AG) Fa Fa E9 SW K7 c13 rfl (qe rfl ?_)
         exact sn [(2007, 47)] h
        ·refine Aj ?_
         exact sn [(2007, 2005)] h
       ·refine Ag Aw rfl (qm rfl (AX rfl (qe rfl ?_)))
        exact sn [(2005, 2007)] h
      ·refine AS ?_
       exact sn [(2006, 2005)] h
     ·refine Ae hs (Ag Aw rfl (qm rfl (AX rfl (qe rfl ?_))))
      exact sn [(2003, 2006)] h
    ·refine AS ?_
     exact sn [(2004, 2003)] h
   ·refine Ae hs (Ag Aw rfl (qm rfl (AX rfl (qe rfl ?_))))
    exact sn [(2001, 2004)] h
  ·refine AS ?_
   exact sn [(2002, 2001)] h
 ·refine Ae hs (wq rfl (qm rfl (qe rfl ?_)))
  obtain rfl := sj h
  refine Ae (sm [(1000, 2002)] [(4, oD (.own 1000))] [(1000, .vec 3 (v2.map AG))] rfl rfl) (As ?_)
  exact ⟨⟨[_], tm, rfl⟩, ⟨rfl, tv⟩⟩
theorem HN (N : Nat) (p0 : List Int) (p1 : List Int) (r : Int) (h : DB N p0 p1 = some r) : Ap zA0 129 [pD (.sl (p0.map Ak)), pD (.sl (p1.map Ak))] [] (iD r) := by
 unfold DB at h
 refine cw (n := 46) (rs := [.tmp 4]) Tryz.func129 fun w0 S0 => ?_
 refine wq rfl (qa rfl (Ab (wp rfl (qe rfl ?_))))
 refine AB (L := Dv N p0 p1) h (fun v1 => mk [(0, pD (.sl (p0.map Ak))), (1, pD (.sl (p1.map Ak))), (5, iD v1)] []) (fun v2 => mk [(0, pD (.sl (p0.map Ak))), (1, pD (.sl (p1.map Ak)))] []) (fun _ _ => rfl) (sm [] _ _ rfl rfl) (fun j1 n1 v1 h => ?_) (fun v2 s h hs => ?_)
 ·unfold Dv at h
  refine AL ?_
  refine AQ h (fun v3 => mk [(0, pD (.sl (p0.map Ak))), (1, pD (.sl (p1.map Ak))), (5, iD v1), (15, bD v3)] []) (fun j3 h => ?_) (fun v3 h => ?_)
  ·refine Ag Aw rfl (qw 2 rfl (AJ Ar rfl (AT rfl (qm rfl ?_))))
   refine Eo 10 h rfl (fun h => ?_) fun h => ?_
   ·refine qw 2 rfl (AJ Ar rfl (AT rfl (qp rfl (Ab ?_))))
    exact sn [] h
   ·refine qw 4 rfl (qp rfl (Ab ?_))
    exact sn [] h
  ·refine Bb h (fun h => ?_) fun h => ?_
   ·refine Aj (AL (AH (wp rfl (qw 2 rfl ?_))))
    refine BK h fun v6 a6 b6 h => qi Ar Cx a6 (Af b6) rfl (qk BV rfl (qw 2 rfl ?_))
    refine BK h fun v7 a7 b7 h => qi Ar Cx a7 (Af b7) rfl (qk BV rfl (AT rfl (AO (by kernel_rfl) ?_)))
    refine Bb h (fun h => ?_) fun h => ?_
    ·refine wq rfl (qe rfl ?_)
     obtain rfl := sj h
     refine Ae (sm [] [(4, iD ((-1)))] [] rfl rfl) (As ?_)
     exact ⟨⟨[_], tm, rfl⟩, tv⟩
    ·refine Aj (wq rfl (qw 2 rfl ?_))
     refine BK h fun v9 a9 b9 h => qi Ar Cx a9 (Af b9) rfl (qk BV rfl (qw 2 rfl ?_))
     refine BK h fun v10 a10 b10 h => qi Ar Cx a10 (Af b10) rfl (qk BV rfl (GB rfl (AO (by kernel_rfl) ?_)))
     refine Bb h (fun h => ?_) fun h => ?_
     ·refine wq rfl (qe rfl ?_)
      obtain rfl := sj h
      refine Ae (sm [] [(4, iD 1)] [] rfl rfl) (As ?_)
      exact ⟨⟨[_], tm, rfl⟩, tv⟩
     ·refine Aj (Ag Aw rfl (qm rfl (AX rfl (qe rfl ?_))))
      exact sn [] h
   ·refine AS ?_
    exact sn [] h
 ·refine Ae hs (wp rfl (qm rfl (AJ Ar rfl (qm rfl (AJ Ar rfl (AT rfl (Ab ?_)))))))
  refine Bb h (fun h => ?_) fun h => ?_
  ·refine wq rfl (qe rfl ?_)
   obtain rfl := sj h
   refine Ae (sm [] [(4, iD ((-1)))] [] rfl rfl) (As ?_)
   exact ⟨⟨[_], tm, rfl⟩, tv⟩
  ·refine Aj (wp rfl (qm rfl (AJ Ar rfl (qm rfl (AJ Ar rfl (GB rfl (Ab ?_)))))))
   refine Bb h (fun h => ?_) fun h => ?_
   ·refine wq rfl (qe rfl ?_)
    obtain rfl := sj h
    refine Ae (sm [] [(4, iD 1)] [] rfl rfl) (As ?_)
    exact ⟨⟨[_], tm, rfl⟩, tv⟩
   ·refine Aj (wq rfl (qe rfl ?_))
    obtain rfl := sj h
    refine Ae (sm [] [(4, iD 0)] [] rfl rfl) (As ?_)
    exact ⟨⟨[_], tm, rfl⟩, tv⟩
theorem Im (N : Nat) (p0 : List Int) (r : (List Int)) (h : Dx N p0 = some r) : Ap zA0 130 [pD (.sl (p0.map DV))] [(1, r.map Ak)] (oD (.own 0)) := by
 unfold Dx at h
 refine cw (n := 20) (rs := [.tmp 2]) Tryz.func130 fun w0 S0 => ?_
 refine wq rfl (qa rfl (Ab (wq rfl (qa rfl (Ab (wp rfl (qe rfl ?_)))))))
 refine AB (L := CT N p0) h (fun v1 => mk [(0, pD (.sl (p0.map DV))), (3, oD (.own 2001)), (4, iD v1.2)] [(2001, .vec 1 (v1.1.map Ak))]) (fun v2 => mk [(3, oD (.own 2002))] [(2002, .vec 1 (v2.map Ak))]) (fun _ _ => rfl) ((A6 3 2003 1 rfl rfl rfl).trans (sm [(2001, 2003)] _ _ rfl rfl)) (fun j1 n1 v1 h => ?_) (fun v2 s h hs => ?_)
 ·unfold CT at h
  refine wp rfl (qw 2 rfl (AJ D4 rfl (AT rfl (Ab ?_))))
  refine Bb h (fun h => ?_) fun h => ?_
  ·refine Aj (AL (AH (Ag Aw rfl (qw 3 rfl ?_))))
   refine BK h fun v4 a4 b4 h => qi D4 EC a4 (Af b4) rfl (qk IH rfl (Jx aQ XM rfl (Dp Ar Cx IT rfl ?_)))
   refine FT h fun c5 h => Cy (f := Ak) Ar Ar Cx JU IT c5 rfl (qa rfl (Ab (Ag Aw rfl (qm rfl (AX rfl (qe rfl ?_))))))
   exact sn [(2001, 18)] h
  ·refine AS ?_
   exact sn [(2002, 2001)] h
 ·refine Ae hs (wq rfl (qm rfl (qe rfl ?_)))
  obtain rfl := sj h
  refine Ae (sm [(1000, 2002)] [(2, oD (.own 1000))] [(1000, .vec 1 (v2.map Ak))] rfl rfl) (As ?_)
  exact ⟨⟨[_], tm, rfl⟩, ⟨rfl, tv⟩⟩
theorem Lb (N : Nat) (p0 : Ac) (p1 : Ac) (r : Int) (h : Eb N p0 p1 = some r) : Ap zA0 89 [.e (.agg (AK p0)), .e (.agg (AK p1))] [] (iD r) := by
 unfold Eb at h
 refine cw (n := 30) (rs := [.tmp 4]) Tryz.func89 fun w0 S0 => ?_
 refine wq rfl (qb rfl (qb rfl (qa rfl (Ab (wp rfl (qf Db rfl (ql A1 rfl (qf Db rfl (ql A1 rfl ?_)))))))))
 refine BZ h fun v1 a1 h => Ax [] (HN N p0.fd p1.fd v1 a1) Xf rfl (qa rfl (Ab (wq rfl (qm rfl (BC rfl (Ab ?_))))))
 refine Bb h (fun h => ?_) fun h => ?_
 ·refine wq rfl (qm rfl (qe rfl ?_))
  obtain rfl := sj h
  refine Ae (sm [] [(4, iD v1)] [] rfl rfl) (As ?_)
  exact ⟨⟨[_], tm, rfl⟩, tv⟩
 ·refine Aj (wp rfl (qf BO rfl (ql A1 rfl (qf BO rfl (ql A1 rfl ?_)))))
  refine BZ h fun v3 a3 h => Ax [] (HN N p0.fb p1.fb v3 a3) Xf rfl (qa rfl (Ab (wq rfl (qm rfl (BC rfl (Ab ?_))))))
  refine Bb h (fun h => ?_) fun h => ?_
  ·refine wq rfl (qm rfl (qe rfl ?_))
   obtain rfl := sj h
   refine Ae (sm [] [(4, iD v3)] [] rfl rfl) (As ?_)
   exact ⟨⟨[_], tm, rfl⟩, tv⟩
  ·refine Aj (wq rfl (qf CV rfl (ql HX rfl ?_)))
   refine BZ h fun v5 a5 h => Ax [2001] (Im N p0.fe v5 a5) ZA rfl (qf CV rfl (ql HX rfl ?_))
   refine BZ h fun v6 a6 h => Ax [2002] (Im N p1.fe v6 a6) ZA rfl ?_
   refine BZ h fun v7 a7 h => EK [] [2001, 2002] (HN N v5 v6 v7 a7) Xf C1 rfl (qa rfl (AO (by kernel_rfl) ?_))
   obtain rfl := sj h
   refine Ae (sm [] [(4, iD v7)] [] rfl rfl) (As ?_)
   exact ⟨⟨[_], tm, rfl⟩, tv⟩
theorem L7 (N : Nat) (p0 : Ac) (p1 : Ac) (r : Bool) (h : ET N p0 p1 = some r) : Ap zA0 164 [.e (.agg (AK p0)), .e (.agg (AK p1))] [] (bD r) := by
 unfold ET at h
 refine cw (n := 9) (rs := [.tmp 4]) Tryz.func164 fun w0 S0 => ?_
 refine wq rfl (qb rfl (qb rfl (qa rfl (Ab (wq rfl (qL B8 A3 rfl (qL B8 A3 rfl ?_)))))))
 refine BZ h fun v1 a1 h => Ax [] (Lb N p0 p1 v1 a1) dY rfl (Ch rfl (qe rfl ?_))
 obtain rfl := sj h
 refine Ae (sm [] [(4, bD ((v1 == 0)))] [] rfl rfl) (As ?_)
 exact ⟨⟨[_], tm, rfl⟩, tv⟩
theorem My (N : Nat) (p0 : List AD) (p1 : Ac) (r : Int) (h : Ej N p0 p1 = some r) : Ap zA0 134 [pD (.sl (p0.map Cj)), .e (.agg (AK p1))] [] (iD r) := by
 unfold Ej at h
 refine cw (n := 20) (rs := [.tmp 4]) Tryz.func134 fun w0 S0 => ?_
 refine wq rfl (qb rfl (qa rfl (Ab (wp rfl (qe rfl ?_)))))
 refine AB (L := Cr N p0 p1) h (fun v1 => mk [(0, pD (.sl (p0.map Cj))), (3, oD (.ptr 3 0)), (5, iD v1)] [(3, .box (AK p1))]) (fun v2 => mk [] []) (fun _ _ => rfl) (sm [] _ _ rfl rfl) (fun j1 n1 v1 h => ?_) (fun v2 s h hs => ?_)
 ·unfold Cr at h
  refine wp rfl (qw 2 rfl (AJ Kg rfl (AT rfl (Ab ?_))))
  refine Bb h (fun h => ?_) fun h => ?_
  ·refine Aj (AL (AH (wq rfl (qw 2 rfl ?_))))
   refine BK h fun v4 a4 b4 h => qi Kg QK a4 (Af b4) rfl (qg OR rfl (qK B8 A3 rfl (qL B8 A3 rfl ?_)))
   refine BZ h fun v5 a5 h => Ax [] (L7 N ((Ac.mk v4.fv.fd v4.fv.fb v4.fv.fe)) p1 v5 a5) bC rfl (AO (by kernel_rfl) ?_)
   refine Bb h (fun h => ?_) fun h => ?_
   ·refine wq rfl (qm rfl (qe rfl ?_))
    obtain rfl := sj h
    refine Ae (sm [] [(4, iD v1)] [] rfl rfl) (As ?_)
    exact ⟨⟨[_], tm, rfl⟩, tv⟩
   ·refine Aj (Ag Aw rfl (qm rfl (AX rfl (qe rfl ?_))))
    exact sn [] h
  ·refine AS ?_
   exact sn [] h
 ·refine Ae hs (wq rfl (qe rfl ?_))
  obtain rfl := sj h
  refine Ae (sm [] [(4, iD ((-1)))] [] rfl rfl) (As ?_)
  exact ⟨⟨[_], tm, rfl⟩, tv⟩
theorem Mc (N : Nat) (p0 : Aa) (p1 : Ac) (p2 : Int) (r : (List AD) × Bool) (h : D2 N p0 p1 p2 = some r) : Ap zA0 99 [.e (.agg (Ah p0)), .e (.agg (AK p1)), iD p2] [(7, r.1.map Cj)] (.tup [.one (.own 0), .one (.pure (.val (.bool r.2)))]) := by
 unfold D2 at h
 refine cw (n := 74) (rs := [.tmp 6, .tmp 7]) Tryz.func99 fun w0 S0 => ?_
 refine wq rfl (qb rfl (qb rfl (qa rfl (qa rfl (Ab (wq rfl (qL B8 A3 rfl (Bg R4 Zf rfl (Dp Kg QK R4 rfl (qa rfl (Ab (wp rfl (qe rfl ?_)))))))))))))
 refine AB (L := BR N p0 p2) h (fun v1 => mk [(2, iD p2), (3, oD (.ptr 3 0)), (8, oD (.own 2001)), (9, iD v1.2)] [(3, .box (Ah p0)), (2001, .vec 7 (v1.1.map Cj))]) (fun v2 => mk [(8, oD (.own 2002))] [(2002, .vec 7 (v2.map Cj))]) (fun _ _ => rfl) (sm [(2001, 16)] _ _ rfl rfl) (fun j1 n1 v1 h => ?_) (fun v2 s h hs => ?_)
 ·unfold BR at h
  refine wp rfl (qw 2 rfl (Ef Kg rfl (AT rfl (Ab ?_))))
  refine Bb h (fun h => ?_) fun h => ?_
  ·refine Aj (AL (AH (wq rfl (qL Dq Cu rfl (qw 2 rfl ?_)))))
   refine BK h fun v4 a4 b4 h => qI Kg QK a4 (Af b4) rfl (qh OR rfl ?_)
   refine Ta (.p rfl) rfl B8 A3 rfl (Af b4) rfl rfl (by decide) ?_
   refine BZ h fun v5 a5 h => Ax [2003] (L3 N p0 ((Ac.mk v4.fv.fd v4.fv.fb v4.fv.fe)) v5 a5) dS rfl (qa rfl (AO (by kernel_rfl) (wq rfl (qe rfl ?_))))
   refine AB (L := BP N p0 p2 v1 v5) h (fun v6 => mk [(2, iD p2), (3, oD (.ptr 3 0)), (8, oD (.own 2004)), (9, iD v1.2), (10, oD (.own 2005)), (11, iD v6.2)] [(3, .box (Ah p0)), (2004, .vec 7 (v6.1.map Cj)), (2005, .vec 3 (v5.map AG))]) (fun v7 => mk [(2, iD p2), (3, oD (.ptr 3 0)), (8, oD (.own 2006)), (9, iD v1.2)] [(3, .box (Ah p0)), (2006, .vec 7 (v7.map Cj))]) (fun _ _ => rfl) (sm [(2004, 2001), (2005, 2003)] _ _ rfl rfl) (fun j6 n6 v6 h => ?_) (fun v7 s h hs => ?_)
   ·unfold BP at h
    refine wp rfl (qw 2 rfl (Ef Fa rfl (AT rfl (Ab ?_))))
    refine Bb h (fun h => ?_) fun h => ?_
    ·refine Aj (AL (AH (wq rfl (qL Dq Cu rfl (qw 2 rfl ?_)))))
     refine BK h fun v9 a9 b9 h => qI Kg QK a9 (Af b9) rfl (qh OR rfl ?_)
     refine Ta (.p rfl) rfl B8 A3 rfl (Af b9) rfl rfl (by decide) ?_
     refine qw 2 rfl ?_
     refine BK h fun v10 a10 b10 h => qI Fa E9 a10 (Af b10) rfl (qJ JT E9 (Af b10) rfl ?_)
     refine BZ h fun v11 a11 h => Ax [2007, 2008, 2009] (I2 N p0 ((Ac.mk v9.fv.fd v9.fv.fb v9.fv.fe)) v10 v11 a11) aZ rfl (qm rfl (qx rfl (qx rfl (qz EH rfl (qs A3 rfl (qa rfl (AO (by kernel_rfl) ?_)))))))
     refine AQ h (fun v12 => mk [(2, iD p2), (3, oD (.ptr 3 0)), (8, oD (.own 2010)), (9, iD v1.2), (10, oD (.own 2011)), (11, iD v6.2)] [(3, .box (Ah p0)), (2010, .vec 7 (v12.map Cj)), (2011, .vec 3 (v5.map AG))]) (fun j12 h => ?_) (fun v12 h => ?_)
     ·refine AQ h (fun v13 => mk [(2, iD p2), (3, oD (.ptr 3 0)), (8, oD (.own 2015)), (9, iD v1.2), (10, oD (.own 2016)), (11, iD v6.2), (12, oD (.ptr 12 0)), (58, bD v13)] [(3, .box (Ah p0)), (12, .box [.own 2012, .own 2013, .own 2014]), (2012, .vec 1 (v11.1.fd.map Ak)), (2013, .vec 1 (v11.1.fb.map Ak)), (2014, .vec 1 (v11.1.fe.map DV)), (2015, .vec 7 (v6.1.map Cj)), (2016, .vec 3 (v5.map AG))]) (fun j13 h => ?_) (fun v13 h => ?_)
      ·refine Ag Aw rfl (qL Dq Cu rfl (qL B8 A3 rfl ?_))
       refine BZ h fun v14 a14 h => EK [] [2007, 2008, 2009] (HZ N p0 v11.1 v14 a14) cH C1 rfl (qm rfl ?_)
       refine Eo 53 h rfl (fun h => ?_) fun h => ?_
       ·refine qm rfl (qL B8 A3 rfl ?_)
        refine BZ h fun v16 a16 h => EK [] [2004, 2007, 2008, 2009] (My N v6.1 v11.1 v16 a16) bE C1 rfl (AT rfl (qp rfl (Ab ?_)))
        exact sn [(2012, 2007), (2013, 2008), (2014, 2009), (2015, 2004), (2016, 2005)] h
       ·refine qw 4 rfl (qp rfl (Ab ?_))
        exact sn [(2012, 2007), (2013, 2008), (2014, 2009), (2015, 2004), (2016, 2005)] h
      ·refine Bb h (fun h => ?_) fun h => ?_
       ·refine Ae (A9 2012 _ _ rfl rfl) (Ae (A9 2013 _ _ rfl rfl) (Ae (A9 2014 _ _ rfl rfl) (Ag Aw rfl (qm rfl (qL B8 A3 rfl (qw 3 rfl ?_))))))
        refine BK h fun v18 a18 b18 h => qI Fa E9 a18 (Af b18) rfl (qJ JT E9 (Af b18) rfl (Bg R4 Zf rfl (Dp Kg QK R4 rfl ?_)))
        refine FT h fun c19 h => Cy (f := Cj) Kg Kg QK ZQ R4 c19 rfl (qa rfl (AO (by kernel_rfl) ?_))
        exact sn [(2010, 68), (2011, 2016)] h
       ·refine Aj ?_
        exact sn [(2010, 2015), (2011, 2016)] h
     ·refine wq rfl (qm rfl (Ef Kg rfl (qm rfl (GB rfl (Ab ?_)))))
      refine Bb h (fun h => ?_) fun h => ?_
      ·refine wq rfl (qa rfl (qe rfl ?_))
       obtain rfl := sj h
       refine Ae ((A6 6 2017 7 rfl rfl rfl).trans (sm [(1000, 2017)] [(6, oD (.own 1000)), (7, bD false)] [(1000, .vec 7 ((([] : List AD)).map Cj))] rfl rfl)) (As ?_)
       exact ⟨⟨[_, _], ⟨.tmp _ _ rfl, tm⟩, rfl⟩, ⟨rfl, tv⟩⟩
      ·refine Aj (Ag Aw rfl (qm rfl (AX rfl (qe rfl ?_))))
       exact sn [(2004, 2010), (2005, 2011)] h
    ·refine AS ?_
     exact sn [(2006, 2004)] h
   ·refine Ae hs (Ag Aw rfl (qm rfl (AX rfl (qe rfl ?_))))
    exact sn [(2001, 2006)] h
  ·refine AS ?_
   exact sn [(2002, 2001)] h
 ·refine Ae hs (wq rfl (qm rfl (qa rfl (qe rfl ?_))))
  obtain rfl := sj h
  refine Ae (sm [(1000, 2002)] [(6, oD (.own 1000)), (7, bD true)] [(1000, .vec 7 (v2.map Cj))] rfl rfl) (As ?_)
  exact ⟨⟨[_, _], ⟨.tmp _ _ rfl, tm⟩, rfl⟩, ⟨rfl, tv⟩⟩
theorem Mf (N : Nat) (p0 : Aa) (p1 : Int) (r : Bool) (h : EV N p0 p1 = some r) : Ap zA0 68 [.e (.agg (Ah p0)), iD p1] [] (bD r) := by
 unfold EV at h
 refine cw (n := 30) (rs := [.tmp 4]) Tryz.func68 fun w0 S0 => ?_
 refine wq rfl (qb rfl (qa rfl (Ab (wq rfl (qL Dq Cu rfl ?_)))))
 refine BZ h fun v1 a1 h => Ax [2001, 2002, 2003] (Mb N p0 v1 a1) dW rfl (qm rfl (qx rfl (qx rfl (qz EH rfl (qs A3 rfl (qa rfl (Ab (AL ?_))))))))
 refine AQ h (fun v2 => mk [(1, iD p1), (2, oD (.ptr 2 0)), (5, oD (.ptr 5 0)), (21, bD v2)] [(2, .box (Ah p0)), (5, .box [.own 2004, .own 2005, .own 2006]), (2004, .vec 1 (v1.1.fd.map Ak)), (2005, .vec 1 (v1.1.fb.map Ak)), (2006, .vec 1 (v1.1.fe.map DV))]) (fun j2 h => ?_) (fun v2 h => ?_)
 ·refine Ag Aw rfl (qm rfl (BC rfl (qm rfl ?_)))
  refine Eo 16 h rfl (fun h => ?_) fun h => ?_
  ·refine qw 4 rfl (qp rfl (Ab ?_))
   exact sn [(2004, 2001), (2005, 2002), (2006, 2003)] h
  ·refine qL Dq Cu rfl (qL B8 A3 rfl ?_)
   refine BZ h fun v4 a4 h => EK [] [2001, 2002, 2003] (HZ N p0 v1.1 v4 a4) cH C1 rfl (CD rfl (qp rfl (Ab ?_)))
   exact sn [(2004, 2001), (2005, 2002), (2006, 2003)] h
 ·refine Bb h (fun h => ?_) fun h => ?_
  ·refine wq rfl (qe rfl ?_)
   obtain rfl := sj h
   refine Ae (sm [] [(4, bD true)] [] rfl rfl) (As ?_)
   exact ⟨⟨[_], tm, rfl⟩, tv⟩
  ·refine Aj (wq rfl (qL Dq Cu rfl (qL B8 A3 rfl (qm rfl (CQ (A9 2004 _ _ rfl rfl) (CQ (A9 2005 _ _ rfl rfl) (CQ (A9 2006 _ _ rfl rfl) ?_)))))))
   refine BZ h fun v6 a6 h => Ax [2007] (Mc N p0 v1.1 p1 v6 a6) dR rfl (qm rfl (qx rfl (qx rfl (qa rfl (qa rfl (Ab (wq rfl (qm rfl (qe rfl ?_)))))))))
   obtain rfl := sj h
   refine Ae (sm [] [(4, bD v6.2)] [] rfl rfl) (As ?_)
   exact ⟨⟨[_], tm, rfl⟩, tv⟩
theorem L6 (N : Nat) (p0 : Aa) (r : Bool) (h : FO N p0 = some r) : Ap zA0 36 [.e (.agg (Ah p0))] [] (bD r) := by
 unfold FO at h
 refine cw (n := 40) (rs := [.tmp 2]) Tryz.func36 fun w0 S0 => ?_
 refine wq rfl (qb rfl (qa rfl (Ab (wp rfl (qL Dq Cu rfl ?_)))))
 refine BZ h fun v1 a1 h => Ax [] (Ed N p0 v1 a1) XS rfl (BC rfl (Ab ?_))
 refine Bb h (fun h => ?_) fun h => ?_
 ·refine wq rfl (qe rfl ?_)
  obtain rfl := sj h
  refine Ae (sm [] [(2, bD true)] [] rfl rfl) (As ?_)
  exact ⟨⟨[_], tm, rfl⟩, tv⟩
 ·refine Aj (wp rfl (qf A7 rfl (ql A1 rfl (AJ Ar rfl (GB rfl (Ab ?_))))))
  refine Bb h (fun h => ?_) fun h => ?_
  ·refine wq rfl (qe rfl ?_)
   obtain rfl := sj h
   refine Ae (sm [] [(2, bD false)] [] rfl rfl) (As ?_)
   exact ⟨⟨[_], tm, rfl⟩, tv⟩
  ·refine Aj (wq rfl (qf A7 rfl (ql A1 rfl (AJ Ar rfl ?_))))
   refine BZ h fun v4 a4 h => Ax [2001] (MC N ((p0.fa.length : Int)) v4 a4) dQ rfl (qa rfl (Ab (wp rfl (qe rfl ?_))))
   refine AB (L := CJ N p0 v4) h (fun v5 => mk [(1, oD (.ptr 1 0)), (3, oD (.own 2002)), (4, iD v5)] [(1, .box (Ah p0)), (2002, .vec 1 (v4.map (EX Ak)))]) (fun v6 => mk [] []) (fun _ _ => rfl) (sm [(2002, 2001)] _ _ rfl rfl) (fun j5 n5 v5 h => ?_) (fun v6 s h hs => ?_)
   ·unfold CJ at h
    refine wp rfl (qw 2 rfl (Ef Fc rfl (AT rfl (Ab ?_))))
    refine Bb h (fun h => ?_) fun h => ?_
    ·refine Aj (AL (AH (wq rfl (qL Dq Cu rfl (qw 2 rfl ?_)))))
     refine BK h fun v8 a8 b8 h => qI Fc G8 a8 (Af b8) rfl (qj A1 (Af b8) rfl ?_)
     refine BZ h fun v9 a9 h => Ax [2003, 2004, 2005, 2006] (KP N p0 v8 v9 a9) d8 rfl (qm rfl (qx rfl (qx rfl (qz Kx rfl (qs Cu rfl (qa rfl (AO (by kernel_rfl) ?_)))))))
     refine AQ h (fun v10 => mk [(1, oD (.ptr 1 0)), (3, oD (.own 2007)), (4, iD v5), (39, bD v10)] [(1, .box (Ah p0)), (2007, .vec 1 (v4.map (EX Ak)))]) (fun j10 h => ?_) (fun v10 h => ?_)
     ·refine Ag Aw rfl (qm rfl (BC rfl (qm rfl ?_)))
      refine Eo 35 h rfl (fun h => ?_) fun h => ?_
      ·refine qw 3 rfl (qp rfl (Ab ?_))
       exact sn [(2007, 2002)] h
      ·refine qL Dq Cu rfl ?_
       refine BZ h fun v12 a12 h => EK [] [2003, 2004, 2005, 2006] (Mf N v9.1 120 v12 a12) dU C1 rfl (CD rfl (qp rfl (Ab ?_)))
       exact sn [(2007, 2002)] h
     ·refine Bb h (fun h => ?_) fun h => ?_
      ·refine wq rfl (qe rfl ?_)
       obtain rfl := sj h
       refine Ae (sm [] [(2, bD false)] [] rfl rfl) (As ?_)
       exact ⟨⟨[_], tm, rfl⟩, tv⟩
      ·refine Aj (Ag Aw rfl (qm rfl (AX rfl (qe rfl ?_))))
       exact sn [(2002, 2007)] h
    ·refine AS ?_
     exact sn [] h
   ·refine Ae hs (wq rfl (qe rfl ?_))
    obtain rfl := sj h
    refine Ae (sm [] [(2, bD true)] [] rfl rfl) (As ?_)
    exact ⟨⟨[_], tm, rfl⟩, tv⟩
theorem NE (N : Nat) (p0 : BF) (r : Aa × Bool) (h : zFS N p0 = some r) : Ap zA0 10 [.e (.agg (CN p0))] [(1, r.1.fa.map Ak), (1, r.1.fh.map Ak), (1, r.1.fq.map Ak), (6, r.1.fc.map AM)] (.tup [.agg [.own 0, .own 1, .own 2, .own 3], .one (.pure (.val (.bool r.2)))]) := by
 unfold zFS at h
 refine cw (n := 17) (rs := [.cell 2 29, .tmp 3]) Tryz.func10 fun w0 S0 => ?_
 refine wq rfl (qb rfl (qz Kx rfl (qa rfl (Ab (wq rfl (qL bu bt rfl ?_))))))
 refine BZ h fun v1 a1 h => Ax [2001, 2002, 2003, 2004] (NH N p0 v1 a1) ee rfl (qm rfl (qx rfl (qx rfl (qz Kx rfl (qs Cu rfl (qe rfl ?_))))))
 refine AQ h (fun v2 => mk [(2, oD (.ptr 2 0)), (3, bD v2)] [(2, .box [.own 2005, .own 2006, .own 2007, .own 2008]), (2005, .vec 1 (v1.1.fa.map Ak)), (2006, .vec 1 (v1.1.fh.map Ak)), (2007, .vec 1 (v1.1.fq.map Ak)), (2008, .vec 6 (v1.1.fc.map AM))]) (fun j2 h => ?_) (fun v2 h => ?_)
 ·refine Ag Aw rfl (qL Dq Cu rfl (qw 2 rfl ?_))
  refine Eo 13 h rfl (fun h => ?_) fun h => ?_
  ·refine qL Dq Cu rfl ?_
   refine BZ h fun v4 a4 h => EK [] [2001, 2002, 2003, 2004] (L6 N v1.1 v4 a4) ej C1 rfl (qp rfl (qs Cu rfl (qa rfl (AO (by kernel_rfl) ?_))))
   exact sn [(2005, 2001), (2006, 2002), (2007, 2003), (2008, 2004)] h
  ·refine qw 2 rfl (qp rfl (qs Cu rfl (qa rfl (AO (by kernel_rfl) ?_))))
   exact sn [(2005, 2001), (2006, 2002), (2007, 2003), (2008, 2004)] h
 ·obtain rfl := sj h
  refine Ae (sm [(1000, 2005), (1001, 2006), (1002, 2007), (1003, 2008)] [(2, oD (.ptr 2 0)), (3, bD v2)] [(2, .box [.own 1000, .own 1001, .own 1002, .own 1003]), (1000, .vec 1 (v1.1.fa.map Ak)), (1001, .vec 1 (v1.1.fh.map Ak)), (1002, .vec 1 (v1.1.fq.map Ak)), (1003, .vec 6 (v1.1.fc.map AM))] rfl rfl) (As ?_)
  exact ⟨⟨[_, _], ⟨.cellN _ _ _ _ _ _ _ rfl rfl Dq Cu rfl rfl (Jh rfl), tm⟩, rfl⟩, ⟨rfl, rfl, rfl, rfl, tv⟩⟩
theorem HP (N : Nat) (r : (List (List Bool))) (h : EG N = some r) : Ap zA0 69 [] [(1, r.map (EX eB))] (oD (.own 0)) := by
 unfold EG at h
 refine cw (n := 4) (rs := [.tmp 0]) Tryz.func69 fun w0 S0 => ?_
 refine wq rfl (qa rfl (Ab (wq rfl (Dp Fo PG Tw rfl (Dp Fo PG Tw rfl (CQ (A9 1 _ _ rfl rfl) (CQ (A9 2 _ _ rfl rfl) (Dp Ep Jy TL rfl (qe rfl ?_)))))))))
 obtain rfl := sj h
 refine Ae (sm [(1000, 3)] [(0, oD (.own 1000))] [(1000, .vec 1 ((([([true, false] : List Bool), ([false, true] : List Bool)] : List (List Bool))).map (EX eB)))] rfl rfl) (As ?_)
 exact ⟨⟨[_], tm, rfl⟩, ⟨rfl, tv⟩⟩
theorem GJ (N : Nat) (p0 : Bool) (r : Aa) (h : Eg N p0 = some r) : Ap zA0 37 [bD p0] [(1, r.fa.map Ak), (1, r.fh.map Ak), (1, r.fq.map Ak), (6, r.fc.map AM)] (.e (.agg [.own 0, .own 1, .own 2, .own 3])) := by
 unfold Eg at h
 refine cw (n := 17) (rs := [.cell 2 29]) Tryz.func37 fun w0 S0 => ?_
 refine wq rfl (qz Kx rfl (Ab (wq rfl (qa rfl (Ab (wq rfl (Dp Ar Cx IT rfl (Dp Ar Cx IT rfl (Dp Ar Cx IT rfl (qw 2 rfl ?_))))))))))
 refine BZ h fun v1 a1 h => UP (ds0 := []) [2001] (HP N v1 a1) (.p rfl) rfl cP rfl tv rfl rfl rfl (Gg rfl) ⟨rfl, tv⟩ rfl ?_
 refine Bg IY Y5 rfl (qw 2 rfl ?_)
 refine BZ h fun v2 a2 h => UP (ds0 := []) [2002] (HP N v2 a2) (.p rfl) rfl cP rfl tv rfl rfl rfl (Gg rfl) ⟨rfl, tv⟩ rfl ?_
 refine Bg IY Y5 rfl (CQ (A9 2001 _ _ rfl rfl) (CQ (A9 2002 _ _ rfl rfl) (Dp Dl Dc IY rfl (Bg Kx R3 rfl (qs Cu rfl (Ab ?_))))))
 obtain rfl := sj h
 refine Ae (sm [(1000, 4), (1001, 5), (1002, 6), (1003, 15)] [(2, oD (.ptr 2 0))] [(2, .box [.own 1000, .own 1001, .own 1002, .own 1003]), (1000, .vec 1 ((([2, 2, 2] : List Int)).map Ak)), (1001, .vec 1 ((([0, 0, 0] : List Int)).map Ak)), (1002, .vec 1 ((([1, 1, 1] : List Int)).map Ak)), (1003, .vec 6 ((([(Al.mk 1 0 1 p0 v1 (([] : List (List Bool)))), (Al.mk 1 1 0 p0 v2 (([] : List (List Bool))))] : List Al)).map AM))] rfl rfl) (As ?_)
 exact ⟨⟨[_], ⟨.cellN _ _ _ _ _ _ _ rfl rfl Dq Cu rfl rfl (Jh rfl), tv⟩, rfl⟩, ⟨rfl, rfl, rfl, rfl, tv⟩⟩
theorem GZ (N : Nat) (p0 : Int) (p1 : Int) (r : Bool) (h : Dt N p0 p1 = some r) : Ap zA0 70 [iD p0, iD p1] [] (bD r) := by
 unfold Dt at h
 refine cw (n := 12) (rs := [.tmp 4]) Tryz.func70 fun w0 S0 => ?_
 refine wq rfl (qe rfl ?_)
 refine AQ h (fun v1 => mk [(4, bD v1)] []) (fun j1 h => ?_) (fun v1 h => ?_)
 ·refine Ag Aw rfl (qm rfl (E0 rfl (qm rfl ?_)))
  refine Eo 7 h rfl (fun h => ?_) fun h => ?_
  ·refine qw 2 rfl (AT rfl (qp rfl (qe rfl ?_)))
   exact sn [] h
  ·refine qw 3 rfl (qp rfl (qe rfl ?_))
   exact sn [] h
 ·obtain rfl := sj h
  refine Ae (sm [] [(4, bD v1)] [] rfl rfl) (As ?_)
  exact ⟨⟨[_], tm, rfl⟩, tv⟩
theorem Rk (N : Nat) (p0 : Int) (p1 : Bool) (r : Bool) (h : Hu N p0 p1 = some r) : Ap zA0 100 [iD p0, bD p1] [] (bD r) := by
 unfold Hu at h
 refine cw (n := 23) (rs := [.tmp 4]) Tryz.func100 fun w0 S0 => ?_
 refine wq rfl (qe rfl ?_)
 refine AQ h (fun v1 => mk [(4, bD v1)] []) (fun j1 h => ?_) (fun v1 h => ?_)
 ·refine Ag Aw rfl (qm rfl (Ch rfl (qm rfl ?_)))
  refine Eo 7 h rfl (fun h => ?_) fun h => ?_
  ·refine qw 2 rfl (qp rfl (qw 4 rfl (qu rfl (qu rfl (qw 2 rfl (qu rfl (qu rfl (qn rfl (qp rfl (qe rfl ?_))))))))))
   exact sn [] h
  ·refine qm rfl (Ch rfl (qp rfl (qm rfl ?_)))
   refine Eo 11 h rfl (fun h => ?_) fun h => ?_
   ·refine qw 3 rfl (qu rfl (qu rfl (qw 2 rfl (qu rfl (qu rfl (qn rfl (qp rfl (qe rfl ?_))))))))
    exact sn [] h
   ·refine qm rfl (Ch rfl (qm rfl ?_))
    refine Eo 14 h rfl (fun h => ?_) fun h => ?_
    ·refine qw 2 rfl (qp rfl (qw 2 rfl (CD rfl (qp rfl (qp rfl (qe rfl ?_))))))
     exact sn [] h
    ·refine qm rfl (Ch rfl (qp rfl (qm rfl ?_)))
     refine Eo 18 h rfl (fun h => ?_) fun h => ?_
     ·refine qm rfl (CD rfl (qp rfl (qp rfl (qe rfl ?_))))
      exact sn [] h
     ·refine qw 2 rfl (qp rfl (qp rfl (qe rfl ?_)))
      exact sn [] h
 ·obtain rfl := sj h
  refine Ae (sm [] [(4, bD v1)] [] rfl rfl) (As ?_)
  exact ⟨⟨[_], tm, rfl⟩, tv⟩
theorem NV (N : Nat) (p0 : List Bool) (p1 : Int) (r : Bool) (h : Eh N p0 p1 = some r) : Ap zA0 136 [pD (.sl (p0.map eB)), oD (.rop [.val (.int .i64 p1)])] [] (bD r) := by
 unfold Eh at h
 refine cw (n := 8) (rs := [.tmp 3]) Tryz.func136 fun w0 S0 => ?_
 refine wq rfl (qa rfl (Ab (wq rfl (qm rfl (AJ Fo rfl (qk BV rfl (BC rfl (qe rfl ?_))))))))
 obtain rfl := sj h
 refine Ae (sm [] [(3, bD (((p0.length : Int) != p1)))] [] rfl rfl) (As ?_)
 exact ⟨⟨[_], tm, rfl⟩, tv⟩
theorem IV (N : Nat) (p0 : List (List Bool)) (p1 : (List Bool) → Option Bool) (r : Int) (h : DG N p0 p1 = some r) : Ap zA0 165 [pD (.sl (p0.map (EX eB))), oD (.clo (Hn (Lc false (EX eB)) tB p1))] [] (iD r) := by
 unfold DG at h
 refine cw (n := 19) (rs := [.tmp 4]) Tryz.func165 fun w0 S0 => ?_
 refine wq rfl (qa rfl (Ab (wp rfl (qm rfl (AJ Ep rfl (qm rfl (Ab ?_)))))))
 refine AB (L := Bq N p0 p1) h (fun v1 => mk [(0, pD (.sl (p0.map (EX eB)))), (1, oD (.clo (Hn (Lc false (EX eB)) tB p1))), (7, iD ((p0.length : Int))), (8, iD v1)] []) (fun v2 => mk [] []) (fun _ _ => rfl) (sm [] _ _ rfl rfl) (fun j1 n1 v1 h => ?_) (fun v2 s h hs => ?_)
 ·unfold Bq at h
  refine wq rfl (AT rfl (Ab (AL ?_)))
  refine Bb h (fun h => ?_) fun h => ?_
  ·refine Aj (AL (AH (wq rfl (qm rfl (qa rfl (Ab (wq rfl (qw 3 rfl ?_))))))))
   refine BK h fun v4 a4 b4 h => qi Ep Jy a4 (Af b4) rfl (qk Or rfl ?_)
   refine BZ h fun v5 a5 h => KO (ds0 := [_]) (ar := (Lc false (EX eB)) v4) (.p rfl) rfl rfl ⟨rfl, tv⟩ rfl rfl rfl (J3 (KT _ _ (cm dE)) a5) ?_
   refine Ab ?_
   refine Bb h (fun h => ?_) fun h => ?_
   ·refine wq rfl (qm rfl (qe rfl ?_))
    obtain rfl := sj h
    refine Ae (sm [] [(4, iD v1)] [] rfl rfl) (As ?_)
    exact ⟨⟨[_], tm, rfl⟩, tv⟩
   ·refine Aj (Ag Aw rfl (AX rfl (qm rfl (Ab ?_))))
    exact sn [] h
  ·refine AS ?_
   exact sn [] h
 ·refine Ae hs (wq rfl (qe rfl ?_))
  obtain rfl := sj h
  refine Ae (sm [] [(4, iD ((-1)))] [] rfl rfl) (As ?_)
  exact ⟨⟨[_], tm, rfl⟩, tv⟩
theorem Ij (N : Nat) (p0 : List (List Bool)) (p1 : (List Bool) → Option Bool) (r : Bool) (h : C5 N p0 p1 = some r) : Ap zA0 135 [pD (.sl (p0.map (EX eB))), oD (.clo (Hn (Lc false (EX eB)) tB p1))] [] (bD r) := by
 unfold C5 at h
 refine cw (n := 9) (rs := [.tmp 4]) Tryz.func135 fun w0 S0 => ?_
 refine wq rfl (qa rfl (Ab (wq rfl (qw 2 rfl ?_))))
 refine BZ h fun v1 a1 h => Ax [] (IV N p0 p1 v1 a1) cI rfl (E0 rfl (qe rfl ?_))
 obtain rfl := sj h
 refine Ae (sm [] [(4, bD ((decide (0 ≤ v1))))] [] rfl rfl) (As ?_)
 exact ⟨⟨[_], tm, rfl⟩, tv⟩
theorem LO (N : Nat) (p0 : List (List Bool)) (p1 : Int) (p2 : Int) (r : Bool) (h : FE N p0 p1 p2 = some r) : Ap zA0 101 [pD (.sl (p0.map (EX eB))), iD p1, iD p2] [] (bD r) := by
 unfold FE at h
 refine cw (n := 17) (rs := [.tmp 6]) Tryz.func101 fun w0 S0 => ?_
 refine wq rfl (qb rfl (qe rfl ?_))
 refine AQ h (fun v1 => mk [(6, bD v1)] []) (fun j1 h => ?_) (fun v1 h => ?_)
 ·refine Ag Aw rfl (qm rfl (AJ Ep rfl (qm rfl (Ch rfl (qm rfl ?_)))))
  refine Eo 11 h rfl (fun h => ?_) fun h => ?_
  ·refine qm rfl (CQ (H2 5 [.val (.int .i64 p2)] rfl rfl) ?_)
   refine Ip (capD := [_]) (Hn (Lc false (EX eB)) tB ((fun (x : List Bool) => Eh N x p2))) (.g rfl rfl) aL rfl ⟨rfl, tv⟩ rfl (fun ar t ht => by obtain ⟨x, r, rfl, hq, rfl⟩ := HT ht; exact NV N x p2 r hq) ?_
   refine BZ h fun v3 a3 h => Ax [] (Ij N p0 ((fun (x : List Bool) => Eh N x p2)) v3 a3) cj rfl (CD rfl (qp rfl (qe rfl ?_)))
   exact sn [] h
  ·refine qw 4 rfl (qp rfl (qe rfl ?_))
   exact sn [] h
 ·obtain rfl := sj h
  refine Ae (sm [] [(6, bD v1)] [] rfl rfl) (As ?_)
  exact ⟨⟨[_], tm, rfl⟩, tv⟩
theorem PW (N : Nat) (p0 : Aa) (p1 : Al) (r : Int) (h : GT N p0 p1 = some r) : Ap zA0 71 [.e (.agg (Ah p0)), .e (.agg (Ba p1))] [] (iD r) := by
 unfold GT at h
 refine cw (n := 87) (rs := [.tmp 4]) Tryz.func71 fun w0 S0 => ?_
 refine wq rfl (qb rfl (qb rfl (qa rfl (Ab (wp rfl (qf Gj rfl (ql BV rfl (qf Jm rfl (ql Tv rfl ?_)))))))))
 refine BZ h fun v1 a1 h => Ax [] (Rk N p1.fg p1.ft v1 a1) bv rfl (CD rfl (Ab ?_))
 refine Bb h (fun h => ?_) fun h => ?_
 ·refine wq rfl (qe rfl ?_)
  obtain rfl := sj h
  refine Ae (sm [] [(4, iD 1)] [] rfl rfl) (As ?_)
  exact ⟨⟨[_], tm, rfl⟩, tv⟩
 ·refine Aj (AL ?_)
  refine AQ h (fun v3 => mk [(2, oD (.ptr 2 0)), (3, oD (.ptr 3 0)), (29, bD v3)] [(2, .box (Ah p0)), (3, .box (Ba p1))]) (fun j3 h => ?_) (fun v3 h => ?_)
  ·refine Ag Aw rfl (qf CY rfl (ql BV rfl (qf A7 rfl (ql A1 rfl (AJ Ar rfl ?_)))))
   refine BZ h fun v4 a4 h => Ax [] (GZ N p1.ff ((p0.fa.length : Int)) v4 a4) XG rfl (CD rfl (qm rfl ?_))
   refine Eo 21 h rfl (fun h => ?_) fun h => ?_
   ·refine qw 7 rfl (qp rfl (Ab ?_))
    exact sn [] h
   ·refine qf HD rfl (ql BV rfl (qf A7 rfl (ql A1 rfl (AJ Ar rfl ?_))))
    refine BZ h fun v6 a6 h => Ax [] (GZ N p1.fj ((p0.fa.length : Int)) v6 a6) XG rfl (CD rfl (qp rfl (Ab ?_)))
    exact sn [] h
  ·refine Bb h (fun h => ?_) fun h => ?_
   ·refine wq rfl (qe rfl ?_)
    obtain rfl := sj h
    refine Ae (sm [] [(4, iD 4)] [] rfl rfl) (As ?_)
    exact ⟨⟨[_], tm, rfl⟩, tv⟩
   ·refine Aj (wq rfl (qf A7 rfl (ql A1 rfl (qf CY rfl (ql BV rfl ?_)))))
    refine BK h fun v8 a8 b8 h => qi Ar Cx a8 (Af b8) rfl (qk BV rfl (qa rfl (Ab (wq rfl (qf Gj rfl (ql BV rfl (Ch rfl (qa rfl (Ab (AL ?_))))))))))
    refine AQ h (fun v9 => mk [(3, oD (.ptr 3 0)), (70, bD v9)] [(3, .box (Ba p1))]) (fun j9 h => ?_) (fun v9 h => ?_)
    ·refine Ag Aw rfl (qf Hg rfl (ql Io rfl (qm rfl (qf A7 rfl (ql A1 rfl (qf HD rfl (ql BV rfl ?_)))))))
     refine BK h fun v10 a10 b10 h => qi Ar Cx a10 (Af b10) rfl (qk BV rfl ?_)
     refine BZ h fun v11 a11 h => Ax [] (LO N p1.fr v8 v10 v11 a11) Zr rfl (CD rfl (qm rfl ?_))
     refine Eo 50 h rfl (fun h => ?_) fun h => ?_
     ·refine qw 2 rfl (qu rfl (qu rfl (qu rfl (qu rfl (qu rfl (qu rfl (qn rfl (qp rfl (qw 4 rfl (qu rfl (qu rfl (qu rfl (qu rfl (qn rfl (qp rfl (AO (by kernel_rfl) ?_))))))))))))))))
      exact sn [] h
     ·refine qw 2 rfl ?_
      refine Eo 52 h rfl (fun h => ?_) fun h => ?_
      ·refine qf Fx rfl (ql Io rfl (qw 2 rfl ?_))
       refine BZ h fun v14 a14 h => Ax [] (LO N p1.fk v8 v8 v14 a14) Zr rfl (CD rfl (qp rfl (qp rfl (qm rfl ?_))))
       refine Eo 61 h rfl (fun h => ?_) fun h => ?_
       ·refine qw 3 rfl (qu rfl (qu rfl (qu rfl (qu rfl (qn rfl (qp rfl (AO (by kernel_rfl) ?_)))))))
        exact sn [] h
       ·refine qm rfl (CD rfl (qm rfl ?_))
        refine Eo 64 h rfl (fun h => ?_) fun h => ?_
        ·refine qf Fx rfl (ql Io rfl (AJ Ep rfl (GB rfl (qp rfl (qp rfl (AO (by kernel_rfl) ?_))))))
         exact sn [] h
        ·refine qw 4 rfl (qp rfl (qp rfl (AO (by kernel_rfl) ?_)))
         exact sn [] h
      ·refine qw 6 rfl (qp rfl (qp rfl (qw 2 rfl (CD rfl (qm rfl ?_)))))
       refine Eo 64 h rfl (fun h => ?_) fun h => ?_
       ·refine qf Fx rfl (ql Io rfl (AJ Ep rfl (GB rfl (qp rfl (qp rfl (AO (by kernel_rfl) ?_))))))
        exact sn [] h
       ·refine qw 4 rfl (qp rfl (qp rfl (AO (by kernel_rfl) ?_)))
        exact sn [] h
    ·refine Bb h (fun h => ?_) fun h => ?_
     ·refine wq rfl (qe rfl ?_)
      obtain rfl := sj h
      refine Ae (sm [] [(4, iD 6)] [] rfl rfl) (As ?_)
      exact ⟨⟨[_], tm, rfl⟩, tv⟩
     ·refine Aj (wp rfl (qf Fx rfl (ql Io rfl (AJ Ep rfl (qm rfl (Ab ?_))))))
      refine AB (L := Dn N p1) h (fun v19 => mk [(3, oD (.ptr 3 0)), (73, iD ((p1.fk.length : Int))), (74, iD v19)] [(3, .box (Ba p1))]) (fun v20 => mk [] []) (fun _ _ => rfl) (sm [] _ _ rfl rfl) (fun j19 n19 v19 h => ?_) (fun v20 s h hs => ?_)
      ·unfold Dn at h
       refine wq rfl (AT rfl (Ab (AL ?_)))
       refine Bb h (fun h => ?_) fun h => ?_
       ·refine Aj (AL (AH (wq rfl (qm rfl (qa rfl (Ab (wq rfl (qf Fx rfl (ql Io rfl (qm rfl ?_))))))))))
        refine BK h fun v22 a22 b22 h => qi Ep Jy a22 (Af b22) rfl (qk Or rfl (qm rfl ?_))
        refine BK h fun v23 a23 b23 h => qi Fo PG a23 (Af b23) rfl (qk Tv rfl (CD rfl (Ab ?_)))
        refine Bb h (fun h => ?_) fun h => ?_
        ·refine wq rfl (qe rfl ?_)
         obtain rfl := sj h
         refine Ae (sm [] [(4, iD 1)] [] rfl rfl) (As ?_)
         exact ⟨⟨[_], tm, rfl⟩, tv⟩
        ·refine Aj (Ag Aw rfl (AX rfl (qm rfl (Ab ?_))))
         exact sn [] h
       ·refine AS ?_
        exact sn [] h
      ·refine Ae hs (wq rfl (qe rfl ?_))
       obtain rfl := sj h
       refine Ae (sm [] [(4, iD 0)] [] rfl rfl) (As ?_)
       exact ⟨⟨[_], tm, rfl⟩, tv⟩
theorem EQ (N : Nat) (p0 : Aa) (r : Int) (h : Cb N p0 = some r) : Ap zA0 38 [.e (.agg (Ah p0))] [] (iD r) := by
 unfold Cb at h
 refine cw (n := 81) (rs := [.tmp 2]) Tryz.func38 fun w0 S0 => ?_
 refine wq rfl (qb rfl (qa rfl (Ab (wq rfl (qf A7 rfl (ql A1 rfl (AJ Ar rfl (qa rfl (Ab (AL ?_))))))))))
 refine AQ h (fun v1 => mk [(1, oD (.ptr 1 0)), (3, iD ((p0.fa.length : Int))), (19, bD v1)] [(1, .box (Ah p0))]) (fun j1 h => ?_) (fun v1 h => ?_)
 ·refine Ag Aw rfl (qm rfl (GB rfl (qm rfl ?_)))
  refine Eo 14 h rfl (fun h => ?_) fun h => ?_
  ·refine qw 4 rfl (qp rfl (Ab ?_))
   exact sn [] h
  ·refine qf Ca rfl (ql Hc rfl (AJ Dl rfl (GB rfl (qp rfl (Ab ?_)))))
   exact sn [] h
 ·refine Bb h (fun h => ?_) fun h => ?_
  ·refine wq rfl (qe rfl ?_)
   obtain rfl := sj h
   refine Ae (sm [] [(2, iD 3)] [] rfl rfl) (As ?_)
   exact ⟨⟨[_], tm, rfl⟩, tv⟩
  ·refine Aj (AL ?_)
   refine AQ h (fun v4 => mk [(1, oD (.ptr 1 0)), (31, bD v4)] [(1, .box (Ah p0))]) (fun j4 h => ?_) (fun v4 h => ?_)
   ·refine Ag Aw rfl (qf Fv rfl (ql A1 rfl (AJ Ar rfl (qm rfl (BC rfl (qm rfl ?_))))))
    refine Eo 25 h rfl (fun h => ?_) fun h => ?_
    ·refine qw 5 rfl (qp rfl (Ab ?_))
     exact sn [] h
    ·refine qf GP rfl (ql A1 rfl (AJ Ar rfl (qm rfl (BC rfl (qp rfl (Ab ?_))))))
     exact sn [] h
   ·refine Bb h (fun h => ?_) fun h => ?_
    ·refine wq rfl (qe rfl ?_)
     obtain rfl := sj h
     refine Ae (sm [] [(2, iD 6)] [] rfl rfl) (As ?_)
     exact ⟨⟨[_], tm, rfl⟩, tv⟩
    ·refine Aj (wp rfl (qf A7 rfl (ql A1 rfl (AJ Ar rfl (qm rfl (Ab ?_))))))
     refine AB (L := B2 N p0) h (fun v7 => mk [(1, oD (.ptr 1 0)), (33, pD (.sl (p0.fa.map Ak))), (34, iD ((p0.fa.length : Int))), (35, iD v7)] [(1, .box (Ah p0))]) (fun v8 => mk [(1, oD (.ptr 1 0))] [(1, .box (Ah p0))]) (fun _ _ => rfl) (sm [] _ _ rfl rfl) (fun j7 n7 v7 h => ?_) (fun v8 s h hs => ?_)
     ·unfold B2 at h
      refine wq rfl (AT rfl (Ab (AL ?_)))
      refine Bb h (fun h => ?_) fun h => ?_
      ·refine Aj (AL (AH (wq rfl (qm rfl ?_))))
       refine BK h fun v10 a10 b10 h => qi Ar Cx a10 (Af b10) rfl (qk BV rfl (qa rfl (qe rfl ?_)))
       refine AQ h (fun v11 => mk [(1, oD (.ptr 1 0)), (33, pD (.sl (p0.fa.map Ak))), (34, iD ((p0.fa.length : Int))), (35, iD v7), (65, bD v11)] [(1, .box (Ah p0))]) (fun j11 h => ?_) (fun v11 h => ?_)
       ·refine Ag Aw rfl (qm rfl (AT rfl (qm rfl ?_)))
        refine Eo 42 h rfl (fun h => ?_) fun h => ?_
        ·refine qw 2 rfl (qp rfl (qw 9 rfl (qp rfl (qw 9 rfl (qp rfl (Ab ?_))))))
         exact sn [] h
        ·refine qm rfl (GB rfl (qp rfl (qm rfl ?_)))
         refine Eo 46 h rfl (fun h => ?_) fun h => ?_
         ·refine qw 8 rfl (qp rfl (qw 9 rfl (qp rfl (Ab ?_))))
          exact sn [] h
         ·refine qf Fv rfl (ql A1 rfl (qm rfl ?_))
          refine BK h fun v14 a14 b14 h => qi Ar Cx a14 (Af b14) rfl (qk BV rfl (qm rfl ?_))
          refine BZ h fun v15 a15 h => Ax [] (GZ N v14 v10 v15 a15) XG rfl (CD rfl (qp rfl (qm rfl ?_)))
          refine Eo 56 h rfl (fun h => ?_) fun h => ?_
          ·refine qw 8 rfl (qp rfl (Ab ?_))
           exact sn [] h
          ·refine qf GP rfl (ql A1 rfl (qm rfl ?_))
           refine BK h fun v17 a17 b17 h => qi Ar Cx a17 (Af b17) rfl (qk BV rfl (qm rfl ?_))
           refine BZ h fun v18 a18 h => Ax [] (GZ N v17 v10 v18 a18) XG rfl (CD rfl (qp rfl (Ab ?_)))
           exact sn [] h
       ·refine Bb h (fun h => ?_) fun h => ?_
        ·refine wq rfl (qe rfl ?_)
         obtain rfl := sj h
         refine Ae (sm [] [(2, iD 7)] [] rfl rfl) (As ?_)
         exact ⟨⟨[_], tm, rfl⟩, tv⟩
        ·refine Aj (Ag Aw rfl (AX rfl (qm rfl (Ab ?_))))
         exact sn [] h
      ·refine AS ?_
       exact sn [] h
     ·refine Ae hs (wp rfl (qf Ca rfl (ql Hc rfl (AJ Dl rfl (qm rfl (Ab ?_))))))
      refine AB (L := BU N p0) h (fun v20 => mk [(1, oD (.ptr 1 0)), (68, pD (.sl (p0.fc.map AM))), (69, iD ((p0.fc.length : Int))), (70, iD v20)] [(1, .box (Ah p0))]) (fun v21 => mk [] []) (fun _ _ => rfl) (sm [] _ _ rfl rfl) (fun j20 n20 v20 h => ?_) (fun v21 s h hs => ?_)
      ·unfold BU at h
       refine wq rfl (AT rfl (Ab (AL ?_)))
       refine Bb h (fun h => ?_) fun h => ?_
       ·refine Aj (AL (AH (wq rfl ?_)))
        refine BK h fun v23 a23 b23 h => qi Dl Dc a23 (Af b23) rfl (qK GR Dc rfl (qz IY rfl (qs Dc rfl (Ab (wq rfl (qL Dq Cu rfl (qL GR Dc rfl ?_)))))))
        refine BZ h fun v24 a24 h => Ax [] (PW N p0 v23 v24 a24) dB rfl (qa rfl (Ab (wq rfl (qm rfl (BC rfl (Ab ?_))))))
        refine Bb h (fun h => ?_) fun h => ?_
        ·refine wq rfl (qm rfl (qe rfl ?_))
         obtain rfl := sj h
         refine Ae (sm [] [(2, iD v24)] [] rfl rfl) (As ?_)
         exact ⟨⟨[_], tm, rfl⟩, tv⟩
        ·refine Aj (Ag Aw rfl (AX rfl (qm rfl (Ab ?_))))
         exact sn [] h
       ·refine AS ?_
        exact sn [] h
      ·refine Ae hs (wq rfl (qe rfl ?_))
       obtain rfl := sj h
       refine Ae (sm [] [(2, iD 0)] [] rfl rfl) (As ?_)
       exact ⟨⟨[_], tm, rfl⟩, tv⟩
def ak : Go.Shelf.Ren := ⟨fun | 6 => 77 | 14 => 111 | 15 => 112 | 20 => 140 | 21 => 141 | 22 => 142 | 23 => 143 | 24 => 144 | 25 => 145 | 26 => 146 | 27 => 147 | 28 => 148 | 29 => 149 | 46 => 168 | 47 => 169 | 48 => 170 | 49 => 171 | 50 => 172 | 57 => 179 | n => n, fun | 0 => 0 | 3 => 3 | 4 => 4 | 5 => 5 | 9 => 9 | 22 => 66 | 24 => 71 | 25 => 110 | 39 => 71 | 45 => 173 | 46 => 174 | 50 => 95 | 53 => 145 | 55 => 147 | 66 => 197 | 70 => 201 | 76 => 206 | 77 => 207 | n => n, fun n => n⟩
theorem aE : SlLaysF.n6 zA0 ak := { mixed := Aw, f6 := ⟨Tryz.f77.name, by decide, Tryz.func77.trans (congrArg some (by kernel_rfl))⟩, f14 := ⟨Tryz.f111.name, by decide, Tryz.func111.trans (congrArg some (by kernel_rfl))⟩, f15 := Tryz.func112.trans (congrArg some (by kernel_rfl)), f20 := ⟨Tryz.f140.name, by decide, Tryz.func140.trans (congrArg some (by kernel_rfl))⟩, f21 := ⟨Tryz.f141.name, by decide, Tryz.func141.trans (congrArg some (by kernel_rfl))⟩, f22 := ⟨Tryz.f142.name, by decide, Tryz.func142.trans (congrArg some (by kernel_rfl))⟩, f23 := ⟨Tryz.f143.name, by decide, Tryz.func143.trans (congrArg some (by kernel_rfl))⟩, f24 := ⟨Tryz.f144.name, by decide, Tryz.func144.trans (congrArg some (by kernel_rfl))⟩, f25 := ⟨Tryz.f145.name, by decide, Tryz.func145.trans (congrArg some (by kernel_rfl))⟩, f26 := ⟨Tryz.f146.name, by decide, Tryz.func146.trans (congrArg some (by kernel_rfl))⟩, f27 := ⟨Tryz.f147.name, by decide, Tryz.func147.trans (congrArg some (by kernel_rfl))⟩, f28 := Tryz.func148.trans (congrArg some (by kernel_rfl)), f29 := Tryz.func149.trans (congrArg some (by kernel_rfl)), f46 := ⟨Tryz.f168.name, by decide, Tryz.func168.trans (congrArg some (by kernel_rfl))⟩, f47 := Tryz.func169.trans (congrArg some (by kernel_rfl)), f48 := Tryz.func170.trans (congrArg some (by kernel_rfl)), f49 := ⟨Tryz.f171.name, by decide, Tryz.func171.trans (congrArg some (by kernel_rfl))⟩, f50 := ⟨Tryz.f172.name, by decide, Tryz.func172.trans (congrArg some (by kernel_rfl))⟩, f57 := ⟨Tryz.f179.name, by decide, Tryz.func179.trans (congrArg some (by kernel_rfl))⟩, t0 := Tryz.underlying0, a0 := Tryz.isAgg0, z0 := Tryz.sizeOf0, v0 := Tryz.zeroValue0, t3 := Tryz.underlying3, a3 := Tryz.isAgg3, z3 := Tryz.sizeOf3, v3 := Tryz.zeroValue3, t4 := Tryz.underlying4, a4 := Tryz.isAgg4, z4 := Tryz.sizeOf4, v4 := Tryz.zeroValue4, t5 := Tryz.underlying5, a5 := Tryz.isAgg5, z5 := Tryz.sizeOf5, v5 := Tryz.zeroValue5, t9 := Tryz.underlying9, a9 := Tryz.isAgg9, z9 := Tryz.sizeOf9, v9 := Tryz.zeroValue9, t22 := Tryz.underlying66, a22 := Tryz.isAgg66, z22 := Tryz.sizeOf66, v22 := Tryz.zeroValue66, a24 := Tryz.isAgg71, z24 := Tryz.sizeOf71, t25 := Tryz.underlying110, a25 := Tryz.isAgg110, z25 := Tryz.sizeOf110, v25 := Tryz.zeroValue110, t39 := Tryz.underlying71, a39 := Tryz.isAgg71, z39 := Tryz.sizeOf71, v39 := Tryz.zeroValue71, t45 := Tryz.underlying173, a45 := Tryz.isAgg173, z45 := Tryz.sizeOf173, v45 := Tryz.zeroValue173, t46 := Tryz.underlying174, a46 := Tryz.isAgg174, z46 := Tryz.sizeOf174, v46 := Tryz.zeroValue174, t50 := Tryz.underlying95, a50 := Tryz.isAgg95, z50 := Tryz.sizeOf95, v50 := Tryz.zeroValue95, t53 := Tryz.underlying145, a53 := Tryz.isAgg145, z53 := Tryz.sizeOf145, v53 := Tryz.zeroValue145, t55 := Tryz.underlying147, a55 := Tryz.isAgg147, z55 := Tryz.sizeOf147, v55 := Tryz.zeroValue147, t66 := Tryz.underlying197, a66 := Tryz.isAgg197, z66 := Tryz.sizeOf197, v66 := Tryz.zeroValue197, t70 := Tryz.underlying201, a70 := Tryz.isAgg201, z70 := Tryz.sizeOf201, v70 := Tryz.zeroValue201, t76 := Tryz.underlying206, a76 := Tryz.isAgg206, z76 := Tryz.sizeOf206, v76 := Tryz.zeroValue206, t77 := Tryz.underlying207, a77 := Tryz.isAgg207, z77 := Tryz.sizeOf207, v77 := Tryz.zeroValue207 }
theorem Jd (N : Nat) (p0 : List Int) (p1 : (Int × Int) → Option Int) (r : List Int) (h : Bu N p0 p1 = some r) : Ex zA0 77 [oD (.own 90000), oD (.clo (Hn (aH false DA false DA) O1 p1))] [(.vec 1 (p0.map DA), .vec 1 (r.map DA))] [] (.tup []) := XD aE (t := fun n => .val (.int .u64 n)) (fun _ => rfl) Ud (fun _ _ hh => of_decide_eq_true hh) h
theorem Kz (N : Nat) (p0 : Int) (r : Int) (h : FW N p0 = some r) : Ap zA0 150 [pD (.val (.int .u32 p0))] [] (iD r) := by
 unfold FW at h
 refine cw (n := 21) (rs := [.tmp 2]) Tryz.func150 fun w0 S0 => ?_
 refine wq rfl (qa rfl (Ab (wq rfl (qm rfl (GQ rfl (by decide) ?_)))))
 refine BZ h fun v1 a1 h => Kk (.p rfl) rfl rfl VC a1 ?_
 refine qm rfl (GQ rfl (by decide) (Il rfl ?_))
 refine BZ h fun v2 a2 h => Kk (.p rfl) rfl rfl VC a2 ?_
 refine AX rfl (qm rfl (GQ rfl (by decide) (Il rfl ?_)))
 refine BZ h fun v3 a3 h => Kk (.p rfl) rfl rfl VC a3 ?_
 refine AX rfl (qm rfl (Il rfl ?_))
 refine BZ h fun v4 a4 h => Kk (.p rfl) rfl rfl VC a4 ?_
 refine AX rfl (Jx Z3 XM rfl (qa rfl (AO (by kernel_rfl) ?_)))
 obtain rfl := sj h
 refine Ae (sm [] [(2, iD ((wI .i64 ((wI .u8 ((wI .u8 ((wI .u8 (v1 + v2)) + v3)) + v4))))))] [] rfl rfl) (As ?_)
 exact ⟨⟨[_], tm, rfl⟩, tv⟩
end Go.Lift
