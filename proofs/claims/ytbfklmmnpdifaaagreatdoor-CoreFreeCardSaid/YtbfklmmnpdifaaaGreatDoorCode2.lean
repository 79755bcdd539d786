/- Lemmas for CoreFreeCardSaid, which YtbfklmmnpdifaaaGreatDoorFinC4 proves. -/
import Derived.Test.YtbfklmmnpdifaaaGreatDoorTypes
import Derived.Test.YtbfklmmnpdifaaaGreatDoorProg
import Derived.KernelRfl
open Int renaming tmod → zB7
open List renaming append → zE3, replicate → zA5
open Nat renaming min → zE8
open Go.Proofs.Tryz renaming prog → zA0
namespace Go.Lift
open IntKind renaming wrap → wI
def Eu (_ : Nat) (p0 : List Int) (p1 : Int) : Option Int :=
 AP ((decide (p1 < (p0.length : Int))))
  ((Bj p0 p1).bind fun v2 =>
  some ((wI .i64 v2)))
  (some 0)
def A7 (_ : Nat) (p0 : An) : Option Bool :=
 Bb (fun (v1 : Bool) =>
  some v1)
 fun j1 =>
 AP ((p0.ff == 3))
  (j1 true)
  (j1 (p0.ff == 4))
def Cq (N : Nat) (p1 : Int) (p2 : Int) (p3 : Bool) (v1 : (List (List Bool)) × Int) (j4 : ((List Bool)) → Option ((List (List Bool)))) : Nat → ((List Bool) × Int) → Option ((List (List Bool)))
 | 0, _ => none
 | n4 + 1, v4 =>
  AP ((decide (v4.2 < p1)))
   (Bb (fun (v7 : (List Bool)) =>
    Cq N p1 p2 p3 v1 j4 n4 (v7, (wI .i64 (v4.2 + 1))))
   fun j7 =>
   AP p3
    (AP ((v1.2 == v4.2))
     ((DF (v4.1.length + (([true] : List Bool)).length ≤ C5)).bind fun _ =>
     j7 (v4.1 ++ (([true] : List Bool))))
     ((DF (0 ≤ (wI .i64 ((wI .i64 (3 * v1.2)) + v4.2)))).bind fun _ =>
     (DF (v4.1.length + (([((zB7 ((AZ .u16 p2 ((wI .i64 ((wI .i64 (3 * v1.2)) + v4.2))))) 2) == 0)] : List Bool)).length ≤ C5)).bind fun _ =>
     j7 (v4.1 ++ (([((zB7 ((AZ .u16 p2 ((wI .i64 ((wI .i64 (3 * v1.2)) + v4.2))))) 2) == 0)] : List Bool)))))
    ((DF (0 ≤ (wI .i64 ((wI .i64 (3 * v1.2)) + v4.2)))).bind fun _ =>
    (DF (v4.1.length + (([((zB7 ((AZ .u16 p2 ((wI .i64 ((wI .i64 (3 * v1.2)) + v4.2))))) 2) == 0)] : List Bool)).length ≤ C5)).bind fun _ =>
    j7 (v4.1 ++ (([((zB7 ((AZ .u16 p2 ((wI .i64 ((wI .i64 (3 * v1.2)) + v4.2))))) 2) == 0)] : List Bool)))))
   (j4 v4.1)
def Cs (N : Nat) (p0 : Int) (p1 : Int) (p2 : Int) (p3 : Bool) (j1 : ((List (List Bool))) → Option ((List (List Bool)))) : Nat → ((List (List Bool)) × Int) → Option ((List (List Bool)))
 | 0, _ => none
 | n1 + 1, v1 =>
  AP ((decide (v1.2 < p0)))
   (Cq N p1 p2 p3 v1 (fun (v5 : (List Bool)) =>
    (DF (v1.1.length + (([v5] : List (List Bool))).length ≤ C5)).bind fun _ =>
    Cs N p0 p1 p2 p3 j1 n1 (v1.1 ++ (([v5] : List (List Bool))), (wI .i64 (v1.2 + 1)))) N (([] : List Bool), 0))
   (j1 v1.1)
def Ep (N : Nat) (p0 : Int) (p1 : Int) (p2 : Int) (p3 : Bool) : Option ((List (List Bool))) :=
 Cs N p0 p1 p2 p3 (fun (v2 : (List (List Bool))) =>
  some v2) N (([] : List (List Bool)), 0)
def C0 (N : Nat) (p0 : BG) (j4 : ((List Int) × (List Int) × (List Int)) → Option (Aa × Bool)) : Nat → ((List Int) × (List Int) × (List Int) × Int) → Option (Aa × Bool)
 | 0, _ => none
 | n4 + 1, v4 =>
  AP ((decide (v4.2.2.2 < (p0.fa.length : Int))))
   ((Bj p0.fa v4.2.2.2).bind fun v7 =>
   (DF (v4.1.length + (([(wI .i64 (1 + (wI .i64 ((zB7 v7 3)))))] : List Int)).length ≤ C5)).bind fun _ =>
   (Eu N p0.fi v4.2.2.2).bind fun v9 =>
   (DF ((wI .i64 (1 + (wI .i64 ((zB7 v7 3))))) ≠ 0)).bind fun _ =>
   (DF (v4.2.1.length + (([(zB7 v9 ((wI .i64 (1 + (wI .i64 ((zB7 v7 3)))))))] : List Int)).length ≤ C5)).bind fun _ =>
   (Eu N p0.fm v4.2.2.2).bind fun v12 =>
   (DF ((wI .i64 (1 + (wI .i64 ((zB7 v7 3))))) ≠ 0)).bind fun _ =>
   (DF (v4.2.2.1.length + (([(zB7 v12 ((wI .i64 (1 + (wI .i64 ((zB7 v7 3)))))))] : List Int)).length ≤ C5)).bind fun _ =>
   C0 N p0 j4 n4 (v4.1 ++ (([(wI .i64 (1 + (wI .i64 ((zB7 v7 3)))))] : List Int)), v4.2.1 ++ (([(zB7 v9 ((wI .i64 (1 + (wI .i64 ((zB7 v7 3)))))))] : List Int)), v4.2.2.1 ++ (([(zB7 v12 ((wI .i64 (1 + (wI .i64 ((zB7 v7 3)))))))] : List Int)), (wI .i64 (v4.2.2.2 + 1))))
   (j4 (v4.1, v4.2.1, v4.2.2.1))
def BC (N : Nat) (p0 : BG) (v5 : (List Int) × (List Int) × (List Int)) (j15 : ((List An)) → Option (Aa × Bool)) : Nat → ((List An) × Int) → Option (Aa × Bool)
 | 0, _ => none
 | n15 + 1, v15 =>
  Bb (fun (v17 : Bool) =>
   AP v17
    ((Bj p0.fv v15.2).bind fun v20 =>
    (DF ((v5.1.length : Int) ≠ 0)).bind fun _ =>
    (DF ((v5.1.length : Int) ≠ 0)).bind fun _ =>
    Bb (fun (v23 : Bool) =>
     (Bj v5.1 ((zB7 ((wI .i64 v20.fg)) ((v5.1.length : Int))))).bind fun v26 =>
     (Bj v5.1 ((zB7 ((wI .i64 v20.fj)) ((v5.1.length : Int))))).bind fun v27 =>
     (Ep N v26 v27 v20.fw false).bind fun v28 =>
     Bb (fun (v29 : (List (List Bool))) =>
      (DF (v15.1.length + (([(An.mk ((wI .i64 (1 + (wI .i64 ((zB7 v20.ff 4)))))) ((zB7 ((wI .i64 v20.fg)) ((v5.1.length : Int)))) ((zB7 ((wI .i64 v20.fj)) ((v5.1.length : Int)))) v23 v28 v29)] : List An)).length ≤ C5)).bind fun _ =>
      BC N p0 v5 j15 n15 (v15.1 ++ (([(An.mk ((wI .i64 (1 + (wI .i64 ((zB7 v20.ff 4)))))) ((zB7 ((wI .i64 v20.fg)) ((v5.1.length : Int)))) ((zB7 ((wI .i64 v20.fj)) ((v5.1.length : Int)))) v23 v28 v29)] : List An)), (wI .i64 (v15.2 + 1))))
     fun j29 =>
     AP (((wI .i64 (1 + (wI .i64 ((zB7 v20.ff 4))))) == 4))
      ((Bj v5.1 ((zB7 ((wI .i64 v20.fg)) ((v5.1.length : Int))))).bind fun v31 =>
      (Bj v5.1 ((zB7 ((wI .i64 v20.fg)) ((v5.1.length : Int))))).bind fun v32 =>
      (Ep N v31 v32 v20.fy true).bind fun v33 =>
      j29 v33)
      (j29 ([] : List (List Bool))))
    fun j23 =>
    AP v20.fr
     ((A7 N ((An.mk ((wI .i64 (1 + (wI .i64 ((zB7 v20.ff 4)))))) ((zB7 ((wI .i64 v20.fg)) ((v5.1.length : Int)))) ((zB7 ((wI .i64 v20.fj)) ((v5.1.length : Int)))) false (([] : List (List Bool))) (([] : List (List Bool)))))).bind fun v25 =>
     j23 (!v25))
     (j23 false))
    (j15 v15.1))
  fun j17 =>
  AP ((decide (v15.2 < (p0.fv.length : Int))))
   (j17 (decide (0 < (v5.1.length : Int))))
   (j17 false)
def FM (N : Nat) (p0 : BG) : Option (Aa × Bool) :=
 Bb (fun (v1 : Bool) =>
  AP v1
   (some ((Aa.mk (([] : List Int)) (([] : List Int)) (([] : List Int)) (([] : List An))), false))
   (C0 N p0 (fun (v5 : (List Int) × (List Int) × (List Int)) =>
    BC N p0 v5 (fun (v16 : (List An)) =>
     some ((Aa.mk v5.1 v5.2.1 v5.2.2 v16), true)) N (([] : List An), 0)) N (([] : List Int), ([] : List Int), ([] : List Int), 0)))
 fun j1 =>
 AP ((decide (3 < (p0.fa.length : Int))))
  (j1 true)
  (j1 (decide (4 < (p0.fv.length : Int))))
def CC (N : Nat) (p0 : List (List Bool)) (p1 : Int) (p2 : Int) (j2 : Unit → Option Bool) : Nat → Int → Option Bool
 | 0, _ => none
 | n2 + 1, v2 =>
  AP ((decide (v2 < p1)))
   ((Bj p0 v2).bind fun v5 =>
   AP (((v5.length : Int) != p2))
    (some false)
    (CC N p0 p1 p2 j2 n2 (wI .i64 (v2 + 1))))
   (j2 ())
def DO (N : Nat) (p0 : List (List Bool)) (p1 : Int) (p2 : Int) : Option Bool :=
 AP (((p0.length : Int) != p1))
  (some false)
  (CC N p0 p1 p2 (fun (_ : Unit) =>
   some true) N 0)
def B7 (N : Nat) (p1 : An) (j22 : Unit → Option Int) : Nat → Int → Option Int
 | 0, _ => none
 | n22 + 1, v22 =>
  AP ((decide (v22 < (p1.fk.length : Int))))
   ((Bj p1.fk v22).bind fun v25 =>
   (Bj v25 v22).bind fun v26 =>
   AP ((!v26))
    (some 1)
    (B7 N p1 j22 n22 (wI .i64 (v22 + 1))))
   (j22 ())
def E9 (N : Nat) (p0 : Aa) (p1 : An) : Option Int :=
 Bb (fun (v1 : Bool) =>
  AP v1
   (some 1)
   (Bb (fun (v7 : Bool) =>
    AP v7
     (some 4)
     ((Bj p0.fa p1.fg).bind fun v12 =>
     (Bj p0.fa p1.fj).bind fun v13 =>
     (DO N p1.fq v12 v13).bind fun v14 =>
     AP ((!v14))
      (some 6)
      (AP ((p1.ff != 4))
       (AP (((p1.fk.length : Int) != 0))
        (some 6)
        (some 0))
       ((Bj p0.fa p1.fg).bind fun v18 =>
       (Bj p0.fa p1.fg).bind fun v19 =>
       (DO N p1.fk v18 v19).bind fun v20 =>
       AP ((!v20))
        (some 6)
        (B7 N p1 (fun (_ : Unit) =>
         some 0) N 0)))))
   fun j7 =>
   AP ((decide (p1.fg < 0)))
    (j7 true)
    (AP ((decide ((p0.fa.length : Int) ≤ p1.fg)))
     (j7 true)
     (AP ((decide (p1.fj < 0)))
      (j7 true)
      (j7 (decide ((p0.fa.length : Int) ≤ p1.fj)))))))
 fun j1 =>
 AP ((decide (p1.ff < 1)))
  (j1 true)
  (AP ((decide (4 < p1.ff)))
   (j1 true)
   (AP p1.fr
    ((A7 N p1).bind fun v5 =>
    j1 v5)
    (j1 false)))
def Bk (N : Nat) (p0 : Aa) (j7 : Unit → Option Int) : Nat → Int → Option Int
 | 0, _ => none
 | n7 + 1, v7 =>
  AP ((decide (v7 < (p0.fa.length : Int))))
   ((Bj p0.fa v7).bind fun v10 =>
   Bb (fun (v11 : Bool) =>
    AP v11
     (some 7)
     (Bk N p0 j7 n7 (wI .i64 (v7 + 1))))
   fun j11 =>
   AP ((decide (v10 < 1)))
    (j11 true)
    (AP ((decide (6 < v10)))
     (j11 true)
     ((Bj p0.fi v7).bind fun v14 =>
     AP ((decide (v14 < 0)))
      (j11 true)
      ((Bj p0.fi v7).bind fun v16 =>
      AP ((decide (v10 ≤ v16)))
       (j11 true)
       ((Bj p0.fm v7).bind fun v18 =>
       AP ((decide (v18 < 0)))
        (j11 true)
        ((Bj p0.fm v7).bind fun v20 =>
        j11 (decide (v10 ≤ v20))))))))
   (j7 ())
def Be (N : Nat) (p0 : Aa) (j22 : Unit → Option Int) : Nat → Int → Option Int
 | 0, _ => none
 | n22 + 1, v22 =>
  AP ((decide (v22 < (p0.fc.length : Int))))
   ((Bj p0.fc v22).bind fun v25 =>
   (E9 N p0 v25).bind fun v26 =>
   AP ((v26 != 0))
    (some v26)
    (Be N p0 j22 n22 (wI .i64 (v22 + 1))))
   (j22 ())
def Bn (N : Nat) (p0 : Aa) : Option Int :=
 Bb (fun (v1 : Bool) =>
  AP v1
   (some 3)
   (Bb (fun (v4 : Bool) =>
    AP v4
     (some 6)
     (Bk N p0 (fun (_ : Unit) =>
      Be N p0 (fun (_ : Unit) =>
       some 0) N 0) N 0))
   fun j4 =>
   AP (((p0.fi.length : Int) != (p0.fa.length : Int)))
    (j4 true)
    (j4 ((p0.fm.length : Int) != (p0.fa.length : Int)))))
 fun j1 =>
 AP ((decide (6 < (p0.fa.length : Int))))
  (j1 true)
  (j1 (decide (12 < (p0.fc.length : Int))))
def Fz (N : Nat) (p0 : Int) (j1 : ((List Int)) → Option ((List Int))) : Nat → ((List Int) × Int) → Option ((List Int))
 | 0, _ => none
 | n1 + 1, v1 =>
  (DF (0 ≤ v1.2)).bind fun _ =>
  AP ((decide (0 < (AZ .i64 p0 v1.2))))
   (Bb (fun (v5 : (List Int)) =>
    Fz N p0 j1 n1 (v5, (wI .i64 (v1.2 + 1))))
   fun j5 =>
   (DF (0 ≤ v1.2)).bind fun _ =>
   AP (((zB7 ((AZ .i64 p0 v1.2)) 2) == 1))
    ((DF (v1.1.length + (([v1.2] : List Int)).length ≤ C5)).bind fun _ =>
    j5 (v1.1 ++ (([v1.2] : List Int))))
    (j5 v1.1))
   (j1 v1.1)
def HN (N : Nat) (p0 : Int) : Option ((List Int)) :=
 Fz N p0 (fun (v2 : (List Int)) =>
  some v2) N (([] : List Int), 0)
def ET (N : Nat) (p0 : List Int) (p1 : List Int) (j2 : Unit → Option Bool) : Nat → Int → Option Bool
 | 0, _ => none
 | n2 + 1, v2 =>
  AP ((decide (v2 < (p0.length : Int))))
   ((Bj p0 v2).bind fun v5 =>
   (Bj p1 v2).bind fun v6 =>
   AP ((v5 != v6))
    ((Bj p0 v2).bind fun v8 =>
    (Bj p1 v2).bind fun v9 =>
    some ((decide (v8 < v9))))
    (ET N p0 p1 j2 n2 (wI .i64 (v2 + 1))))
   (j2 ())
def GQ (N : Nat) (p0 : List Int) (p1 : List Int) : Option Bool :=
 AP (((p0.length : Int) != (p1.length : Int)))
  (some ((decide ((p0.length : Int) < (p1.length : Int)))))
  (ET N p0 p1 (fun (_ : Unit) =>
   some false) N 0)
def Fl (N : Nat) (j7 : ((List (List Int))) → Option ((List (List Int)))) : Nat → ((List (List Int)) × Int) → Option ((List (List Int)))
 | 0, _ => none
 | n7 + 1, v7 =>
  Bb (fun (v9 : Bool) =>
   AP v9
    ((Bj v7.1 ((wI .i64 (v7.2 - 1)))).bind fun v15 =>
    (Bj v7.1 v7.2).bind fun v16 =>
    (Bj v7.1 v7.2).bind fun _ =>
    (Bj (v7.1.set ((v7.2).toNat) v15) ((wI .i64 (v7.2 - 1)))).bind fun _ =>
    Fl N j7 n7 ((v7.1.set ((v7.2).toNat) v15).set (((wI .i64 (v7.2 - 1))).toNat) v16, (wI .i64 (v7.2 - 1))))
    (j7 v7.1))
  fun j9 =>
  AP ((decide (0 < v7.2)))
   ((Bj v7.1 v7.2).bind fun v11 =>
   (Bj v7.1 ((wI .i64 (v7.2 - 1)))).bind fun v12 =>
   (GQ N v11 v12).bind fun v13 =>
   j9 v13)
   (j9 false)
def Fn (N : Nat) (p0 : Int) (j1 : ((List (List Int))) → Option ((List (List Int)))) : Nat → ((List (List Int)) × Int) → Option ((List (List Int)))
 | 0, _ => none
 | n1 + 1, v1 =>
  (DF (0 ≤ p0)).bind fun _ =>
  AP ((decide (v1.2 < (DX .i64 1 p0))))
   ((HN N v1.2).bind fun v5 =>
   (DF (v1.1.length + (([v5] : List (List Int))).length ≤ C5)).bind fun _ =>
   Fl N (fun (v8 : (List (List Int))) =>
    Fn N p0 j1 n1 (v8, (wI .i64 (v1.2 + 1)))) N (v1.1 ++ (([v5] : List (List Int))), (wI .i64 (((v1.1 ++ (([v5] : List (List Int)))).length : Int) - 1))))
   (j1 v1.1)
def CJ (N : Nat) (p0 : Int) : Option ((List (List Int))) :=
 Fn N p0 (fun (v2 : (List (List Int))) =>
  some v2) N (([] : List (List Int)), 0)
def Cd (N : Nat) (p0 : List Int) (p1 : Int) (j1 : Unit → Option Int) : Nat → Int → Option Int
 | 0, _ => none
 | n1 + 1, v1 =>
  AP ((decide (v1 < (p0.length : Int))))
   ((Bj p0 v1).bind fun v4 =>
   AP ((v4 == p1))
    (some v1)
    (Cd N p0 p1 j1 n1 (wI .i64 (v1 + 1))))
   (j1 ())
def D8 (N : Nat) (p0 : List Int) (p1 : Int) : Option Int :=
 Cd N p0 p1 (fun (_ : Unit) =>
  some ((-1))) N 0
def CA (N : Nat) (p0 : List (List Bool)) (j1 : ((List (List Bool))) → Option ((List (List Bool)))) : Nat → ((List (List Bool)) × Int) → Option ((List (List Bool)))
 | 0, _ => none
 | n1 + 1, v1 =>
  AP ((decide (v1.2 < (p0.length : Int))))
   ((Bj p0 v1.2).bind fun v4 =>
   (DF ((([] : List Bool)).length + v4.length ≤ C5)).bind fun _ =>
   (DF (v1.1.length + (([(([] : List Bool)) ++ v4] : List (List Bool))).length ≤ C5)).bind fun _ =>
   CA N p0 j1 n1 (v1.1 ++ (([(([] : List Bool)) ++ v4] : List (List Bool))), (wI .i64 (v1.2 + 1))))
   (j1 v1.1)
def DR (N : Nat) (p0 : List (List Bool)) : Option ((List (List Bool))) :=
 CA N p0 (fun (v2 : (List (List Bool))) =>
  some v2) N (([] : List (List Bool)), 0)
def FE (N : Nat) (p0 : An) (p1 : Int) (p2 : Int) : Option An :=
 (DR N p0.fq).bind fun v1 =>
 (DR N p0.fk).bind fun v2 =>
 some ((An.mk p0.ff p1 p2 p0.fr v1 v2))
def A0 (N : Nat) (p1 : List Int) (j3 : Unit → Option (Aa × Int)) : Nat → Int → Option (Aa × Int)
 | 0, _ => none
 | n3 + 1, v3 =>
  AP ((decide (v3 < (p1.length : Int))))
   ((Bj p1 v3).bind fun v6 =>
   (Bj p1 ((wI .i64 (v3 - 1)))).bind fun v7 =>
   AP ((decide (v6 ≤ v7)))
    (some ((Aa.mk (([] : List Int)) (([] : List Int)) (([] : List Int)) (([] : List An))), 1))
    (A0 N p1 j3 n3 (wI .i64 (v3 + 1))))
   (j3 ())
def CK (N : Nat) (p0 : Aa) (p1 : List Int) (j9 : ((List Int) × (List Int) × (List Int)) → Option (Aa × Int)) : Nat → ((List Int) × (List Int) × (List Int) × Int) → Option (Aa × Int)
 | 0, _ => none
 | n9 + 1, v9 =>
  AP ((decide (v9.2.2.2 < (p1.length : Int))))
   ((Bj p1 v9.2.2.2).bind fun v12 =>
   Bb (fun (v13 : Bool) =>
    AP v13
     (some ((Aa.mk (([] : List Int)) (([] : List Int)) (([] : List Int)) (([] : List An))), 4))
     ((Bj p0.fa v12).bind fun v16 =>
     (DF (v9.1.length + (([v16] : List Int)).length ≤ C5)).bind fun _ =>
     (Bj p0.fi v12).bind fun v18 =>
     (DF (v9.2.1.length + (([v18] : List Int)).length ≤ C5)).bind fun _ =>
     (Bj p0.fm v12).bind fun v20 =>
     (DF (v9.2.2.1.length + (([v20] : List Int)).length ≤ C5)).bind fun _ =>
     CK N p0 p1 j9 n9 (v9.1 ++ (([v16] : List Int)), v9.2.1 ++ (([v18] : List Int)), v9.2.2.1 ++ (([v20] : List Int)), (wI .i64 (v9.2.2.2 + 1)))))
   fun j13 =>
   AP ((decide (v12 < 0)))
    (j13 true)
    (j13 (decide ((p0.fa.length : Int) ≤ v12))))
   (j9 (v9.1, v9.2.1, v9.2.2.1))
def BE (N : Nat) (p0 : Aa) (p1 : List Int) (j22 : ((List An)) → Option (Aa × Int)) : Nat → ((List An) × Int) → Option (Aa × Int)
 | 0, _ => none
 | n22 + 1, v22 =>
  AP ((decide (v22.2 < (p0.fc.length : Int))))
   (Bb (fun (v25 : (List An)) =>
    BE N p0 p1 j22 n22 (v25, (wI .i64 (v22.2 + 1))))
   fun j25 =>
   (Bj p0.fc v22.2).bind fun v26 =>
   (D8 N p1 v26.fg).bind fun v27 =>
   (D8 N p1 v26.fj).bind fun v28 =>
   Bb (fun (v29 : Bool) =>
    AP v29
     ((FE N v26 v27 v28).bind fun v32 =>
     (DF (v22.1.length + (([v32] : List An)).length ≤ C5)).bind fun _ =>
     j25 (v22.1 ++ (([v32] : List An))))
     (j25 v22.1))
   fun j29 =>
   AP ((decide (0 ≤ v27)))
    (j29 (decide (0 ≤ v28)))
    (j29 false))
   (j22 v22.1)
def Dp (N : Nat) (p0 : Aa) (p1 : List Int) : Option (Aa × Int) :=
 (Bn N p0).bind fun v1 =>
 AP ((v1 != 0))
  (some ((Aa.mk (([] : List Int)) (([] : List Int)) (([] : List Int)) (([] : List An))), v1))
  (A0 N p1 (fun (_ : Unit) =>
   CK N p0 p1 (fun (v10 : (List Int) × (List Int) × (List Int)) =>
    BE N p0 p1 (fun (v23 : (List An)) =>
     some ((Aa.mk v10.1 v10.2.1 v10.2.2 v23), 0)) N (([] : List An), 0)) N (([] : List Int), ([] : List Int), ([] : List Int), 0)) N 1)
def Ci (N : Nat) (p0 : Aa) (j3 : ((List Int) × (List Int)) → Option (Ac × Int)) : Nat → ((List Int) × (List Int) × Int) → Option (Ac × Int)
 | 0, _ => none
 | n3 + 1, v3 =>
  AP ((decide (v3.2.2 < (p0.fa.length : Int))))
   ((Bj p0.fi v3.2.2).bind fun v6 =>
   (DF (v3.1.length + (([v6] : List Int)).length ≤ C5)).bind fun _ =>
   (DF (v3.2.1.length + (([(-1)] : List Int)).length ≤ C5)).bind fun _ =>
   Ci N p0 j3 n3 (v3.1 ++ (([v6] : List Int)), v3.2.1 ++ (([(-1)] : List Int)), (wI .i64 (v3.2.2 + 1))))
   (j3 (v3.1, v3.2.1))
def Bm (N : Nat) (p0 : Aa) (j9 : ((List Int)) → Option (Ac × Int)) : Nat → ((List Int) × Int) → Option (Ac × Int)
 | 0, _ => none
 | n9 + 1, v9 =>
  AP ((decide (v9.2 < (p0.fc.length : Int))))
   (Bb (fun (v12 : Int) =>
    (DF (v9.1.length + (([v12] : List Int)).length ≤ C5)).bind fun _ =>
    Bm N p0 j9 n9 (v9.1 ++ (([v12] : List Int)), (wI .i64 (v9.2 + 1))))
   fun j12 =>
   (Bj p0.fc v9.2).bind fun v13 =>
   (A7 N v13).bind fun v14 =>
   AP v14
    ((Bj p0.fc v9.2).bind fun v16 =>
    (Bj p0.fi v16.fg).bind fun v17 =>
    (DF (0 ≤ v17)).bind fun _ =>
    j12 (DX .u8 1 v17))
    (j12 0))
   (j9 v9.1)
def Eb (N : Nat) (p0 : Aa) : Option (Ac × Int) :=
 (Bn N p0).bind fun v1 =>
 AP ((v1 != 0))
  (some ((Ac.mk (([] : List Int)) (([] : List Int)) (([] : List Int))), v1))
  (Ci N p0 (fun (v4 : (List Int) × (List Int)) =>
   Bm N p0 (fun (v10 : (List Int)) =>
    some ((Ac.mk v4.1 v4.2 v10), 0)) N (([] : List Int), 0)) N (([] : List Int), ([] : List Int), 0))
def ED (_ : Nat) (p0 : Ac) : Option Ac :=
 (DF ((([] : List Int)).length + p0.fd.length ≤ C5)).bind fun _ =>
 (DF ((([] : List Int)).length + p0.fb.length ≤ C5)).bind fun _ =>
 (DF ((([] : List Int)).length + p0.fe.length ≤ C5)).bind fun _ =>
 some ((Ac.mk ((([] : List Int)) ++ p0.fd) ((([] : List Int)) ++ p0.fb) ((([] : List Int)) ++ p0.fe)))
def CG (N : Nat) (p0 : Ac) (j1 : Int → Option ((List Ac))) : Nat → (Int × Int) → Option ((List Ac))
 | 0, _ => none
 | n1 + 1, v1 =>
  AP ((decide (v1.2 < (p0.fb.length : Int))))
   (Bb (fun (v4 : Int) =>
    CG N p0 j1 n1 (v4, (wI .i64 (v1.2 + 1))))
   fun j4 =>
   (Bj p0.fb v1.2).bind fun v5 =>
   AP ((decide (0 ≤ v5)))
    (j4 (wI .i64 (v1.1 + 1)))
    (j4 v1.1))
   (j1 v1.1)
def B3 (N : Nat) (p0 : Ac) (v7 : (List Ac) × Int) (j12 : ((List Int)) → Option ((List Ac))) : Nat → ((List Int) × Int × Int) → Option ((List Ac))
 | 0, _ => none
 | n12 + 1, v12 =>
  AP ((decide (v12.2.2 < (p0.fb.length : Int))))
   (Bb (fun (v15 : (List Int) × Int) =>
    B3 N p0 v7 j12 n12 (v15.1, v15.2, (wI .i64 (v12.2.2 + 1))))
   fun j15 =>
   (Bj p0.fb v12.2.2).bind fun v16 =>
   AP ((decide (v16 < 0)))
    (j15 (v12.1, v12.2.1))
    (Bb (fun (v18 : (List Int)) =>
     j15 (v18, (wI .i64 (v12.2.1 + 1))))
    fun j18 =>
    (DF (0 ≤ v12.2.1)).bind fun _ =>
    AP (((zB7 ((AZ .i64 v7.2 v12.2.1)) 2) == 1))
     ((Bj v12.1 v12.2.2).bind fun _ =>
     j18 (v12.1.set ((v12.2.2).toNat) ((-1))))
     (j18 v12.1)))
   (j12 v12.1)
def BB (N : Nat) (p0 : Ac) (v2 : Int) (j7 : ((List Ac)) → Option ((List Ac))) : Nat → ((List Ac) × Int) → Option ((List Ac))
 | 0, _ => none
 | n7 + 1, v7 =>
  (DF (0 ≤ v2)).bind fun _ =>
  AP ((decide (v7.2 < (DX .i64 1 v2))))
   ((ED N p0).bind fun v11 =>
   B3 N p0 v7 (fun (v13 : (List Int)) =>
    (DF (v7.1.length + (([(Ac.mk v11.fd v13 v11.fe)] : List Ac)).length ≤ C5)).bind fun _ =>
    BB N p0 v2 j7 n7 (v7.1 ++ (([(Ac.mk v11.fd v13 v11.fe)] : List Ac)), (wI .i64 (v7.2 + 1)))) N (v11.fb, 0, 0))
   (j7 v7.1)
def EM (N : Nat) (p0 : Ac) : Option ((List Ac)) :=
 CG N p0 (fun (v2 : Int) =>
  BB N p0 v2 (fun (v8 : (List Ac)) =>
   some v8) N (([] : List Ac), 0)) N (0, 0)
def B2 (_ : Nat) (p0 : Ac) (p1 : Int) : Option Int :=
 (Bj p0.fd p1).bind fun v1 =>
 (DF (0 ≤ v1)).bind fun _ =>
 Bb (fun (v3 : Int) =>
  some v3)
 fun j3 =>
 (Bj p0.fb p1).bind fun v4 =>
 AP ((decide (0 ≤ v4)))
  ((Bj p0.fb p1).bind fun v6 =>
  (DF (0 ≤ v6)).bind fun _ =>
  j3 (P0 .u8 ((DX .u8 1 v1)) ((DX .u8 1 v6))))
  (j3 (DX .u8 1 v1))
def Cz (_ : Nat) (p0 : Int) (p1 : Int) : Option Bool :=
 (DF (0 ≤ p1)).bind fun _ =>
 some (((AK .u8 ((AZ .u8 p0 p1)) 1) == 1))
def Bq (N : Nat) (p0 : Aa) (p1 : Ac) (v1 : (List Ap) × Int) (v4 : An) (v10 : (List Ap) × Int) (j17 : ((List Ap) × Bool) → Option ((List Ap))) : Nat → ((List Ap) × Bool × Int) → Option ((List Ap))
 | 0, _ => none
 | n17 + 1, v17 =>
  (Bj p0.fa v4.fj).bind fun v19 =>
  AP ((decide (v17.2.2 < v19)))
   (Bb (fun (v21 : (List Ap) × Bool) =>
    Bq N p0 p1 v1 v4 v10 j17 n17 (v21.1, v21.2, (wI .i64 (v17.2.2 + 1))))
   fun j21 =>
   (B2 N p1 v4.fj).bind fun v22 =>
   (Cz N v22 v17.2.2).bind fun v23 =>
   AP ((!v23))
    (j21 (v17.1, v17.2.1))
    (Bb (fun (v25 : Bool) =>
     Bb (fun (v29 : Bool) =>
      AP v29
       ((DF (v17.1.length + (([(Ap.mk v1.2 v10.2 v17.2.2)] : List Ap)).length ≤ C5)).bind fun _ =>
       j21 (v17.1 ++ (([(Ap.mk v1.2 v10.2 v17.2.2)] : List Ap)), v25))
       (j21 (v17.1, v25)))
     fun j29 =>
     AP ((!v4.fr))
      ((Bj v4.fq v10.2).bind fun v31 =>
      (Bj v31 v17.2.2).bind fun v32 =>
      j29 (!v32))
      (j29 false))
    fun j25 =>
    AP v17.2.1
     (j25 true)
     ((Bj v4.fq v10.2).bind fun v27 =>
     (Bj v27 v17.2.2).bind fun v28 =>
     j25 v28)))
   (j17 (v17.1, v17.2.1))
def BH (N : Nat) (p0 : Aa) (p1 : Ac) (v1 : (List Ap) × Int) (v4 : An) (v6 : Int) (j10 : ((List Ap)) → Option ((List Ap))) : Nat → ((List Ap) × Int) → Option ((List Ap))
 | 0, _ => none
 | n10 + 1, v10 =>
  (Bj p0.fa v4.fg).bind fun v12 =>
  AP ((decide (v10.2 < v12)))
   (Bb (fun (v14 : (List Ap)) =>
    BH N p0 p1 v1 v4 v6 j10 n10 (v14, (wI .i64 (v10.2 + 1))))
   fun j14 =>
   (Cz N v6 v10.2).bind fun v15 =>
   AP ((!v15))
    (j14 v10.1)
    (Bq N p0 p1 v1 v4 v10 (fun (v18 : (List Ap) × Bool) =>
     Bb (fun (v35 : Bool) =>
      AP v35
       ((DF (v18.1.length + (([(Ap.mk v1.2 v10.2 ((-1)))] : List Ap)).length ≤ C5)).bind fun _ =>
       j14 (v18.1 ++ (([(Ap.mk v1.2 v10.2 ((-1)))] : List Ap))))
       (j14 v18.1))
     fun j35 =>
     AP v4.fr
      (j35 (!v18.2))
      (j35 false)) N (v10.1, false, 0)))
   (j10 v10.1)
def CL (N : Nat) (p0 : Aa) (p1 : Ac) (j1 : ((List Ap)) → Option ((List Ap))) : Nat → ((List Ap) × Int) → Option ((List Ap))
 | 0, _ => none
 | n1 + 1, v1 =>
  AP ((decide (v1.2 < (p0.fc.length : Int))))
   ((Bj p0.fc v1.2).bind fun v4 =>
   (B2 N p1 v4.fg).bind fun v5 =>
   Bb (fun (v6 : Int) =>
    BH N p0 p1 v1 v4 v6 (fun (v11 : (List Ap)) =>
     CL N p0 p1 j1 n1 (v11, (wI .i64 (v1.2 + 1)))) N (v1.1, 0))
   fun j6 =>
   (A7 N v4).bind fun v7 =>
   AP v7
    ((Bj p1.fe v1.2).bind fun v9 =>
    j6 v9)
    (j6 v5))
   (j1 v1.1)
def E2 (N : Nat) (p0 : Aa) (p1 : Ac) : Option ((List Ap)) :=
 CL N p0 p1 (fun (v2 : (List Ap)) =>
  some v2) N (([] : List Ap), 0)
def EF (N : Nat) (p0 : Aa) (p1 : Ac) : Option Bool :=
 (E2 N p0 p1).bind fun v1 =>
 some (((v1.length : Int) == 0))
def B9 (N : Nat) (p0 : Aa) (v1 : (List Ac)) (j2 : Unit → Option Bool) : Nat → Int → Option Bool
 | 0, _ => none
 | n2 + 1, v2 =>
  AP ((decide (v2 < (v1.length : Int))))
   ((Bj v1 v2).bind fun v5 =>
   (EF N p0 v5).bind fun v6 =>
   AP ((!v6))
    (some false)
    (B9 N p0 v1 j2 n2 (wI .i64 (v2 + 1))))
   (j2 ())
def CS (N : Nat) (p0 : Aa) (p1 : Ac) : Option Bool :=
 (EM N p1).bind fun v1 =>
 B9 N p0 v1 (fun (_ : Unit) =>
  some true) N 0
def Ch (N : Nat) (p0 : Aa) (p1 : Ac) (j7 : Unit → Option Int) : Nat → Int → Option Int
 | 0, _ => none
 | n7 + 1, v7 =>
  AP ((decide (v7 < (p0.fa.length : Int))))
   (Bb (fun (v10 : Bool) =>
    AP v10
     (some 7)
     ((Bj p1.fd v7).bind fun v21 =>
     (Bj p1.fb v7).bind fun v22 =>
     AP ((v21 == v22))
      (some 1)
      (Ch N p0 p1 j7 n7 (wI .i64 (v7 + 1)))))
   fun j10 =>
   (Bj p1.fd v7).bind fun v11 =>
   AP ((decide (v11 < 0)))
    (j10 true)
    ((Bj p1.fd v7).bind fun v13 =>
    (Bj p0.fa v7).bind fun v14 =>
    AP ((decide (v14 ≤ v13)))
     (j10 true)
     ((Bj p1.fb v7).bind fun v16 =>
     AP ((decide (v16 < (-1))))
      (j10 true)
      ((Bj p1.fb v7).bind fun v18 =>
      (Bj p0.fa v7).bind fun v19 =>
      j10 (decide (v19 ≤ v18))))))
   (j7 ())
def B4 (N : Nat) (p0 : Aa) (p1 : Ac) (j24 : Unit → Option Int) : Nat → Int → Option Int
 | 0, _ => none
 | n24 + 1, v24 =>
  AP ((decide (v24 < (p0.fc.length : Int))))
   ((Bj p0.fc v24).bind fun v27 =>
   (Bj p0.fa v27.fg).bind fun v28 =>
   (DF (0 ≤ v28)).bind fun _ =>
   Bb (fun (v30 : Bool) =>
    AP v30
     (some 1)
     (B4 N p0 p1 j24 n24 (wI .i64 (v24 + 1))))
   fun j30 =>
   (A7 N v27).bind fun v31 =>
   AP ((!v31))
    ((Bj p1.fe v24).bind fun v33 =>
    AP ((v33 != 0))
     (j30 true)
     ((A7 N v27).bind fun v35 =>
     AP v35
      ((Bj p1.fe v24).bind fun v37 =>
      AP (((Dc .u8 v37 ((wI .u8 ((DX .u8 1 v28) - 1)))) != 0))
       (j30 true)
       ((B2 N p1 v27.fg).bind fun v39 =>
       (Bj p1.fe v24).bind fun v40 =>
       j30 ((Dc .u8 v39 v40) != 0)))
      (j30 false)))
    ((A7 N v27).bind fun v41 =>
    AP v41
     ((Bj p1.fe v24).bind fun v43 =>
     AP (((Dc .u8 v43 ((wI .u8 ((DX .u8 1 v28) - 1)))) != 0))
      (j30 true)
      ((B2 N p1 v27.fg).bind fun v45 =>
      (Bj p1.fe v24).bind fun v46 =>
      j30 ((Dc .u8 v45 v46) != 0)))
     (j30 false)))
   (j24 ())
def Dq (N : Nat) (p0 : Aa) (p1 : Ac) : Option Int :=
 (Bn N p0).bind fun v1 =>
 AP ((v1 != 0))
  (some v1)
  (Bb (fun (v3 : Bool) =>
   AP v3
    (some 6)
    (Ch N p0 p1 (fun (_ : Unit) =>
     B4 N p0 p1 (fun (_ : Unit) =>
      some 0) N 0) N 0))
  fun j3 =>
  AP (((p1.fd.length : Int) != (p0.fa.length : Int)))
   (j3 true)
   (AP (((p1.fb.length : Int) != (p0.fa.length : Int)))
    (j3 true)
    (j3 ((p1.fe.length : Int) != (p0.fc.length : Int)))))
def E3 (_ : Nat) (p0 : Ad) : Option Bool :=
 Bb (fun (v1 : Bool) =>
  some v1)
 fun j1 =>
 AP ((decide (1 ≤ p0.ff)))
  (AP ((decide (p0.ff ≤ 4)))
   (AP ((decide (0 ≤ p0.fh)))
    (AP ((decide (0 ≤ p0.fo)))
     (AP ((p0.ff == 1))
      (j1 true)
      (j1 (p0.fo == 0)))
     (j1 false))
    (j1 false))
   (j1 false))
  (j1 false)
def B8 (N : Nat) (p0 : Aa) (p2 : Ad) (j12 : ((List Int)) → Option (Ac × Bool)) : Nat → ((List Int) × Int) → Option (Ac × Bool)
 | 0, _ => none
 | n12 + 1, v12 =>
  AP ((decide (v12.2 < (p0.fc.length : Int))))
   (Bb (fun (v15 : (List Int)) =>
    B8 N p0 p2 j12 n12 (v15, (wI .i64 (v12.2 + 1))))
   fun j15 =>
   Bb (fun (v16 : Bool) =>
    AP v16
     ((Bj v12.1 v12.2).bind fun v22 =>
     (DF (0 ≤ p2.fo)).bind fun _ =>
     (Bj v12.1 v12.2).bind fun _ =>
     j15 (v12.1.set ((v12.2).toNat) ((P0 .u8 v22 ((DX .u8 1 p2.fo))))))
     (j15 v12.1))
   fun j16 =>
   (Bj p0.fc v12.2).bind fun v17 =>
   AP ((v17.fg == p2.fh))
    ((Bj p0.fc v12.2).bind fun v19 =>
    (A7 N v19).bind fun v20 =>
    j16 v20)
    (j16 false))
   (j12 v12.1)
def BJ (N : Nat) (p0 : Aa) (p1 : Ac) (p2 : Ad) (v32 : An) (v35 : Int) (j38 : Unit → Option (Ac × Bool)) : Nat → Int → Option (Ac × Bool)
 | 0, _ => none
 | n38 + 1, v38 =>
  (Bj p0.fa v32.fg).bind fun v40 =>
  AP ((decide (v38 < v40)))
   (Bb (fun (v42 : Bool) =>
    Bb (fun (v47 : Bool) =>
     AP v47
      (some ((Ac.mk (([] : List Int)) (([] : List Int)) (([] : List Int))), false))
      (BJ N p0 p1 p2 v32 v35 j38 n38 (wI .i64 (v38 + 1))))
    fun j47 =>
    AP v42
     (AP ((v32.ff == 4))
      ((Bj v32.fk v38).bind fun v50 =>
      (Bj p1.fd v32.fg).bind fun v51 =>
      (Bj v50 v51).bind fun v52 =>
      j47 (!v52))
      (j47 false))
     (j47 false))
   fun j42 =>
   (Bj p1.fe p2.fh).bind fun v43 =>
   (Cz N v43 v38).bind fun v44 =>
   AP v44
    ((Cz N v35 v38).bind fun v46 =>
    j42 (!v46))
    (j42 false))
   (j38 ())
def CX (N : Nat) (p0 : Aa) (p1 : Ac) (p2 : Ad) : Option (Ac × Bool) :=
 (DF ((([] : List Int)).length + p1.fd.length ≤ C5)).bind fun _ =>
 (DF ((([] : List Int)).length + p1.fb.length ≤ C5)).bind fun _ =>
 (DF ((([] : List Int)).length + p1.fe.length ≤ C5)).bind fun _ =>
 Bb (fun (v4 : (List Int) × (List Int) × (List Int)) =>
  some ((Ac.mk v4.1 v4.2.1 v4.2.2), true))
 fun j4 =>
 AP ((p2.ff == 1))
  (Bb (fun (v6 : Bool) =>
   AP v6
    (some ((Ac.mk (([] : List Int)) (([] : List Int)) (([] : List Int))), false))
    ((Bj ((([] : List Int)) ++ p1.fb) p2.fh).bind fun _ =>
    B8 N p0 p2 (fun (v13 : (List Int)) =>
     j4 ((([] : List Int)) ++ p1.fd, ((([] : List Int)) ++ p1.fb).set ((p2.fh).toNat) p2.fo, v13)) N ((([] : List Int)) ++ p1.fe, 0)))
  fun j6 =>
  (Bj p1.fb p2.fh).bind fun v7 =>
  AP ((decide (0 ≤ v7)))
   (j6 true)
   ((Bj p1.fd p2.fh).bind fun v9 =>
   j6 (p2.fo == v9)))
  (AP ((p2.ff == 2))
   ((Bj p1.fb p2.fh).bind fun v26 =>
   AP ((decide (v26 < 0)))
    (some ((Ac.mk (([] : List Int)) (([] : List Int)) (([] : List Int))), false))
    ((Bj p1.fb p2.fh).bind fun v28 =>
    (Bj ((([] : List Int)) ++ p1.fd) p2.fh).bind fun _ =>
    (Bj ((([] : List Int)) ++ p1.fb) p2.fh).bind fun _ =>
    j4 (((([] : List Int)) ++ p1.fd).set ((p2.fh).toNat) v28, ((([] : List Int)) ++ p1.fb).set ((p2.fh).toNat) ((-1)), (([] : List Int)) ++ p1.fe)))
   (AP ((p2.ff == 3))
    ((Bj p0.fc p2.fh).bind fun v32 =>
    (A7 N v32).bind fun v33 =>
    AP ((!v33))
     (some ((Ac.mk (([] : List Int)) (([] : List Int)) (([] : List Int))), false))
     ((B2 N p1 v32.fg).bind fun v35 =>
     (Bj p1.fe p2.fh).bind fun v36 =>
     AP ((v36 == v35))
      (some ((Ac.mk (([] : List Int)) (([] : List Int)) (([] : List Int))), false))
      (BJ N p0 p1 p2 v32 v35 (fun (_ : Unit) =>
       (Bj ((([] : List Int)) ++ p1.fe) p2.fh).bind fun _ =>
       j4 ((([] : List Int)) ++ p1.fd, (([] : List Int)) ++ p1.fb, ((([] : List Int)) ++ p1.fe).set ((p2.fh).toNat) v35)) N 0)))
    ((Bj p1.fb p2.fh).bind fun v55 =>
    AP ((decide (v55 < 0)))
     (some ((Ac.mk (([] : List Int)) (([] : List Int)) (([] : List Int))), false))
     ((Bj ((([] : List Int)) ++ p1.fb) p2.fh).bind fun _ =>
     j4 ((([] : List Int)) ++ p1.fd, ((([] : List Int)) ++ p1.fb).set ((p2.fh).toNat) ((-1)), (([] : List Int)) ++ p1.fe)))))
def E7 (N : Nat) (p0 : Aa) (p1 : Ac) (p2 : Ad) : Option (Ac × Int) :=
 (Dq N p0 p1).bind fun v1 =>
 AP ((v1 != 0))
  (some ((Ac.mk (([] : List Int)) (([] : List Int)) (([] : List Int))), v1))
  ((E3 N p2).bind fun v3 =>
  AP ((!v3))
   (some ((Ac.mk (([] : List Int)) (([] : List Int)) (([] : List Int))), 1))
   (Bb (fun (v5 : Bool) =>
    AP v5
     (some ((Ac.mk (([] : List Int)) (([] : List Int)) (([] : List Int))), 4))
     (Bb (fun (v11 : Bool) =>
      AP v11
       (some ((Ac.mk (([] : List Int)) (([] : List Int)) (([] : List Int))), 4))
       ((CX N p0 p1 p2).bind fun v15 =>
       AP ((!v15.2))
        (some ((Ac.mk (([] : List Int)) (([] : List Int)) (([] : List Int))), 11))
        (some (v15.1, 0))))
     fun j11 =>
     AP ((p2.ff == 1))
      ((Bj p0.fa p2.fh).bind fun v13 =>
      j11 (decide (v13 ≤ p2.fo)))
      (j11 false)))
   fun j5 =>
   AP ((p2.ff == 3))
    (AP ((decide ((p0.fc.length : Int) ≤ p2.fh)))
     (j5 true)
     (AP ((p2.ff != 3))
      (j5 (decide ((p0.fa.length : Int) ≤ p2.fh)))
      (j5 false)))
    (AP ((p2.ff != 3))
     (j5 (decide ((p0.fa.length : Int) ≤ p2.fh)))
     (j5 false))))
def Cg (N : Nat) (p0 : Aa) (p1 : Ac) (v1 : (List Ad) × Int) (v4 : (List Ad) × Int) (j7 : ((List Ad)) → Option ((List Ad))) : Nat → ((List Ad) × Int) → Option ((List Ad))
 | 0, _ => none
 | n7 + 1, v7 =>
  AP ((decide (v7.2 < 6)))
   (Bb (fun (v10 : (List Ad)) =>
    Cg N p0 p1 v1 v4 j7 n7 (v10, (wI .i64 (v7.2 + 1))))
   fun j10 =>
   (E7 N p0 p1 ((Ad.mk v1.2 v4.2 v7.2))).bind fun v11 =>
   AP ((v11.2 == 0))
    ((DF (v7.1.length + (([(Ad.mk v1.2 v4.2 v7.2)] : List Ad)).length ≤ C5)).bind fun _ =>
    j10 (v7.1 ++ (([(Ad.mk v1.2 v4.2 v7.2)] : List Ad))))
    (j10 v7.1))
   (j7 v7.1)
def Ce (N : Nat) (p0 : Aa) (p1 : Ac) (v1 : (List Ad) × Int) (j4 : ((List Ad)) → Option ((List Ad))) : Nat → ((List Ad) × Int) → Option ((List Ad))
 | 0, _ => none
 | n4 + 1, v4 =>
  AP ((decide (v4.2 < (VS ((p0.fa.length : Int)) ((p0.fc.length : Int))))))
   (Cg N p0 p1 v1 v4 (fun (v8 : (List Ad)) =>
    Ce N p0 p1 v1 j4 n4 (v8, (wI .i64 (v4.2 + 1)))) N (v4.1, 0))
   (j4 v4.1)
def By (N : Nat) (p0 : Aa) (p1 : Ac) (j1 : ((List Ad)) → Option ((List Ad))) : Nat → ((List Ad) × Int) → Option ((List Ad))
 | 0, _ => none
 | n1 + 1, v1 =>
  AP ((decide (v1.2 ≤ 3)))
   (Ce N p0 p1 v1 (fun (v5 : (List Ad)) =>
    By N p0 p1 j1 n1 (v5, (wI .i64 (v1.2 + 1)))) N (v1.1, 0))
   (j1 v1.1)
def E8 (N : Nat) (p0 : Aa) (p1 : Ac) : Option ((List Ad)) :=
 By N p0 p1 (fun (v2 : (List Ad)) =>
  some v2) N (([] : List Ad), 1)
def DB (N : Nat) (p0 : List Int) (p1 : List Int) (j1 : Unit → Option Int) : Nat → Int → Option Int
 | 0, _ => none
 | n1 + 1, v1 =>
  Bb (fun (v3 : Bool) =>
   AP v3
    ((Bj p0 v1).bind fun v6 =>
    (Bj p1 v1).bind fun v7 =>
    AP ((decide (v6 < v7)))
     (some ((-1)))
     ((Bj p0 v1).bind fun v9 =>
     (Bj p1 v1).bind fun v10 =>
     AP ((decide (v10 < v9)))
      (some 1)
      (DB N p0 p1 j1 n1 (wI .i64 (v1 + 1)))))
    (j1 ()))
  fun j3 =>
  AP ((decide (v1 < (p0.length : Int))))
   (j3 (decide (v1 < (p1.length : Int))))
   (j3 false)
def DJ (N : Nat) (p0 : List Int) (p1 : List Int) : Option Int :=
 DB N p0 p1 (fun (_ : Unit) =>
  AP ((decide ((p0.length : Int) < (p1.length : Int))))
   (some ((-1)))
   (AP ((decide ((p1.length : Int) < (p0.length : Int))))
    (some 1)
    (some 0))) N 0
def C2 (N : Nat) (p0 : List Int) (j1 : ((List Int)) → Option ((List Int))) : Nat → ((List Int) × Int) → Option ((List Int))
 | 0, _ => none
 | n1 + 1, v1 =>
  AP ((decide (v1.2 < (p0.length : Int))))
   ((Bj p0 v1.2).bind fun v4 =>
   (DF (v1.1.length + (([(wI .i64 v4)] : List Int)).length ≤ C5)).bind fun _ =>
   C2 N p0 j1 n1 (v1.1 ++ (([(wI .i64 v4)] : List Int)), (wI .i64 (v1.2 + 1))))
   (j1 v1.1)
def DD (N : Nat) (p0 : List Int) : Option ((List Int)) :=
 C2 N p0 (fun (v2 : (List Int)) =>
  some v2) N (([] : List Int), 0)
def Ek (N : Nat) (p0 : Ac) (p1 : Ac) : Option Int :=
 (DJ N p0.fd p1.fd).bind fun v1 =>
 AP ((v1 != 0))
  (some v1)
  ((DJ N p0.fb p1.fb).bind fun v3 =>
  AP ((v3 != 0))
   (some v3)
   ((DD N p0.fe).bind fun v5 =>
   (DD N p1.fe).bind fun v6 =>
   (DJ N v5 v6).bind fun v7 =>
   some v7))
def EX (N : Nat) (p0 : Ac) (p1 : Ac) : Option Bool :=
 (Ek N p0 p1).bind fun v1 =>
 some ((v1 == 0))
def Cp (N : Nat) (p0 : List AC) (p1 : Ac) (j1 : Unit → Option Int) : Nat → Int → Option Int
 | 0, _ => none
 | n1 + 1, v1 =>
  AP ((decide (v1 < (p0.length : Int))))
   ((Bj p0 v1).bind fun v4 =>
   (EX N ((Ac.mk v4.fu.fd v4.fu.fb v4.fu.fe)) p1).bind fun v5 =>
   AP v5
    (some v1)
    (Cp N p0 p1 j1 n1 (wI .i64 (v1 + 1))))
   (j1 ())
def Et (N : Nat) (p0 : List AC) (p1 : Ac) : Option Int :=
 Cp N p0 p1 (fun (_ : Unit) =>
  some ((-1))) N 0
def BR (N : Nat) (p0 : Aa) (p2 : Int) (v1 : (List AC) × Int) (v5 : (List Ad)) (j6 : ((List AC)) → Option ((List AC) × Bool)) : Nat → ((List AC) × Int) → Option ((List AC) × Bool)
 | 0, _ => none
 | n6 + 1, v6 =>
  AP ((decide (v6.2 < (v5.length : Int))))
   ((Bj v6.1 v1.2).bind fun v9 =>
   (Bj v5 v6.2).bind fun v10 =>
   (CX N p0 ((Ac.mk v9.fu.fd v9.fu.fb v9.fu.fe)) v10).bind fun v11 =>
   Bb (fun (v12 : (List AC)) =>
    AP ((decide (p2 < (v12.length : Int))))
     (some (([] : List AC), false))
     (BR N p0 p2 v1 v5 j6 n6 (v12, (wI .i64 (v6.2 + 1)))))
   fun j12 =>
   Bb (fun (v13 : Bool) =>
    AP v13
     ((Bj v5 v6.2).bind fun v18 =>
     (DF (v6.1.length + (([(AC.mk v11.1 v1.2 v18)] : List AC)).length ≤ C5)).bind fun _ =>
     j12 (v6.1 ++ (([(AC.mk v11.1 v1.2 v18)] : List AC))))
     (j12 v6.1))
   fun j13 =>
   (CS N p0 v11.1).bind fun v14 =>
   AP v14
    ((Et N v6.1 v11.1).bind fun v16 =>
    j13 (decide (v16 < 0)))
    (j13 false))
   (j6 v6.1)
def BS (N : Nat) (p0 : Aa) (p2 : Int) (j1 : ((List AC)) → Option ((List AC) × Bool)) : Nat → ((List AC) × Int) → Option ((List AC) × Bool)
 | 0, _ => none
 | n1 + 1, v1 =>
  AP ((decide (v1.2 < (v1.1.length : Int))))
   ((Bj v1.1 v1.2).bind fun v4 =>
   (E8 N p0 ((Ac.mk v4.fu.fd v4.fu.fb v4.fu.fe))).bind fun v5 =>
   BR N p0 p2 v1 v5 (fun (v7 : (List AC)) =>
    BS N p0 p2 j1 n1 (v7, (wI .i64 (v1.2 + 1)))) N (v1.1, 0))
   (j1 v1.1)
def CZ (N : Nat) (p0 : Aa) (p1 : Ac) (p2 : Int) : Option ((List AC) × Bool) :=
 BS N p0 p2 (fun (v2 : (List AC)) =>
  some (v2, true)) N (([(AC.mk p1 ((-1)) ((Ad.mk 0 0 0)))] : List AC), 0)
def EW (N : Nat) (p0 : Aa) (p1 : Int) : Option Bool :=
 (Eb N p0).bind fun v1 =>
 Bb (fun (v2 : Bool) =>
  AP v2
   (some true)
   ((CZ N p0 v1.1 p1).bind fun v6 =>
   some v6.2))
 fun j2 =>
 AP ((v1.2 != 0))
  (j2 true)
  ((CS N p0 v1.1).bind fun v4 =>
  j2 (!v4))
def CR (N : Nat) (p0 : Aa) (v4 : (List (List Int))) (j5 : Unit → Option Bool) : Nat → Int → Option Bool
 | 0, _ => none
 | n5 + 1, v5 =>
  AP ((decide (v5 < (v4.length : Int))))
   ((Bj v4 v5).bind fun v8 =>
   (Dp N p0 v8).bind fun v9 =>
   Bb (fun (v10 : Bool) =>
    AP v10
     (some false)
     (CR N p0 v4 j5 n5 (wI .i64 (v5 + 1))))
   fun j10 =>
   AP ((v9.2 != 0))
    (j10 true)
    ((EW N v9.1 120).bind fun v12 =>
    j10 (!v12)))
   (j5 ())
def FQ (N : Nat) (p0 : Aa) : Option Bool :=
 (Bn N p0).bind fun v1 =>
 AP ((v1 != 0))
  (some true)
  (AP ((decide (3 < (p0.fa.length : Int))))
   (some false)
   ((CJ N ((p0.fa.length : Int))).bind fun v4 =>
   CR N p0 v4 (fun (_ : Unit) =>
    some true) N 0))
def FR (N : Nat) (p0 : BG) : Option (Aa × Bool) :=
 (FM N p0).bind fun v1 =>
 Bb (fun (v2 : Bool) =>
  some (v1.1, v2))
 fun j2 =>
 AP v1.2
  ((FQ N v1.1).bind fun v4 =>
  j2 v4)
  (j2 false)
def EV (_ : Nat) : Option ((List (List Bool))) :=
 some (([([true, false] : List Bool), ([false, true] : List Bool)] : List (List Bool)))
def En (N : Nat) (p0 : Bool) : Option Aa :=
 (EV N).bind fun v1 =>
 (EV N).bind fun v2 =>
 some ((Aa.mk (([2, 2, 2] : List Int)) (([0, 0, 0] : List Int)) (([1, 1, 1] : List Int)) (([(An.mk 1 0 1 p0 v1 (([] : List (List Bool)))), (An.mk 1 1 0 p0 v2 (([] : List (List Bool))))] : List An))))
def Dz (_ : Nat) (p0 : Int) (p1 : Int) : Option Bool :=
 Bb (fun (v1 : Bool) =>
  some v1)
 fun j1 =>
 AP ((decide (0 ≤ p0)))
  (j1 (decide (p0 < p1)))
  (j1 false)
def HE (_ : Nat) (p0 : Int) (p1 : Bool) : Option Bool :=
 Bb (fun (v1 : Bool) =>
  some v1)
 fun j1 =>
 AP ((p0 == 1))
  (j1 true)
  (AP ((p0 == 2))
   (j1 true)
   (AP ((p0 == 3))
    (j1 (!p1))
    (AP ((p0 == 4))
     (j1 (!p1))
     (j1 false))))
def El (_ : Nat) (p0 : List Bool) (p1 : Int) : Option Bool :=
 some (((p0.length : Int) != p1))
def Bu (N : Nat) (p0 : List (List Bool)) (p1 : (List Bool) → Option Bool) (j1 : Unit → Option Int) : Nat → Int → Option Int
 | 0, _ => none
 | n1 + 1, v1 =>
  AP ((decide (v1 < (p0.length : Int))))
   ((Bj p0 v1).bind fun v4 =>
   (p1 v4).bind fun v5 =>
   AP v5
    (some v1)
    (Bu N p0 p1 j1 n1 (wI .i64 (v1 + 1))))
   (j1 ())
def DM (N : Nat) (p0 : List (List Bool)) (p1 : (List Bool) → Option Bool) : Option Int :=
 Bu N p0 p1 (fun (_ : Unit) =>
  some ((-1))) N 0
def De (N : Nat) (p0 : List (List Bool)) (p1 : (List Bool) → Option Bool) : Option Bool :=
 (DM N p0 p1).bind fun v1 =>
 some ((decide (0 ≤ v1)))
def FL (N : Nat) (p0 : List (List Bool)) (p1 : Int) (p2 : Int) : Option Bool :=
 Bb (fun (v1 : Bool) =>
  some v1)
 fun j1 =>
 AP (((p0.length : Int) == p1))
  ((De N p0 ((fun (x : List Bool) => El N x p2))).bind fun v3 =>
  j1 (!v3))
  (j1 false)
def Du (N : Nat) (p1 : An) (j19 : Unit → Option Int) : Nat → Int → Option Int
 | 0, _ => none
 | n19 + 1, v19 =>
  AP ((decide (v19 < (p1.fk.length : Int))))
   ((Bj p1.fk v19).bind fun v22 =>
   (Bj v22 v19).bind fun v23 =>
   AP ((!v23))
    (some 1)
    (Du N p1 j19 n19 (wI .i64 (v19 + 1))))
   (j19 ())
def G5 (N : Nat) (p0 : Aa) (p1 : An) : Option Int :=
 (HE N p1.ff p1.fr).bind fun v1 =>
 AP ((!v1))
  (some 1)
  (Bb (fun (v3 : Bool) =>
   AP v3
    (some 4)
    ((Bj p0.fa p1.fg).bind fun v8 =>
    Bb (fun (v9 : Bool) =>
     AP v9
      (some 6)
      (Du N p1 (fun (_ : Unit) =>
       some 0) N 0))
    fun j9 =>
    (Bj p0.fa p1.fj).bind fun v10 =>
    (FL N p1.fq v8 v10).bind fun v11 =>
    AP ((!v11))
     (j9 true)
     (AP ((p1.ff == 4))
      ((FL N p1.fk v8 v8).bind fun v14 =>
      AP ((!v14))
       (j9 true)
       (AP ((!((p1.ff == 4))))
        (j9 (decide (0 < (p1.fk.length : Int))))
        (j9 false)))
      (AP ((!((p1.ff == 4))))
       (j9 (decide (0 < (p1.fk.length : Int))))
       (j9 false)))))
  fun j3 =>
  (Dz N p1.fg ((p0.fa.length : Int))).bind fun v4 =>
  AP ((!v4))
   (j3 true)
   ((Dz N p1.fj ((p0.fa.length : Int))).bind fun v6 =>
   j3 (!v6)))
def B6 (N : Nat) (p0 : Aa) (j7 : Unit → Option Int) : Nat → Int → Option Int
 | 0, _ => none
 | n7 + 1, v7 =>
  AP ((decide (v7 < (p0.fa.length : Int))))
   ((Bj p0.fa v7).bind fun v10 =>
   Bb (fun (v11 : Bool) =>
    AP v11
     (some 7)
     (B6 N p0 j7 n7 (wI .i64 (v7 + 1))))
   fun j11 =>
   AP ((decide (v10 < 1)))
    (j11 true)
    (AP ((decide (6 < v10)))
     (j11 true)
     ((Bj p0.fi v7).bind fun v14 =>
     (Dz N v14 v10).bind fun v15 =>
     AP ((!v15))
      (j11 true)
      ((Bj p0.fm v7).bind fun v17 =>
      (Dz N v17 v10).bind fun v18 =>
      j11 (!v18)))))
   (j7 ())
def BW (N : Nat) (p0 : Aa) (j20 : Unit → Option Int) : Nat → Int → Option Int
 | 0, _ => none
 | n20 + 1, v20 =>
  AP ((decide (v20 < (p0.fc.length : Int))))
   ((Bj p0.fc v20).bind fun v23 =>
   (G5 N p0 v23).bind fun v24 =>
   AP ((v24 != 0))
    (some v24)
    (BW N p0 j20 n20 (wI .i64 (v20 + 1))))
   (j20 ())
def Cb (N : Nat) (p0 : Aa) : Option Int :=
 Bb (fun (v1 : Bool) =>
  AP v1
   (some 3)
   (Bb (fun (v4 : Bool) =>
    AP v4
     (some 6)
     (B6 N p0 (fun (_ : Unit) =>
      BW N p0 (fun (_ : Unit) =>
       some 0) N 0) N 0))
   fun j4 =>
   AP (((p0.fi.length : Int) != (p0.fa.length : Int)))
    (j4 true)
    (j4 ((p0.fm.length : Int) != (p0.fa.length : Int)))))
 fun j1 =>
 AP ((decide (6 < (p0.fa.length : Int))))
  (j1 true)
  (j1 (decide (12 < (p0.fc.length : Int))))
def Bv (_ : Nat) (p0 : List Int) (p1 : (Int × Int) → Option Int) : Option (List Int) := Va p1 (fun a b => decide (a = b)) p0
def FY (_ : Nat) (p0 : Int) : Option Int :=
 (Si ((⟨⟨(zE3 (zE3 [0, 1, 1, 2, 1, 2, 2, 3, 1, 2, 2, 3, 2, 3, 3, 4, 1, 2, 2, 3, 2, 3, 3, 4, 2, 3, 3, 4, 3, 4, 4, 5, 1, 2, 2, 3, 2, 3, 3, 4, 2, 3, 3, 4, 3, 4, 4, 5, 2, 3, 3, 4, 3, 4, 4, 5, 3, 4, 4, 5, 4, 5, 5, 6] [1, 2, 2, 3, 2, 3, 3, 4, 2, 3, 3, 4, 3, 4, 4, 5, 2, 3, 3, 4, 3, 4, 4, 5, 3, 4, 4, 5, 4, 5, 5, 6, 2, 3, 3, 4, 3, 4, 4, 5, 3, 4, 4, 5, 4, 5, 5, 6, 3, 4, 4, 5, 4, 5, 5, 6, 4, 5, 5, 6, 5, 6, 6, 7]) (zE3 [1, 2, 2, 3, 2, 3, 3, 4, 2, 3, 3, 4, 3, 4, 4, 5, 2, 3, 3, 4, 3, 4, 4, 5, 3, 4, 4, 5, 4, 5, 5, 6, 2, 3, 3, 4, 3, 4, 4, 5, 3, 4, 4, 5, 4, 5, 5, 6, 3, 4, 4, 5, 4, 5, 5, 6, 4, 5, 5, 6, 5, 6, 6, 7] [2, 3, 3, 4, 3, 4, 4, 5, 3, 4, 4, 5, 4, 5, 5, 6, 3, 4, 4, 5, 4, 5, 5, 6, 4, 5, 5, 6, 5, 6, 6, 7, 3, 4, 4, 5, 4, 5, 5, 6, 4, 5, 5, 6, 5, 6, 6, 7, 4, 5, 5, 6, 5, 6, 6, 7, 5, 6, 6, 7, 6, 7, 7, 8]))⟩⟩ : ByteArray)) ((AZ .u32 p0 24))).bind fun v1 =>
 (Si ((⟨⟨(zE3 (zE3 [0, 1, 1, 2, 1, 2, 2, 3, 1, 2, 2, 3, 2, 3, 3, 4, 1, 2, 2, 3, 2, 3, 3, 4, 2, 3, 3, 4, 3, 4, 4, 5, 1, 2, 2, 3, 2, 3, 3, 4, 2, 3, 3, 4, 3, 4, 4, 5, 2, 3, 3, 4, 3, 4, 4, 5, 3, 4, 4, 5, 4, 5, 5, 6] [1, 2, 2, 3, 2, 3, 3, 4, 2, 3, 3, 4, 3, 4, 4, 5, 2, 3, 3, 4, 3, 4, 4, 5, 3, 4, 4, 5, 4, 5, 5, 6, 2, 3, 3, 4, 3, 4, 4, 5, 3, 4, 4, 5, 4, 5, 5, 6, 3, 4, 4, 5, 4, 5, 5, 6, 4, 5, 5, 6, 5, 6, 6, 7]) (zE3 [1, 2, 2, 3, 2, 3, 3, 4, 2, 3, 3, 4, 3, 4, 4, 5, 2, 3, 3, 4, 3, 4, 4, 5, 3, 4, 4, 5, 4, 5, 5, 6, 2, 3, 3, 4, 3, 4, 4, 5, 3, 4, 4, 5, 4, 5, 5, 6, 3, 4, 4, 5, 4, 5, 5, 6, 4, 5, 5, 6, 5, 6, 6, 7] [2, 3, 3, 4, 3, 4, 4, 5, 3, 4, 4, 5, 4, 5, 5, 6, 3, 4, 4, 5, 4, 5, 5, 6, 4, 5, 5, 6, 5, 6, 6, 7, 3, 4, 4, 5, 4, 5, 5, 6, 4, 5, 5, 6, 5, 6, 6, 7, 4, 5, 5, 6, 5, 6, 6, 7, 5, 6, 6, 7, 6, 7, 7, 8]))⟩⟩ : ByteArray)) ((AK .u32 ((AZ .u32 p0 16)) 255))).bind fun v2 =>
 (Si ((⟨⟨(zE3 (zE3 [0, 1, 1, 2, 1, 2, 2, 3, 1, 2, 2, 3, 2, 3, 3, 4, 1, 2, 2, 3, 2, 3, 3, 4, 2, 3, 3, 4, 3, 4, 4, 5, 1, 2, 2, 3, 2, 3, 3, 4, 2, 3, 3, 4, 3, 4, 4, 5, 2, 3, 3, 4, 3, 4, 4, 5, 3, 4, 4, 5, 4, 5, 5, 6] [1, 2, 2, 3, 2, 3, 3, 4, 2, 3, 3, 4, 3, 4, 4, 5, 2, 3, 3, 4, 3, 4, 4, 5, 3, 4, 4, 5, 4, 5, 5, 6, 2, 3, 3, 4, 3, 4, 4, 5, 3, 4, 4, 5, 4, 5, 5, 6, 3, 4, 4, 5, 4, 5, 5, 6, 4, 5, 5, 6, 5, 6, 6, 7]) (zE3 [1, 2, 2, 3, 2, 3, 3, 4, 2, 3, 3, 4, 3, 4, 4, 5, 2, 3, 3, 4, 3, 4, 4, 5, 3, 4, 4, 5, 4, 5, 5, 6, 2, 3, 3, 4, 3, 4, 4, 5, 3, 4, 4, 5, 4, 5, 5, 6, 3, 4, 4, 5, 4, 5, 5, 6, 4, 5, 5, 6, 5, 6, 6, 7] [2, 3, 3, 4, 3, 4, 4, 5, 3, 4, 4, 5, 4, 5, 5, 6, 3, 4, 4, 5, 4, 5, 5, 6, 4, 5, 5, 6, 5, 6, 6, 7, 3, 4, 4, 5, 4, 5, 5, 6, 4, 5, 5, 6, 5, 6, 6, 7, 4, 5, 5, 6, 5, 6, 6, 7, 5, 6, 6, 7, 6, 7, 7, 8]))⟩⟩ : ByteArray)) ((AK .u32 ((AZ .u32 p0 8)) 255))).bind fun v3 =>
 (Si ((⟨⟨(zE3 (zE3 [0, 1, 1, 2, 1, 2, 2, 3, 1, 2, 2, 3, 2, 3, 3, 4, 1, 2, 2, 3, 2, 3, 3, 4, 2, 3, 3, 4, 3, 4, 4, 5, 1, 2, 2, 3, 2, 3, 3, 4, 2, 3, 3, 4, 3, 4, 4, 5, 2, 3, 3, 4, 3, 4, 4, 5, 3, 4, 4, 5, 4, 5, 5, 6] [1, 2, 2, 3, 2, 3, 3, 4, 2, 3, 3, 4, 3, 4, 4, 5, 2, 3, 3, 4, 3, 4, 4, 5, 3, 4, 4, 5, 4, 5, 5, 6, 2, 3, 3, 4, 3, 4, 4, 5, 3, 4, 4, 5, 4, 5, 5, 6, 3, 4, 4, 5, 4, 5, 5, 6, 4, 5, 5, 6, 5, 6, 6, 7]) (zE3 [1, 2, 2, 3, 2, 3, 3, 4, 2, 3, 3, 4, 3, 4, 4, 5, 2, 3, 3, 4, 3, 4, 4, 5, 3, 4, 4, 5, 4, 5, 5, 6, 2, 3, 3, 4, 3, 4, 4, 5, 3, 4, 4, 5, 4, 5, 5, 6, 3, 4, 4, 5, 4, 5, 5, 6, 4, 5, 5, 6, 5, 6, 6, 7] [2, 3, 3, 4, 3, 4, 4, 5, 3, 4, 4, 5, 4, 5, 5, 6, 3, 4, 4, 5, 4, 5, 5, 6, 4, 5, 5, 6, 5, 6, 6, 7, 3, 4, 4, 5, 4, 5, 5, 6, 4, 5, 5, 6, 5, 6, 6, 7, 4, 5, 5, 6, 5, 6, 6, 7, 5, 6, 6, 7, 6, 7, 7, 8]))⟩⟩ : ByteArray)) ((AK .u32 p0 255))).bind fun v4 =>
 some ((wI .i64 ((wI .u8 ((wI .u8 ((wI .u8 (v1 + v2)) + v3)) + v4)))))
def F3 (_ : Nat) (p0 : Int) : Option Int :=
 some ((AK .i64 ((wI .i64 ((wI .u64 ((wI .u64 ((wI .u64 ((AK .u64 ((wI .u64 ((AZ .u64 ((wI .u64 ((AK .u64 ((AZ .u64 ((wI .u64 ((AK .u64 ((AZ .u64 p0 1)) 6148914691236517205) + (AK .u64 p0 6148914691236517205)))) 2)) 3689348814741910323) + (AK .u64 ((wI .u64 ((AK .u64 ((AZ .u64 p0 1)) 6148914691236517205) + (AK .u64 p0 6148914691236517205)))) 3689348814741910323)))) 4) + (wI .u64 ((AK .u64 ((AZ .u64 ((wI .u64 ((AK .u64 ((AZ .u64 p0 1)) 6148914691236517205) + (AK .u64 p0 6148914691236517205)))) 2)) 3689348814741910323) + (AK .u64 ((wI .u64 ((AK .u64 ((AZ .u64 p0 1)) 6148914691236517205) + (AK .u64 p0 6148914691236517205)))) 3689348814741910323)))))) 1085102592571150095) + (AZ .u64 ((AK .u64 ((wI .u64 ((AZ .u64 ((wI .u64 ((AK .u64 ((AZ .u64 ((wI .u64 ((AK .u64 ((AZ .u64 p0 1)) 6148914691236517205) + (AK .u64 p0 6148914691236517205)))) 2)) 3689348814741910323) + (AK .u64 ((wI .u64 ((AK .u64 ((AZ .u64 p0 1)) 6148914691236517205) + (AK .u64 p0 6148914691236517205)))) 3689348814741910323)))) 4) + (wI .u64 ((AK .u64 ((AZ .u64 ((wI .u64 ((AK .u64 ((AZ .u64 p0 1)) 6148914691236517205) + (AK .u64 p0 6148914691236517205)))) 2)) 3689348814741910323) + (AK .u64 ((wI .u64 ((AK .u64 ((AZ .u64 p0 1)) 6148914691236517205) + (AK .u64 p0 6148914691236517205)))) 3689348814741910323)))))) 1085102592571150095)) 8))) + (AZ .u64 ((wI .u64 ((AK .u64 ((wI .u64 ((AZ .u64 ((wI .u64 ((AK .u64 ((AZ .u64 ((wI .u64 ((AK .u64 ((AZ .u64 p0 1)) 6148914691236517205) + (AK .u64 p0 6148914691236517205)))) 2)) 3689348814741910323) + (AK .u64 ((wI .u64 ((AK .u64 ((AZ .u64 p0 1)) 6148914691236517205) + (AK .u64 p0 6148914691236517205)))) 3689348814741910323)))) 4) + (wI .u64 ((AK .u64 ((AZ .u64 ((wI .u64 ((AK .u64 ((AZ .u64 p0 1)) 6148914691236517205) + (AK .u64 p0 6148914691236517205)))) 2)) 3689348814741910323) + (AK .u64 ((wI .u64 ((AK .u64 ((AZ .u64 p0 1)) 6148914691236517205) + (AK .u64 p0 6148914691236517205)))) 3689348814741910323)))))) 1085102592571150095) + (AZ .u64 ((AK .u64 ((wI .u64 ((AZ .u64 ((wI .u64 ((AK .u64 ((AZ .u64 ((wI .u64 ((AK .u64 ((AZ .u64 p0 1)) 6148914691236517205) + (AK .u64 p0 6148914691236517205)))) 2)) 3689348814741910323) + (AK .u64 ((wI .u64 ((AK .u64 ((AZ .u64 p0 1)) 6148914691236517205) + (AK .u64 p0 6148914691236517205)))) 3689348814741910323)))) 4) + (wI .u64 ((AK .u64 ((AZ .u64 ((wI .u64 ((AK .u64 ((AZ .u64 p0 1)) 6148914691236517205) + (AK .u64 p0 6148914691236517205)))) 2)) 3689348814741910323) + (AK .u64 ((wI .u64 ((AK .u64 ((AZ .u64 p0 1)) 6148914691236517205) + (AK .u64 p0 6148914691236517205)))) 3689348814741910323)))))) 1085102592571150095)) 8)))) 16))) + (AZ .u64 ((wI .u64 ((wI .u64 ((AK .u64 ((wI .u64 ((AZ .u64 ((wI .u64 ((AK .u64 ((AZ .u64 ((wI .u64 ((AK .u64 ((AZ .u64 p0 1)) 6148914691236517205) + (AK .u64 p0 6148914691236517205)))) 2)) 3689348814741910323) + (AK .u64 ((wI .u64 ((AK .u64 ((AZ .u64 p0 1)) 6148914691236517205) + (AK .u64 p0 6148914691236517205)))) 3689348814741910323)))) 4) + (wI .u64 ((AK .u64 ((AZ .u64 ((wI .u64 ((AK .u64 ((AZ .u64 p0 1)) 6148914691236517205) + (AK .u64 p0 6148914691236517205)))) 2)) 3689348814741910323) + (AK .u64 ((wI .u64 ((AK .u64 ((AZ .u64 p0 1)) 6148914691236517205) + (AK .u64 p0 6148914691236517205)))) 3689348814741910323)))))) 1085102592571150095) + (AZ .u64 ((AK .u64 ((wI .u64 ((AZ .u64 ((wI .u64 ((AK .u64 ((AZ .u64 ((wI .u64 ((AK .u64 ((AZ .u64 p0 1)) 6148914691236517205) + (AK .u64 p0 6148914691236517205)))) 2)) 3689348814741910323) + (AK .u64 ((wI .u64 ((AK .u64 ((AZ .u64 p0 1)) 6148914691236517205) + (AK .u64 p0 6148914691236517205)))) 3689348814741910323)))) 4) + (wI .u64 ((AK .u64 ((AZ .u64 ((wI .u64 ((AK .u64 ((AZ .u64 p0 1)) 6148914691236517205) + (AK .u64 p0 6148914691236517205)))) 2)) 3689348814741910323) + (AK .u64 ((wI .u64 ((AK .u64 ((AZ .u64 p0 1)) 6148914691236517205) + (AK .u64 p0 6148914691236517205)))) 3689348814741910323)))))) 1085102592571150095)) 8))) + (AZ .u64 ((wI .u64 ((AK .u64 ((wI .u64 ((AZ .u64 ((wI .u64 ((AK .u64 ((AZ .u64 ((wI .u64 ((AK .u64 ((AZ .u64 p0 1)) 6148914691236517205) + (AK .u64 p0 6148914691236517205)))) 2)) 3689348814741910323) + (AK .u64 ((wI .u64 ((AK .u64 ((AZ .u64 p0 1)) 6148914691236517205) + (AK .u64 p0 6148914691236517205)))) 3689348814741910323)))) 4) + (wI .u64 ((AK .u64 ((AZ .u64 ((wI .u64 ((AK .u64 ((AZ .u64 p0 1)) 6148914691236517205) + (AK .u64 p0 6148914691236517205)))) 2)) 3689348814741910323) + (AK .u64 ((wI .u64 ((AK .u64 ((AZ .u64 p0 1)) 6148914691236517205) + (AK .u64 p0 6148914691236517205)))) 3689348814741910323)))))) 1085102592571150095) + (AZ .u64 ((AK .u64 ((wI .u64 ((AZ .u64 ((wI .u64 ((AK .u64 ((AZ .u64 ((wI .u64 ((AK .u64 ((AZ .u64 p0 1)) 6148914691236517205) + (AK .u64 p0 6148914691236517205)))) 2)) 3689348814741910323) + (AK .u64 ((wI .u64 ((AK .u64 ((AZ .u64 p0 1)) 6148914691236517205) + (AK .u64 p0 6148914691236517205)))) 3689348814741910323)))) 4) + (wI .u64 ((AK .u64 ((AZ .u64 ((wI .u64 ((AK .u64 ((AZ .u64 p0 1)) 6148914691236517205) + (AK .u64 p0 6148914691236517205)))) 2)) 3689348814741910323) + (AK .u64 ((wI .u64 ((AK .u64 ((AZ .u64 p0 1)) 6148914691236517205) + (AK .u64 p0 6148914691236517205)))) 3689348814741910323)))))) 1085102592571150095)) 8)))) 16)))) 32)))))) 127))
def Fo (N : Nat) (p0 : Int) : Option Int :=
 AP false
  ((FY N ((wI .u32 p0))).bind fun v2 =>
  some v2)
  ((F3 N p0).bind fun v3 =>
  some v3)
def G7 (_ : Nat) (p0 : Int) : Option Int := ey p0
def Gt (N : Nat) (j1 : ((List Int)) → Option ((List Int))) : Nat → ((List Int) × Int) → Option ((List Int))
 | 0, _ => none
 | n1 + 1, v1 =>
  AP ((v1.2 != 0))
   ((G7 N v1.2).bind fun v4 =>
   (DF (v1.1.length + (([v4] : List Int)).length ≤ C5)).bind fun _ =>
   Gt N j1 n1 (v1.1 ++ (([v4] : List Int)), (AK .u64 v1.2 ((wI .u64 (v1.2 - 1))))))
   (j1 v1.1)
def Bo (N : Nat) (p0 : Int) : Option ((List Int)) :=
 Gt N (fun (v2 : (List Int)) =>
  some v2) N (([] : List Int), p0)
def Hd (_ : Nat) (p0 : Int) : Option Bool :=
 some ((p0 != p0))
def HU (N : Nat) (p0 : Int) (p1 : Int) : Option Int :=
 (Hd N p0).bind fun v1 =>
 (Hd N p1).bind fun v2 =>
 AP v1
  (AP v2
   (some 0)
   (some ((-1))))
  (AP v2
   (some 1)
   (AP ((decide (p0 < p1)))
    (some ((-1)))
    (AP ((decide (p1 < p0)))
     (some 1)
     (some 0))))
def DZ (N : Nat) (p0 : List Int) (p1 : List Int) (j1 : Unit → Option Int) : Nat → Int → Option Int
 | 0, _ => none
 | n1 + 1, v1 =>
  AP ((decide (v1 < (p0.length : Int))))
   ((Bj p0 v1).bind fun v4 =>
   AP ((decide ((p1.length : Int) ≤ v1)))
    (some 1)
    ((Bj p1 v1).bind fun v6 =>
    (HU N v4 v6).bind fun v7 =>
    AP ((v7 != 0))
     (some v7)
     (DZ N p0 p1 j1 n1 (wI .i64 (v1 + 1)))))
   (j1 ())
def FG (N : Nat) (p0 : List Int) (p1 : List Int) : Option Int :=
 DZ N p0 p1 (fun (_ : Unit) =>
  AP ((decide ((p0.length : Int) < (p1.length : Int))))
   (some ((-1)))
   (some 0)) N 0
def DA (N : Nat) (p0 : Int) (p1 : Int) : Option Int :=
 (Fo N p0).bind fun v1 =>
 (Fo N p1).bind fun v2 =>
 AP (((wI .i64 (v1 - v2)) != 0))
  (some ((wI .i64 (v1 - v2))))
  ((Bo N p0).bind fun v4 =>
  (Bo N p1).bind fun v5 =>
  (FG N v4 v5).bind fun v6 =>
  some v6)
def BK (N : Nat) (p0 : List Int) (p1 : Int) (j1 : Unit → Option Int) : Nat → Int → Option Int
 | 0, _ => none
 | n1 + 1, v1 =>
  AP ((decide (v1 < (p0.length : Int))))
   ((Bj p0 v1).bind fun v4 =>
   AP ((p1 == v4))
    (some v1)
    (BK N p0 p1 j1 n1 (wI .i64 (v1 + 1))))
   (j1 ())
def Dn (N : Nat) (p0 : List Int) (p1 : Int) : Option Int :=
 BK N p0 p1 (fun (_ : Unit) =>
  some ((-1))) N 0
def C1 (_ : Nat) (p0 : List (List Bool)) : Option ((List (List Bool))) :=
 (DF ((([] : List (List Bool))).length + p0.length ≤ C5)).bind fun _ =>
 some ((([] : List (List Bool))) ++ p0)
def CD (_ : Nat) (p0 : List Bool) : Option ((List Bool)) :=
 (DF ((([] : List Bool)).length + p0.length ≤ C5)).bind fun _ =>
 some ((([] : List Bool)) ++ p0)
def D5 (N : Nat) (v1 : (List (List Bool))) (j3 : ((List (List Bool))) → Option An) : Nat → ((List (List Bool)) × Int) → Option An
 | 0, _ => none
 | n3 + 1, v3 =>
  AP ((decide (v3.2 < (v1.length : Int))))
   ((Bj v3.1 v3.2).bind fun v6 =>
   (CD N v6).bind fun v7 =>
   (Bj v3.1 v3.2).bind fun _ =>
   D5 N v1 j3 n3 (v3.1.set ((v3.2).toNat) v7, (wI .i64 (v3.2 + 1))))
   (j3 v3.1)
def C8 (N : Nat) (v2 : (List (List Bool))) (j9 : ((List (List Bool))) → Option An) : Nat → ((List (List Bool)) × Int) → Option An
 | 0, _ => none
 | n9 + 1, v9 =>
  AP ((decide (v9.2 < (v2.length : Int))))
   ((Bj v9.1 v9.2).bind fun v12 =>
   (CD N v12).bind fun v13 =>
   (Bj v9.1 v9.2).bind fun _ =>
   C8 N v2 j9 n9 (v9.1.set ((v9.2).toNat) v13, (wI .i64 (v9.2 + 1))))
   (j9 v9.1)
def GK (N : Nat) (p0 : An) : Option An :=
 (C1 N p0.fq).bind fun v1 =>
 (C1 N p0.fk).bind fun v2 =>
 D5 N v1 (fun (v4 : (List (List Bool))) =>
  C8 N v2 (fun (v10 : (List (List Bool))) =>
   some ((An.mk p0.ff p0.fg p0.fj p0.fr v4 v10))) N (v2, 0)) N (v1, 0)
def Cx (N : Nat) (p1 : List Int) (j3 : Unit → Option (Aa × Int)) : Nat → Int → Option (Aa × Int)
 | 0, _ => none
 | n3 + 1, v3 =>
  AP ((decide (v3 < (p1.length : Int))))
   (Bb (fun (v6 : Bool) =>
    AP v6
     (some ((Aa.mk (([] : List Int)) (([] : List Int)) (([] : List Int)) (([] : List An))), 1))
     (Cx N p1 j3 n3 (wI .i64 (v3 + 1))))
   fun j6 =>
   AP ((decide (0 < v3)))
    ((Bj p1 v3).bind fun v8 =>
    (Bj p1 ((wI .i64 (v3 - 1)))).bind fun v9 =>
    j6 (decide (v8 ≤ v9)))
    (j6 false))
   (j3 ())
def DP (N : Nat) (p0 : Aa) (p1 : List Int) (j11 : ((List Int) × (List Int) × (List Int)) → Option (Aa × Int)) : Nat → ((List Int) × (List Int) × (List Int) × Int) → Option (Aa × Int)
 | 0, _ => none
 | n11 + 1, v11 =>
  AP ((decide (v11.2.2.2 < (p1.length : Int))))
   ((Bj p1 v11.2.2.2).bind fun v14 =>
   (Dz N v14 ((p0.fa.length : Int))).bind fun v15 =>
   AP ((!v15))
    (some ((Aa.mk (([] : List Int)) (([] : List Int)) (([] : List Int)) (([] : List An))), 4))
    ((Bj p0.fa v14).bind fun v17 =>
    (DF (v11.1.length + (([v17] : List Int)).length ≤ C5)).bind fun _ =>
    (Bj p0.fi v14).bind fun v19 =>
    (DF (v11.2.1.length + (([v19] : List Int)).length ≤ C5)).bind fun _ =>
    (Bj p0.fm v14).bind fun v21 =>
    (DF (v11.2.2.1.length + (([v21] : List Int)).length ≤ C5)).bind fun _ =>
    DP N p0 p1 j11 n11 (v11.1 ++ (([v17] : List Int)), v11.2.1 ++ (([v19] : List Int)), v11.2.2.1 ++ (([v21] : List Int)), (wI .i64 (v11.2.2.2 + 1)))))
   (j11 (v11.1, v11.2.1, v11.2.2.1))
def CH (N : Nat) (p0 : Aa) (p1 : List Int) (j23 : ((List An)) → Option (Aa × Int)) : Nat → ((List An) × Int) → Option (Aa × Int)
 | 0, _ => none
 | n23 + 1, v23 =>
  AP ((decide (v23.2 < (p0.fc.length : Int))))
   (Bb (fun (v26 : (List An)) =>
    CH N p0 p1 j23 n23 (v26, (wI .i64 (v23.2 + 1))))
   fun j26 =>
   (Bj p0.fc v23.2).bind fun v27 =>
   (Dn N p1 v27.fg).bind fun v28 =>
   (Dn N p1 v27.fj).bind fun v29 =>
   Bb (fun (v30 : Bool) =>
    AP v30
     ((GK N v27).bind fun v33 =>
     (DF (v23.1.length + (([(An.mk v33.ff v28 v29 v33.fr v33.fq v33.fk)] : List An)).length ≤ C5)).bind fun _ =>
     j26 (v23.1 ++ (([(An.mk v33.ff v28 v29 v33.fr v33.fq v33.fk)] : List An))))
     (j26 v23.1))
   fun j30 =>
   AP ((decide (0 ≤ v28)))
    (j30 (decide (0 ≤ v29)))
    (j30 false))
   (j23 v23.1)
def FT (N : Nat) (p0 : Aa) (p1 : List Int) : Option (Aa × Int) :=
 (Cb N p0).bind fun v1 =>
 AP ((v1 != 0))
  (some ((Aa.mk (([] : List Int)) (([] : List Int)) (([] : List Int)) (([] : List An))), v1))
  (Cx N p1 (fun (_ : Unit) =>
   DP N p0 p1 (fun (v12 : (List Int) × (List Int) × (List Int)) =>
    CH N p0 p1 (fun (v24 : (List An)) =>
     some ((Aa.mk v12.1 v12.2.1 v12.2.2 v24), 0)) N (([] : List An), 0)) N (([] : List Int), ([] : List Int), ([] : List Int), 0)) N 0)
def BU (_ : Nat) (p0 : List Int) : Option ((List Int)) :=
 (DF ((([] : List Int)).length + p0.length ≤ C5)).bind fun _ =>
 some ((([] : List Int)) ++ p0)
def HO (_ : Nat) (p0 : Int) (p1 : Int) : Option (Int × Int) :=
 some ((wI .u32 ((AZ .u64 ((wI .u64 ((wI .u64 p0) * (wI .u64 p1)))) 32))), (wI .u32 ((wI .u64 ((wI .u64 p0) * (wI .u64 p1))))))
def HR (_ : Nat) (p0 : Int) (p1 : Int) : Option (Int × Int) :=
 some ((wI .u64 ((wI .u64 ((wI .u64 ((AZ .u64 p0 32) * (AZ .u64 p1 32))) + (AZ .u64 ((wI .u64 ((wI .u64 ((AZ .u64 p0 32) * (AK .u64 p1 4294967295))) + (AZ .u64 ((wI .u64 ((AK .u64 p0 4294967295) * (AK .u64 p1 4294967295)))) 32)))) 32))) + (AZ .u64 ((wI .u64 ((AK .u64 ((wI .u64 ((wI .u64 ((AZ .u64 p0 32) * (AK .u64 p1 4294967295))) + (AZ .u64 ((wI .u64 ((AK .u64 p0 4294967295) * (AK .u64 p1 4294967295)))) 32)))) 4294967295) + (wI .u64 ((AK .u64 p0 4294967295) * (AZ .u64 p1 32)))))) 32))), (wI .u64 (p0 * p1)))
def Iy (N : Nat) (p0 : Int) (p1 : Int) : Option (Int × Int) :=
 AP false
  ((HO N ((wI .u32 p0)) ((wI .u32 p1))).bind fun v2 =>
  some ((wI .u64 v2.1), (wI .u64 v2.2)))
  ((HR N p0 p1).bind fun v3 =>
  some (v3.1, v3.2))
def Eh (N : Nat) (j9 : ((List Int)) → Option ((List Int))) : Nat → ((List Int) × Int) → Option ((List Int))
 | 0, _ => none
 | n9 + 1, v9 =>
  AP ((decide (v9.2 < (v9.1.length : Int))))
   ((DF ((0 : Int) ≤ v9.2 ∧ (v9.2).toNat ≤ v9.1.length ∧ v9.1.length ≤ v9.1.length)).bind fun _ =>
   (DF ((0 : Int) ≤ v9.2 ∧ 0 ≤ (v9.2).toNat ∧ (v9.2).toNat ≤ v9.1.length)).bind fun _ =>
   Eh N j9 n9 (Jl v9.1 ((v9.2).toNat) ((((v9.1.drop 0).take ((v9.2).toNat))).take (zE8 (((v9.1.drop 0).take ((v9.2).toNat))).length ((v9.1.length - (v9.2).toNat)))), (wI .i64 (v9.2 + (((zE8 (((v9.1.drop 0).take ((v9.2).toNat))).length ((v9.1.length - (v9.2).toNat))) : Nat) : Int)))))
   (j9 v9.1)
def ER (N : Nat) (p0 : List Int) (p1 : Int) : Option ((List Int)) :=
 Bb (fun (_ : Unit) =>
  (Iy N ((wI .u64 ((p0.length : Int)))) ((wI .u64 p1))).bind fun v3 =>
  Bb (fun (_ : Unit) =>
   (DF ((0 : Int) ≤ (wI .i64 v3.2) ∧ (wI .i64 v3.2) ≤ (wI .i64 v3.2) ∧ (wI .i64 v3.2) ≤ (C5 : Int))).bind fun _ =>
   Eh N (fun (v10 : (List Int)) =>
    some v10) N (Jl (zA5 ((wI .i64 v3.2)).toNat ((0 : Int))) 0 (p0.take (zE8 p0.length ((zA5 ((wI .i64 v3.2)).toNat ((0 : Int))).length))), (((zE8 p0.length ((zA5 ((wI .i64 v3.2)).toNat ((0 : Int))).length)) : Nat) : Int)))
  fun j4 =>
  Bb (fun (v5 : Bool) =>
   AP v5
    (none)
    (j4 ()))
  fun j5 =>
  AP ((decide (0 < v3.1)))
   (j5 true)
   (j5 (decide (9223372036854775807 < v3.2))))
 fun j1 =>
 AP ((decide (p1 < 0)))
  (none)
  (j1 ())
def FX (_ : Nat) (p0 : An) : Option Bool :=
 Bb (fun (v1 : Bool) =>
  some v1)
 fun j1 =>
 AP ((p0.ff == 3))
  (j1 true)
  (j1 (p0.ff == 4))
def Ew (N : Nat) (p0 : Aa) (j6 : ((List Int)) → Option (Ac × Int)) : Nat → ((List Int) × Int) → Option (Ac × Int)
 | 0, _ => none
 | n6 + 1, v6 =>
  AP ((decide (v6.2 < (p0.fc.length : Int))))
   (Bb (fun (v9 : (List Int)) =>
    Ew N p0 j6 n6 (v9, (wI .i64 (v6.2 + 1))))
   fun j9 =>
   (Bj p0.fc v6.2).bind fun v10 =>
   (FX N v10).bind fun v11 =>
   AP v11
    ((Bj p0.fi v10.fg).bind fun v13 =>
    (DF (0 ≤ v13)).bind fun _ =>
    (Bj v6.1 v6.2).bind fun _ =>
    j9 (v6.1.set ((v6.2).toNat) ((DX .u8 1 v13))))
    (j9 v6.1))
   (j6 v6.1)
def Iq (N : Nat) (p0 : Aa) : Option (Ac × Int) :=
 (Cb N p0).bind fun v1 =>
 AP ((v1 != 0))
  (some ((Ac.mk (([] : List Int)) (([] : List Int)) (([] : List Int))), v1))
  ((BU N p0.fi).bind fun v3 =>
  (ER N (([(-1)] : List Int)) ((p0.fi.length : Int))).bind fun v4 =>
  (DF ((0 : Int) ≤ (p0.fc.length : Int) ∧ (p0.fc.length : Int) ≤ (p0.fc.length : Int) ∧ (p0.fc.length : Int) ≤ (C5 : Int))).bind fun _ =>
  Ew N p0 (fun (v7 : (List Int)) =>
   some ((Ac.mk v3 v4 v7), 0)) N (zA5 ((p0.fc.length : Int)).toNat ((0 : Int)), 0))
def Fy (_ : Nat) (p0 : Ac) (p1 : Int) : Option Int :=
 (Bj p0.fd p1).bind fun v1 =>
 (DF (0 ≤ v1)).bind fun _ =>
 Bb (fun (v3 : Int) =>
  some v3)
 fun j3 =>
 (Bj p0.fb p1).bind fun v4 =>
 AP ((decide (0 ≤ v4)))
  ((Bj p0.fb p1).bind fun v6 =>
  (DF (0 ≤ v6)).bind fun _ =>
  j3 (P0 .u8 ((DX .u8 1 v1)) ((DX .u8 1 v6))))
  (j3 (DX .u8 1 v1))
def Ev (N : Nat) (p0 : Aa) (p1 : Ac) (j7 : Unit → Option Int) : Nat → Int → Option Int
 | 0, _ => none
 | n7 + 1, v7 =>
  AP ((decide (v7 < (p0.fa.length : Int))))
   ((Bj p0.fa v7).bind fun v10 =>
   Bb (fun (v11 : Bool) =>
    AP v11
     (some 7)
     ((Bj p1.fd v7).bind fun v20 =>
     (Bj p1.fb v7).bind fun v21 =>
     AP ((v20 == v21))
      (some 1)
      (Ev N p0 p1 j7 n7 (wI .i64 (v7 + 1)))))
   fun j11 =>
   (Bj p1.fd v7).bind fun v12 =>
   AP ((decide (v12 < 0)))
    (j11 true)
    ((Bj p1.fd v7).bind fun v14 =>
    AP ((decide (v10 ≤ v14)))
     (j11 true)
     ((Bj p1.fb v7).bind fun v16 =>
     AP ((decide (v16 < (-1))))
      (j11 true)
      ((Bj p1.fb v7).bind fun v18 =>
      j11 (decide (v10 ≤ v18))))))
   (j7 ())
def D7 (N : Nat) (p0 : Aa) (p1 : Ac) (j23 : Unit → Option Int) : Nat → Int → Option Int
 | 0, _ => none
 | n23 + 1, v23 =>
  AP ((decide (v23 < (p0.fc.length : Int))))
   ((Bj p0.fc v23).bind fun v26 =>
   Bb (fun (v27 : Int × Int) =>
    Bb (fun (v33 : Bool) =>
     AP v33
      (some 1)
      (D7 N p0 p1 j23 n23 (wI .i64 (v23 + 1))))
    fun j33 =>
    (Bj p1.fe v23).bind fun v34 =>
    AP (((Dc .u8 v27.1 v34) != 0))
     (j33 true)
     ((Bj p1.fe v23).bind fun v36 =>
     j33 ((Dc .u8 v36 v27.2) != 0)))
   fun j27 =>
   (FX N v26).bind fun v28 =>
   AP v28
    ((Fy N p1 v26.fg).bind fun v30 =>
    (Bj p0.fa v26.fg).bind fun v31 =>
    (DF (0 ≤ v31)).bind fun _ =>
    j27 (v30, (wI .u8 ((DX .u8 1 v31) - 1))))
    (j27 (0, 0)))
   (j23 ())
def FP (N : Nat) (p0 : Aa) (p1 : Ac) : Option Int :=
 (Cb N p0).bind fun v1 =>
 AP ((v1 != 0))
  (some v1)
  (Bb (fun (v3 : Bool) =>
   AP v3
    (some 6)
    (Ev N p0 p1 (fun (_ : Unit) =>
     D7 N p0 p1 (fun (_ : Unit) =>
      some 0) N 0) N 0))
  fun j3 =>
  AP (((p1.fd.length : Int) != (p0.fa.length : Int)))
   (j3 true)
   (AP (((p1.fb.length : Int) != (p0.fa.length : Int)))
    (j3 true)
    (j3 ((p1.fe.length : Int) != (p0.fc.length : Int)))))
def B0 (_ : Nat) (p0 : List Int) : Option ((List Int)) :=
 (DF ((([] : List Int)).length + p0.length ≤ C5)).bind fun _ =>
 some ((([] : List Int)) ++ p0)
def Ec (N : Nat) (p1 : Ac) (j3 : ((List Int)) → Option ((List Ac) × Int)) : Nat → ((List Int) × Int) → Option ((List Ac) × Int)
 | 0, _ => none
 | n3 + 1, v3 =>
  AP ((decide (v3.2 < (p1.fb.length : Int))))
   (Bb (fun (v6 : (List Int)) =>
    Ec N p1 j3 n3 (v6, (wI .i64 (v3.2 + 1))))
   fun j6 =>
   (Bj p1.fb v3.2).bind fun v7 =>
   AP ((decide (0 ≤ v7)))
    ((DF (v3.1.length + (([v3.2] : List Int)).length ≤ C5)).bind fun _ =>
    j6 (v3.1 ++ (([v3.2] : List Int))))
    (j6 v3.1))
   (j3 v3.1)
def Dh (N : Nat) (v4 : (List Int)) (v11 : (List Ac) × Int) (j17 : ((List Int)) → Option ((List Ac) × Int)) : Nat → ((List Int) × Int) → Option ((List Ac) × Int)
 | 0, _ => none
 | n17 + 1, v17 =>
  AP ((decide (v17.2 < (v4.length : Int))))
   (Bb (fun (v20 : (List Int)) =>
    Dh N v4 v11 j17 n17 (v20, (wI .i64 (v17.2 + 1))))
   fun j20 =>
   (Bj v4 v17.2).bind fun v21 =>
   (DF (0 ≤ v17.2)).bind fun _ =>
   AP (((AK .i64 ((AZ .i64 v11.2 v17.2)) 1) == 1))
    ((Bj v17.1 v21).bind fun _ =>
    j20 (v17.1.set ((v21).toNat) ((-1))))
    (j20 v17.1))
   (j17 v17.1)
def Dg (N : Nat) (p1 : Ac) (v4 : (List Int)) (j11 : ((List Ac)) → Option ((List Ac) × Int)) : Nat → ((List Ac) × Int) → Option ((List Ac) × Int)
 | 0, _ => none
 | n11 + 1, v11 =>
  AP ((decide (v11.2 < (DX .i64 1 ((v4.length : Int))))))
   ((BU N p1.fd).bind fun v14 =>
   (BU N p1.fb).bind fun v15 =>
   (B0 N p1.fe).bind fun v16 =>
   Dh N v4 v11 (fun (v18 : (List Int)) =>
    (DF (v11.1.length + (([(Ac.mk v14 v18 v16)] : List Ac)).length ≤ C5)).bind fun _ =>
    Dg N p1 v4 j11 n11 (v11.1 ++ (([(Ac.mk v14 v18 v16)] : List Ac)), (wI .i64 (v11.2 + 1)))) N (v15, 0))
   (j11 v11.1)
def Hw (N : Nat) (p0 : Aa) (p1 : Ac) : Option ((List Ac) × Int) :=
 (FP N p0 p1).bind fun v1 =>
 AP ((v1 != 0))
  (some (([] : List Ac), v1))
  (Ec N p1 (fun (v4 : (List Int)) =>
   (DF (0 ≤ (v4.length : Int))).bind fun _ =>
   Dg N p1 v4 (fun (v12 : (List Ac)) =>
    some (v12, 0)) N (([] : List Ac), 0)) N (([] : List Int), 0))
def B5 (N : Nat) (v1 : (List Ap) × Int) (v4 : An) (v6 : Int) (v11 : (List Ap) × Int) (v17 : List Bool) (j18 : ((List Ap) × Bool) → Option ((List Ap))) : Nat → ((List Ap) × Bool × Int) → Option ((List Ap))
 | 0, _ => none
 | n18 + 1, v18 =>
  AP ((decide (v18.2.2 < (v17.length : Int))))
   (Bb (fun (v21 : (List Ap) × Bool) =>
    B5 N v1 v4 v6 v11 v17 j18 n18 (v21.1, v21.2, (wI .i64 (v18.2.2 + 1))))
   fun j21 =>
   (Bj v17 v18.2.2).bind fun v22 =>
   (DF (0 ≤ v18.2.2)).bind fun _ =>
   AP (((AK .u8 ((AZ .u8 v6 v18.2.2)) 1) == 0))
    (j21 (v18.1, v18.2.1))
    (Bb (fun (v25 : Bool) =>
     Bb (fun (v27 : Bool) =>
      AP v27
       ((DF (v18.1.length + (([(Ap.mk v1.2 v11.2 v18.2.2)] : List Ap)).length ≤ C5)).bind fun _ =>
       j21 (v18.1 ++ (([(Ap.mk v1.2 v11.2 v18.2.2)] : List Ap)), v25))
       (j21 (v18.1, v25)))
     fun j27 =>
     AP ((!v22))
      (j27 (!v4.fr))
      (j27 false))
    fun j25 =>
    AP v18.2.1
     (j25 true)
     (j25 v22)))
   (j18 (v18.1, v18.2.1))
def Cw (N : Nat) (v1 : (List Ap) × Int) (v4 : An) (v6 : Int) (v7 : Int) (j11 : ((List Ap)) → Option ((List Ap))) : Nat → ((List Ap) × Int) → Option ((List Ap))
 | 0, _ => none
 | n11 + 1, v11 =>
  AP ((decide (v11.2 < (v4.fq.length : Int))))
   (Bb (fun (v14 : (List Ap)) =>
    Cw N v1 v4 v6 v7 j11 n11 (v14, (wI .i64 (v11.2 + 1))))
   fun j14 =>
   (DF (0 ≤ v11.2)).bind fun _ =>
   AP (((AK .u8 ((AZ .u8 v7 v11.2)) 1) == 0))
    (j14 v11.1)
    ((Bj v4.fq v11.2).bind fun v17 =>
    B5 N v1 v4 v6 v11 v17 (fun (v19 : (List Ap) × Bool) =>
     Bb (fun (v31 : Bool) =>
      AP v31
       ((DF (v19.1.length + (([(Ap.mk v1.2 v11.2 ((-1)))] : List Ap)).length ≤ C5)).bind fun _ =>
       j14 (v19.1 ++ (([(Ap.mk v1.2 v11.2 ((-1)))] : List Ap))))
       (j14 v19.1))
     fun j31 =>
     AP v4.fr
      (j31 (!v19.2))
      (j31 false)) N (v11.1, false, 0)))
   (j11 v11.1)
def DH (N : Nat) (p0 : Aa) (p1 : Ac) (j1 : ((List Ap)) → Option ((List Ap))) : Nat → ((List Ap) × Int) → Option ((List Ap))
 | 0, _ => none
 | n1 + 1, v1 =>
  AP ((decide (v1.2 < (p0.fc.length : Int))))
   ((Bj p0.fc v1.2).bind fun v4 =>
   (Fy N p1 v4.fg).bind fun v5 =>
   (Fy N p1 v4.fj).bind fun v6 =>
   Bb (fun (v7 : Int) =>
    Cw N v1 v4 v6 v7 (fun (v12 : (List Ap)) =>
     DH N p0 p1 j1 n1 (v12, (wI .i64 (v1.2 + 1)))) N (v1.1, 0))
   fun j7 =>
   (FX N v4).bind fun v8 =>
   AP v8
    ((Bj p1.fe v1.2).bind fun v10 =>
    j7 v10)
    (j7 v5))
   (j1 v1.1)
def Gb (N : Nat) (p0 : Aa) (p1 : Ac) : Option ((List Ap)) :=
 DH N p0 p1 (fun (v2 : (List Ap)) =>
  some v2) N (([] : List Ap), 0)
def Fg (N : Nat) (p0 : Aa) (v1 : (List Ac) × Int) (j3 : Unit → Option (Ac × Ap × Int)) : Nat → Int → Option (Ac × Ap × Int)
 | 0, _ => none
 | n3 + 1, v3 =>
  AP ((decide (v3 < (v1.1.length : Int))))
   ((Bj v1.1 v3).bind fun v6 =>
   (Gb N p0 v6).bind fun v7 =>
   AP ((decide (0 < (v7.length : Int))))
    ((Bj v7 0).bind fun v9 =>
    some (v6, v9, 0))
    (Fg N p0 v1 j3 n3 (wI .i64 (v3 + 1))))
   (j3 ())
def If (N : Nat) (p0 : Aa) (p1 : Ac) : Option (Ac × Ap × Int) :=
 (Hw N p0 p1).bind fun v1 =>
 AP ((v1.2 != 0))
  (some ((Ac.mk (([] : List Int)) (([] : List Int)) (([] : List Int))), (Ap.mk 0 0 0), v1.2))
  (Fg N p0 v1 (fun (_ : Unit) =>
   some ((Ac.mk (([] : List Int)) (([] : List Int)) (([] : List Int))), (Ap.mk 0 0 0), 15)) N 0)
def GO (N : Nat) (p0 : Aa) (p1 : Ac) : Option (Bool × Int) :=
 (If N p0 p1).bind fun v1 =>
 AP ((v1.2.2 == 0))
  (some (false, 0))
  (AP ((v1.2.2 == 15))
   (some (true, 0))
   (some (false, v1.2.2)))
def EY (N : Nat) (p0 : Ac) (j2 : ((List Int)) → Option ByteArray) : Nat → ((List Int) × Int) → Option ByteArray
 | 0, _ => none
 | n2 + 1, v2 =>
  AP ((decide (v2.2 < (p0.fd.length : Int))))
   ((Bj p0.fd v2.2).bind fun v5 =>
   (Bj p0.fb v2.2).bind fun v6 =>
   (DF (v2.1.length + (([(wI .u8 v5), (wI .u8 ((wI .i64 (v6 + 1))))] : List Int)).length ≤ C5)).bind fun _ =>
   EY N p0 j2 n2 (v2.1 ++ (([(wI .u8 v5), (wI .u8 ((wI .i64 (v6 + 1))))] : List Int)), (wI .i64 (v2.2 + 1))))
   (j2 v2.1)
def DY (N : Nat) (p0 : Ac) (j8 : ((List Int)) → Option ByteArray) : Nat → ((List Int) × Int) → Option ByteArray
 | 0, _ => none
 | n8 + 1, v8 =>
  AP ((decide (v8.2 < (p0.fe.length : Int))))
   ((Bj p0.fe v8.2).bind fun v11 =>
   (DF (v8.1.length + (([v11] : List Int)).length ≤ C5)).bind fun _ =>
   DY N p0 j8 n8 (v8.1 ++ (([v11] : List Int)), (wI .i64 (v8.2 + 1))))
   (j8 v8.1)
def H2 (N : Nat) (p0 : Ac) : Option ByteArray :=
 (DF ((0 : Int) ≤ 0 ∧ 0 ≤ (wI .i64 ((wI .i64 (2 * (p0.fd.length : Int))) + (p0.fe.length : Int))) ∧ (wI .i64 ((wI .i64 (2 * (p0.fd.length : Int))) + (p0.fe.length : Int))) ≤ (C5 : Int))).bind fun _ =>
 EY N p0 (fun (v3 : (List Int)) =>
  DY N p0 (fun (v9 : (List Int)) =>
   some ((CI v9))) N (v3, 0)) N (zA5 (0 : Int).toNat ((0 : Int)), 0)
def E4 (N : Nat) (v1 : (List Ad) × Int) (v4 : Int) (j5 : ((List Ad)) → Option ((List Ad))) : Nat → ((List Ad) × Int) → Option ((List Ad))
 | 0, _ => none
 | n5 + 1, v5 =>
  AP ((decide (v5.2 < v4)))
   ((DF (v5.1.length + (([(Ad.mk 1 v1.2 v5.2)] : List Ad)).length ≤ C5)).bind fun _ =>
   E4 N v1 v4 j5 n5 (v5.1 ++ (([(Ad.mk 1 v1.2 v5.2)] : List Ad)), (wI .i64 (v5.2 + 1))))
   (j5 v5.1)
def Dx (N : Nat) (p0 : Aa) (j1 : ((List Ad)) → Option ((List Ad))) : Nat → ((List Ad) × Int) → Option ((List Ad))
 | 0, _ => none
 | n1 + 1, v1 =>
  AP ((decide (v1.2 < (p0.fa.length : Int))))
   ((Bj p0.fa v1.2).bind fun v4 =>
   E4 N v1 v4 (fun (v6 : (List Ad)) =>
    Dx N p0 j1 n1 (v6, (wI .i64 (v1.2 + 1)))) N (v1.1, 0))
   (j1 v1.1)
def Ct (N : Nat) (p0 : Aa) (j9 : ((List Ad)) → Option ((List Ad))) : Nat → ((List Ad) × Int) → Option ((List Ad))
 | 0, _ => none
 | n9 + 1, v9 =>
  AP ((decide (v9.2 < (p0.fa.length : Int))))
   ((DF (v9.1.length + (([(Ad.mk 2 v9.2 0)] : List Ad)).length ≤ C5)).bind fun _ =>
   Ct N p0 j9 n9 (v9.1 ++ (([(Ad.mk 2 v9.2 0)] : List Ad)), (wI .i64 (v9.2 + 1))))
   (j9 v9.1)
def Bw (N : Nat) (p0 : Aa) (j13 : ((List Ad)) → Option ((List Ad))) : Nat → ((List Ad) × Int) → Option ((List Ad))
 | 0, _ => none
 | n13 + 1, v13 =>
  AP ((decide (v13.2 < (p0.fc.length : Int))))
   ((DF (v13.1.length + (([(Ad.mk 3 v13.2 0)] : List Ad)).length ≤ C5)).bind fun _ =>
   Bw N p0 j13 n13 (v13.1 ++ (([(Ad.mk 3 v13.2 0)] : List Ad)), (wI .i64 (v13.2 + 1))))
   (j13 v13.1)
def IQ (N : Nat) (p0 : Aa) : Option ((List Ad)) :=
 Dx N p0 (fun (v2 : (List Ad)) =>
  Ct N p0 (fun (v10 : (List Ad)) =>
   Bw N p0 (fun (v14 : (List Ad)) =>
    some v14) N (v10, 0)) N (v2, 0)) N (([] : List Ad), 0)
def G8 (N : Nat) (p0 : Ac) : Option Ac :=
 (BU N p0.fd).bind fun v1 =>
 (BU N p0.fb).bind fun v2 =>
 (B0 N p0.fe).bind fun v3 =>
 some ((Ac.mk v1 v2 v3))
def Gf (_ : Nat) (p0 : An) : Option Bool :=
 Bb (fun (v1 : Bool) =>
  some v1)
 fun j1 =>
 AP ((p0.ff == 3))
  (j1 true)
  (j1 (p0.ff == 4))
def Ea (N : Nat) (p0 : Aa) (p2 : Ad) (j7 : ((List Int)) → Option (Bool × (List Int) × (List Int))) : Nat → ((List Int) × Int) → Option (Bool × (List Int) × (List Int))
 | 0, _ => none
 | n7 + 1, v7 =>
  AP ((decide (v7.2 < (p0.fc.length : Int))))
   (Bb (fun (v10 : (List Int)) =>
    Ea N p0 p2 j7 n7 (v10, (wI .i64 (v7.2 + 1))))
   fun j10 =>
   (Bj p0.fc v7.2).bind fun v11 =>
   Bb (fun (v12 : Bool) =>
    AP v12
     ((Bj v7.1 v7.2).bind fun v16 =>
     (DF (0 ≤ p2.fo)).bind fun _ =>
     (Bj v7.1 v7.2).bind fun _ =>
     j10 (v7.1.set ((v7.2).toNat) ((P0 .u8 v16 ((DX .u8 1 p2.fo))))))
     (j10 v7.1))
   fun j12 =>
   AP ((v11.fg == p2.fh))
    ((Gf N v11).bind fun v14 =>
    j12 v14)
    (j12 false))
   (j7 v7.1)
def II (N : Nat) (p0 : Aa) (p1 : Ac) (p2 : Ad) : Option (Bool × (List Int) × (List Int)) :=
 Bb (fun (v1 : Bool) =>
  AP v1
   (some (false, p1.fb, p1.fe))
   ((Bj p1.fb p2.fh).bind fun _ =>
   Ea N p0 p2 (fun (v8 : (List Int)) =>
    some (true, p1.fb.set ((p2.fh).toNat) p2.fo, v8)) N (p1.fe, 0)))
 fun j1 =>
 (Bj p1.fb p2.fh).bind fun v2 =>
 AP ((decide (0 ≤ v2)))
  (j1 true)
  ((Bj p1.fd p2.fh).bind fun v4 =>
  j1 (v4 == p2.fo))
def GG (_ : Nat) (p0 : Ac) (p1 : Int) : Option Int :=
 (Bj p0.fd p1).bind fun v1 =>
 (DF (0 ≤ v1)).bind fun _ =>
 Bb (fun (v3 : Int) =>
  some v3)
 fun j3 =>
 (Bj p0.fb p1).bind fun v4 =>
 AP ((decide (0 ≤ v4)))
  ((Bj p0.fb p1).bind fun v6 =>
  (DF (0 ≤ v6)).bind fun _ =>
  j3 (P0 .u8 ((DX .u8 1 v1)) ((DX .u8 1 v6))))
  (j3 (DX .u8 1 v1))
def Dj (_ : Nat) (p0 : Int) : Option Int :=
 (Si ((⟨⟨(zE3 (zE3 [8, 0, 1, 0, 2, 0, 1, 0, 3, 0, 1, 0, 2, 0, 1, 0, 4, 0, 1, 0, 2, 0, 1, 0, 3, 0, 1, 0, 2, 0, 1, 0, 5, 0, 1, 0, 2, 0, 1, 0, 3, 0, 1, 0, 2, 0, 1, 0, 4, 0, 1, 0, 2, 0, 1, 0, 3, 0, 1, 0, 2, 0, 1, 0] [6, 0, 1, 0, 2, 0, 1, 0, 3, 0, 1, 0, 2, 0, 1, 0, 4, 0, 1, 0, 2, 0, 1, 0, 3, 0, 1, 0, 2, 0, 1, 0, 5, 0, 1, 0, 2, 0, 1, 0, 3, 0, 1, 0, 2, 0, 1, 0, 4, 0, 1, 0, 2, 0, 1, 0, 3, 0, 1, 0, 2, 0, 1, 0]) (zE3 [7, 0, 1, 0, 2, 0, 1, 0, 3, 0, 1, 0, 2, 0, 1, 0, 4, 0, 1, 0, 2, 0, 1, 0, 3, 0, 1, 0, 2, 0, 1, 0, 5, 0, 1, 0, 2, 0, 1, 0, 3, 0, 1, 0, 2, 0, 1, 0, 4, 0, 1, 0, 2, 0, 1, 0, 3, 0, 1, 0, 2, 0, 1, 0] [6, 0, 1, 0, 2, 0, 1, 0, 3, 0, 1, 0, 2, 0, 1, 0, 4, 0, 1, 0, 2, 0, 1, 0, 3, 0, 1, 0, 2, 0, 1, 0, 5, 0, 1, 0, 2, 0, 1, 0, 3, 0, 1, 0, 2, 0, 1, 0, 4, 0, 1, 0, 2, 0, 1, 0, 3, 0, 1, 0, 2, 0, 1, 0]))⟩⟩ : ByteArray)) p0).bind fun v1 =>
 some ((wI .i64 v1))
def DS (N : Nat) (p0 : An) (p2 : Int) (j1 : Unit → Option Bool) : Nat → Int → Option Bool
 | 0, _ => none
 | n1 + 1, v1 =>
  AP ((v1 != 0))
   ((Dj N v1).bind fun v4 =>
   (Bj p0.fk v4).bind fun v5 =>
   (Bj v5 p2).bind fun v6 =>
   AP ((!v6))
    (some false)
    (DS N p0 p2 j1 n1 (AK .u8 v1 ((wI .u8 (v1 - 1))))))
   (j1 ())
def Gq (N : Nat) (p0 : An) (p1 : Int) (p2 : Int) : Option Bool :=
 DS N p0 p2 (fun (_ : Unit) =>
  some true) N p1
def HH (N : Nat) (p0 : Aa) (p1 : Ac) (p2 : Int) : Option (Bool × (List Int)) :=
 (Bj p0.fc p2).bind fun v1 =>
 (Gf N v1).bind fun v2 =>
 AP ((!v2))
  (some (false, p1.fe))
  ((GG N p1 v1.fg).bind fun v4 =>
  (Bj p1.fe p2).bind fun v5 =>
  Bb (fun (v6 : Bool) =>
   AP v6
    (some (false, p1.fe))
    ((Bj p1.fe p2).bind fun _ =>
    some (true, p1.fe.set ((p2).toNat) v4)))
  fun j6 =>
  (Bj p1.fe p2).bind fun v7 =>
  AP ((v7 == v4))
   (j6 true)
   (AP ((v1.ff == 4))
    ((Bj p1.fd v1.fg).bind fun v10 =>
    (Gq N v1 ((Dc .u8 v5 v4)) v10).bind fun v11 =>
    j6 (!v11))
    (j6 false)))
def F0 (N : Nat) (p0 : Aa) (p1 : Ac) (p2 : Ad) : Option (Ac × Bool) :=
 (G8 N p1).bind fun v1 =>
 AP ((p2.ff == 1))
  ((II N p0 v1 p2).bind fun v3 =>
  some ((Ac.mk v1.fd v3.2.1 v3.2.2), v3.1))
  (AP ((p2.ff == 3))
   ((HH N p0 v1 p2.fh).bind fun v5 =>
   some ((Ac.mk v1.fd v1.fb v5.2), v5.1))
   ((Bj v1.fb p2.fh).bind fun v6 =>
   AP ((decide (v6 < 0)))
    (some (v1, false))
    ((Bj v1.fb p2.fh).bind fun _ =>
    Bb (fun (v9 : (List Int)) =>
     some ((Ac.mk v9 (v1.fb.set ((p2.fh).toNat) ((-1))) v1.fe), true))
    fun j9 =>
    AP ((p2.ff == 2))
     ((Bj v1.fd p2.fh).bind fun _ =>
     j9 (v1.fd.set ((p2.fh).toNat) v6))
     (j9 v1.fd))))
def DK (N : Nat) (p0 : Ad) (p1 : List Int) (p2 : List Int) (p3 : List Int) (p4 : List An) (p5 : List Int) (p6 : List Int) (p7 : List Int) : Option Bool :=
 (F0 N ((Aa.mk p1 p2 p3 p4)) ((Ac.mk p5 p6 p7)) p0).bind fun v1 =>
 some ((!v1.2))
def A4 (N : Nat) (p0 : List Ad) (p1 : Ad → Option Bool) (j1 : Unit → Option Int) : Nat → Int → Option Int
 | 0, _ => none
 | n1 + 1, v1 =>
  AP ((decide (v1 < (p0.length : Int))))
   ((Bj p0 v1).bind fun v4 =>
   (p1 v4).bind fun v5 =>
   AP v5
    (some v1)
    (A4 N p0 p1 j1 n1 (wI .i64 (v1 + 1))))
   (j1 ())
def BT (N : Nat) (p0 : List Ad) (p1 : Ad → Option Bool) : Option Int :=
 A4 N p0 p1 (fun (_ : Unit) =>
  some ((-1))) N 0
def AY (N : Nat) (p1 : Ad → Option Bool) (j3 : ((List Ad) × Int) → Option (Nat × (List Ad))) : Nat → ((List Ad) × Int × Int) → Option (Nat × (List Ad))
 | 0, _ => none
 | n3 + 1, v3 =>
  AP ((decide (v3.2.2 < (v3.1.length : Int))))
   (Bb (fun (v6 : (List Ad) × Int) =>
    AY N p1 j3 n3 (v6.1, v6.2, (wI .i64 (v3.2.2 + 1))))
   fun j6 =>
   (Bj v3.1 v3.2.2).bind fun v7 =>
   (p1 v7).bind fun v8 =>
   AP ((!v8))
    ((Bj v3.1 v3.2.1).bind fun _ =>
    j6 (v3.1.set ((v3.2.1).toNat) v7, (wI .i64 (v3.2.1 + 1))))
    (j6 (v3.1, v3.2.1)))
   (j3 (v3.1, v3.2.1))
def BN (N : Nat) (p0 : List Ad) (p1 : Ad → Option Bool) : Option (Nat × (List Ad)) :=
 (BT N p0 p1).bind fun v1 =>
 AP ((v1 == (-1)))
  (some (p0.length, p0))
  (AY N p1 (fun (v4 : (List Ad) × Int) =>
   (DF ((0 : Int) ≤ v4.2 ∧ (v4.2).toNat ≤ v4.1.length ∧ v4.1.length ≤ v4.1.length)).bind fun _ =>
   (DF ((0 : Int) ≤ v4.2 ∧ 0 ≤ (v4.2).toNat ∧ (v4.2).toNat ≤ (Jl v4.1 ((v4.2).toNat) (zA5 ((v4.1.length - (v4.2).toNat)) ((Ad.mk 0 0 0)))).length)).bind fun _ =>
   some ((v4.2).toNat, Jl v4.1 ((v4.2).toNat) (zA5 ((v4.1.length - (v4.2).toNat)) ((Ad.mk 0 0 0))))) N (p0, v1, (wI .i64 (v1 + 1))))
def GI (N : Nat) (p0 : Aa) (p1 : Ac) : Option ((List Ad) × Int) :=
 (FP N p0 p1).bind fun v1 =>
 AP ((v1 != 0))
  (some (([] : List Ad), v1))
  ((IQ N p0).bind fun v3 =>
  (BN N v3 ((fun (x : Ad) => DK N x p0.fa p0.fi p0.fm p0.fc p1.fd p1.fb p1.fe))).bind fun v4 =>
  (DF (v4.1 ≤ v4.2.length)).bind fun _ =>
  some (v4.2.take v4.1, 0))
def HF (_ : Nat) (p0 : Ad) : Option Bool :=
 Bb (fun (v1 : Bool) =>
  AP v1
   (some false)
   (Bb (fun (v5 : Bool) =>
    some v5)
   fun j5 =>
   AP ((p0.ff == 1))
    (j5 true)
    (j5 (p0.fo == 0))))
 fun j1 =>
 AP ((decide ((Xv p0.fh p0.fo) < 0)))
  (j1 true)
  (AP ((decide (p0.ff < 1)))
   (j1 true)
   (j1 (decide (4 < p0.ff))))
def Hb (_ : Nat) (p0 : Aa) (p1 : Ad) : Option Bool :=
 AP ((p1.ff == 3))
  (some ((decide (p1.fh < (p0.fc.length : Int)))))
  (Bb (fun (v2 : Bool) =>
   some v2)
  fun j2 =>
  AP ((decide (p1.fh < (p0.fa.length : Int))))
   (AP ((p1.ff != 1))
    (j2 true)
    ((Bj p0.fa p1.fh).bind fun v5 =>
    j2 (decide (p1.fo < v5))))
   (j2 false))
def Hy (N : Nat) (p0 : Aa) (p1 : Ac) (p2 : Ad) : Option (Ac × Int) :=
 (HF N p2).bind fun v1 =>
 AP ((!v1))
  (some ((Ac.mk (([] : List Int)) (([] : List Int)) (([] : List Int))), 1))
  ((Hb N p0 p2).bind fun v3 =>
  AP ((!v3))
   (some ((Ac.mk (([] : List Int)) (([] : List Int)) (([] : List Int))), 4))
   ((F0 N p0 p1 p2).bind fun v5 =>
   AP ((!v5.2))
    (some ((Ac.mk (([] : List Int)) (([] : List Int)) (([] : List Int))), 11))
    (some (v5.1, 0))))
def HB (N : Nat) (p0 : Aa) (p1 : Ac) (p2 : Ad) : Option (Ac × Int) :=
 (FP N p0 p1).bind fun v1 =>
 AP ((v1 != 0))
  (some ((Ac.mk (([] : List Int)) (([] : List Int)) (([] : List Int))), v1))
  ((Hy N p0 p1 p2).bind fun v3 =>
  some (v3.1, v3.2))
def Cu (N : Nat) (p0 : Aa) (v2 : (List AD) × (List (ByteArray × Int)) × Int) (v6 : (List Ad) × Int) (j8 : ((List AD) × (List (ByteArray × Int))) → Option ((List AD) × Int)) : Nat → ((List AD) × (List (ByteArray × Int)) × Int) → Option ((List AD) × Int)
 | 0, _ => none
 | n8 + 1, v8 =>
  AP ((decide (v8.2.2 < (v6.1.length : Int))))
   ((Bj v6.1 v8.2.2).bind fun v11 =>
   (Bj v8.1 v2.2.2).bind fun v12 =>
   (HB N p0 ((Ac.mk v12.fp.fd v12.fp.fb v12.fp.fe)) v11).bind fun v13 =>
   AP ((v13.2 != 0))
    (some (([] : List AD), v13.2))
    ((H2 N v13.1).bind fun v15 =>
    Bb (fun (v16 : (List AD) × (List (ByteArray × Int)) × Int) =>
     Bb (fun (v24 : (List AD)) =>
      AP ((decide (20000 < (v24.length : Int))))
       (some (([] : List AD), 3))
       (Cu N p0 v2 v6 j8 n8 (v24, v16.2.1, (wI .i64 (v8.2.2 + 1)))))
     fun j24 =>
     AP ((decide (0 ≤ v16.2.2)))
      ((Bj v16.1 v2.2.2).bind fun v26 =>
      (DF (v26.fb.length + (([v16.2.2] : List Int)).length ≤ C5)).bind fun _ =>
      (Bj v16.1 v2.2.2).bind fun v28 =>
      j24 (v16.1.set ((v2.2.2).toNat) ((AD.mk ((Ac.mk v28.fp.fd v28.fp.fb v28.fp.fe)) v28.fg ((Ad.mk v28.ft.ff v28.ft.fh v28.ft.fo)) (v26.fb ++ (([v16.2.2] : List Int)))))))
      (j24 v16.1))
    fun j16 =>
    AP ((!((ID v15 v8.2.1).isSome)))
     (Bb (fun (v18 : (List AD) × Int) =>
      j16 (v18.1, LT v15 v18.2 v8.2.1, v18.2))
     fun j18 =>
     (GO N p0 v13.1).bind fun v19 =>
     Bb (fun (v20 : Bool) =>
      AP v20
       (j18 (v8.1, (-1)))
       ((DF (v8.1.length + (([(AD.mk v13.1 v2.2.2 v11 (([] : List Int)))] : List AD)).length ≤ C5)).bind fun _ =>
       j18 (v8.1 ++ (([(AD.mk v13.1 v2.2.2 v11 (([] : List Int)))] : List AD)), (v8.1.length : Int))))
     fun j20 =>
     AP ((v19.2 != 0))
      (j20 true)
      (j20 (!v19.1)))
     (j16 (v8.1, v8.2.1, ((ID v15 v8.2.1).getD 0)))))
   (j8 (v8.1, v8.2.1))
def DN (N : Nat) (p0 : Aa) (j2 : ((List AD)) → Option ((List AD) × Int)) : Nat → ((List AD) × (List (ByteArray × Int)) × Int) → Option ((List AD) × Int)
 | 0, _ => none
 | n2 + 1, v2 =>
  AP ((decide (v2.2.2 < (v2.1.length : Int))))
   ((Bj v2.1 v2.2.2).bind fun v5 =>
   (GI N p0 ((Ac.mk v5.fp.fd v5.fp.fb v5.fp.fe))).bind fun v6 =>
   AP ((v6.2 != 0))
    (some (([] : List AD), v6.2))
    (Cu N p0 v2 v6 (fun (v9 : (List AD) × (List (ByteArray × Int))) =>
     DN N p0 j2 n2 (v9.1, v9.2, (wI .i64 (v2.2.2 + 1)))) N (v2.1, v2.2.1, 0)))
   (j2 v2.1)
def G9 (N : Nat) (p0 : Aa) (p1 : Ac) : Option ((List AD) × Int) :=
 (H2 N p1).bind fun v1 =>
 DN N p0 (fun (v3 : (List AD)) =>
  some (v3, 0)) N (([(AD.mk p1 ((-1)) ((Ad.mk 0 0 0)) (([] : List Int)))] : List AD), LT v1 0 (([] : List (ByteArray × Int))), 0)
def Ca (N : Nat) (p0 : List Int) (p1 : List Int) (j2 : Unit → Option Bool) : Nat → Int → Option Bool
 | 0, _ => none
 | n2 + 1, v2 =>
  AP ((decide (v2 < (p0.length : Int))))
   ((Bj p0 v2).bind fun v5 =>
   (Bj p1 v2).bind fun v6 =>
   AP ((v5 != v6))
    (some false)
    (Ca N p0 p1 j2 n2 (wI .i64 (v2 + 1))))
   (j2 ())
def Ed (N : Nat) (p0 : List Int) (p1 : List Int) : Option Bool :=
 AP (((p0.length : Int) != (p1.length : Int)))
  (some false)
  (Ca N p0 p1 (fun (_ : Unit) =>
   some true) N 0)
def Bi (N : Nat) (p0 : List Int) (p1 : Int → Option Bool) (j1 : Unit → Option Int) : Nat → Int → Option Int
 | 0, _ => none
 | n1 + 1, v1 =>
  AP ((decide (v1 < (p0.length : Int))))
   ((Bj p0 v1).bind fun v4 =>
   (p1 v4).bind fun v5 =>
   AP v5
    (some v1)
    (Bi N p0 p1 j1 n1 (wI .i64 (v1 + 1))))
   (j1 ())
def Eg (N : Nat) (p0 : List Int) (p1 : Int → Option Bool) : Option Int :=
 Bi N p0 p1 (fun (_ : Unit) =>
  some ((-1))) N 0
def CT (N : Nat) (p0 : List Int) (p1 : Int → Option Bool) : Option Bool :=
 (Eg N p0 p1).bind fun v1 =>
 some ((decide (0 ≤ v1)))
def HD (_ : Nat) (p0 : Int) : Option Bool :=
 some ((decide (0 ≤ p0)))
def IN (N : Nat) (p0 : Aa) (p1 : Ac) : Option Bool :=
 Bb (fun (v1 : Bool) =>
  some v1)
 fun j1 =>
 (FP N p0 p1).bind fun v2 =>
 AP ((v2 == 0))
  ((Ed N p1.fd p0.fm).bind fun v4 =>
  AP v4
   ((CT N p1.fb ((fun (x : Int) => HD N x))).bind fun v6 =>
   j1 (!v6))
   (j1 false))
  (j1 false)
def E6 (N : Nat) (p0 : AD) (p1 : List Int) (p2 : List Int) (p3 : List Int) (p4 : List An) : Option Bool :=
 (IN N ((Aa.mk p1 p2 p3 p4)) ((Ac.mk p0.fp.fd p0.fp.fb p0.fp.fe))).bind fun v1 =>
 some v1
def AW (N : Nat) (p0 : List AD) (p1 : AD → Option Bool) (j1 : Unit → Option Int) : Nat → Int → Option Int
 | 0, _ => none
 | n1 + 1, v1 =>
  AP ((decide (v1 < (p0.length : Int))))
   ((Bj p0 v1).bind fun v4 =>
   (p1 ((AD.mk ((Ac.mk v4.fp.fd v4.fp.fb v4.fp.fe)) v4.fg ((Ad.mk v4.ft.ff v4.ft.fh v4.ft.fo)) v4.fb))).bind fun v5 =>
   AP v5
    (some v1)
    (AW N p0 p1 j1 n1 (wI .i64 (v1 + 1))))
   (j1 ())
def Cl (N : Nat) (p0 : List AD) (p1 : AD → Option Bool) : Option Int :=
 AW N p0 p1 (fun (_ : Unit) =>
  some ((-1))) N 0
def Bl (N : Nat) (j1 : ((List Ad)) → Option ((List Ad))) : Nat → ((List Ad) × Int × Int) → Option ((List Ad))
 | 0, _ => none
 | n1 + 1, v1 =>
  AP ((decide (v1.2.1 < v1.2.2)))
   ((Bj v1.1 v1.2.2).bind fun v4 =>
   (Bj v1.1 v1.2.1).bind fun v5 =>
   (Bj v1.1 v1.2.1).bind fun _ =>
   (Bj (v1.1.set ((v1.2.1).toNat) v4) v1.2.2).bind fun _ =>
   Bl N j1 n1 ((v1.1.set ((v1.2.1).toNat) v4).set ((v1.2.2).toNat) v5, (wI .i64 (v1.2.1 + 1)), (wI .i64 (v1.2.2 - 1))))
   (j1 v1.1)
def Bz (N : Nat) (p0 : List Ad) : Option ((List Ad)) :=
 Bl N (fun (v2 : (List Ad)) =>
  some v2) N (p0, 0, (wI .i64 ((p0.length : Int) - 1)))
def Gg (N : Nat) (p0 : List AD) (j1 : ((List Ad)) → Option ((List Ad))) : Nat → (Int × (List Ad)) → Option ((List Ad))
 | 0, _ => none
 | n1 + 1, v1 =>
  (Bj p0 v1.1).bind fun v3 =>
  AP ((decide (0 ≤ v3.fg)))
   ((Bj p0 v1.1).bind fun v5 =>
   (DF (v1.2.length + (([(Ad.mk v5.ft.ff v5.ft.fh v5.ft.fo)] : List Ad)).length ≤ C5)).bind fun _ =>
   (Bj p0 v1.1).bind fun v7 =>
   Gg N p0 j1 n1 (v7.fg, v1.2 ++ (([(Ad.mk v5.ft.ff v5.ft.fh v5.ft.fo)] : List Ad))))
   (j1 v1.2)
def Kl (N : Nat) (p0 : List AD) (p1 : Int) : Option ((List Ad)) :=
 Gg N p0 (fun (v2 : (List Ad)) =>
  (Bz N v2).bind fun v8 =>
  some v8) N (p1, ([] : List Ad))
def FU (N : Nat) (p0 : Aa) (p1 : Ac) : Option ((List Ad) × Int) :=
 (GO N p0 p1).bind fun v1 =>
 AP ((v1.2 != 0))
  (some (([] : List Ad), v1.2))
  (AP ((!v1.1))
   (some (([] : List Ad), 13))
   ((G9 N p0 p1).bind fun v4 =>
   AP ((v4.2 != 0))
    (some (([] : List Ad), v4.2))
    ((Cl N v4.1 ((fun (x : AD) => E6 N x p0.fa p0.fi p0.fm p0.fc))).bind fun v6 =>
    AP ((decide (v6 < 0)))
     (some (([] : List Ad), 14))
     ((Kl N v4.1 v6).bind fun v8 =>
     some (v8, 0)))))
def Gr (N : Nat) (p0 : Aa) : Option ((List Ad) × Int) :=
 (Iq N p0).bind fun v1 =>
 AP ((v1.2 != 0))
  (some (([] : List Ad), v1.2))
  ((FU N p0 v1.1).bind fun v3 =>
  some (v3.1, v3.2))
def Fu (N : Nat) (p0 : Aa) (p1 : List Int) : Option (Bool × Int) :=
 (Cb N p0).bind fun v1 =>
 AP ((v1 != 0))
  (some (false, v1))
  ((FT N p0 p1).bind fun v3 =>
  AP ((v3.2 != 0))
   (some (false, v3.2))
   ((Gr N v3.1).bind fun v5 =>
   AP ((v5.2 == 0))
    (some (false, 0))
    (AP ((v5.2 == 3))
     (some (false, v5.2))
     (some (true, 0)))))
def In (N : Nat) (p0 : Aa) (p1 : Int) : Option (Bool × Int) :=
 (Bo N p1).bind fun v1 =>
 (Fu N p0 v1).bind fun v2 =>
 some (v2.1, v2.2)
def Fr (N : Nat) (p0 : Aa) (j4 : ((List Int)) → Option ((List Int) × (List (Int × Bool)) × Int)) : Nat → ((List Int) × Int) → Option ((List Int) × (List (Int × Bool)) × Int)
 | 0, _ => none
 | n4 + 1, v4 =>
  AP ((decide (v4.2 < (DX .u64 1 ((p0.fa.length : Int))))))
   ((DF (v4.1.length + (([v4.2] : List Int)).length ≤ C5)).bind fun _ =>
   Fr N p0 j4 n4 (v4.1 ++ (([v4.2] : List Int)), (wI .u64 (v4.2 + 1))))
   (j4 v4.1)
def EI (N : Nat) (p0 : Aa) (v8 : (List Int)) (j9 : ((List (Int × Bool))) → Option ((List Int) × (List (Int × Bool)) × Int)) : Nat → ((List (Int × Bool)) × Int) → Option ((List Int) × (List (Int × Bool)) × Int)
 | 0, _ => none
 | n9 + 1, v9 =>
  AP ((decide (v9.2 < (v8.length : Int))))
   ((Bj v8 v9.2).bind fun v12 =>
   (In N p0 v12).bind fun v13 =>
   AP ((v13.2 != 0))
    (some (([] : List Int), ([] : List (Int × Bool)), v13.2))
    (EI N p0 v8 j9 n9 (LT v12 v13.1 v9.1, (wI .i64 (v9.2 + 1)))))
   (j9 v9.1)
def FZ (N : Nat) (p0 : Aa) : Option ((List Int) × (List (Int × Bool)) × Int) :=
 (Cb N p0).bind fun v1 =>
 AP ((v1 != 0))
  (some (([] : List Int), ([] : List (Int × Bool)), v1))
  ((DF (0 ≤ (p0.fa.length : Int))).bind fun _ =>
  Fr N p0 (fun (v5 : (List Int)) =>
   (Bv N v5 ((fun (x : Int × Int) => DA N x.1 x.2))).bind fun v8 =>
   EI N p0 v8 (fun (v10 : (List (Int × Bool))) =>
    some (v8, v10, 0)) N (([] : List (Int × Bool)), 0)) N (([] : List Int), 0))
def zFS (_ : Nat) (p0 : Int) (p1 : Int) : Option Bool :=
 some (((Dc .u64 p0 p1) == 0))
def Df (N : Nat) (p0 : List Int) (p1 : Int → Option Bool) (j1 : Unit → Option Int) : Nat → Int → Option Int
 | 0, _ => none
 | n1 + 1, v1 =>
  AP ((decide (v1 < (p0.length : Int))))
   ((Bj p0 v1).bind fun v4 =>
   (p1 v4).bind fun v5 =>
   AP v5
    (some v1)
    (Df N p0 p1 j1 n1 (wI .i64 (v1 + 1))))
   (j1 ())
def DL (N : Nat) (p0 : List Int) (p1 : Int → Option Bool) : Option Int :=
 Df N p0 p1 (fun (_ : Unit) =>
  some ((-1))) N 0
def Dk (N : Nat) (p0 : List Int) (p1 : Int → Option Bool) : Option Bool :=
 (DL N p0 p1).bind fun v1 =>
 some ((decide (0 ≤ v1)))
def GA (N : Nat) (p0 : List Int) (p1 : List (Int × Bool)) (j1 : ((List Int)) → Option ((List Int))) : Nat → ((List Int) × Int) → Option ((List Int))
 | 0, _ => none
 | n1 + 1, v1 =>
  AP ((decide (v1.2 < (p0.length : Int))))
   (Bb (fun (v4 : (List Int)) =>
    GA N p0 p1 j1 n1 (v4, (wI .i64 (v1.2 + 1))))
   fun j4 =>
   (Bj p0 v1.2).bind fun v5 =>
   Bb (fun (v6 : Bool) =>
    AP v6
     ((DF (v1.1.length + (([v5] : List Int)).length ≤ C5)).bind fun _ =>
     j4 (v1.1 ++ (([v5] : List Int))))
     (j4 v1.1))
   fun j6 =>
   AP (((ID v5 p1).getD false))
    ((Dk N v1.1 ((fun (x : Int) => zFS N x v5))).bind fun v8 =>
    j6 (!v8))
    (j6 false))
   (j1 v1.1)
def Fe (N : Nat) (p0 : List Int) (p1 : List (Int × Bool)) : Option ((List Int)) :=
 GA N p0 p1 (fun (v2 : (List Int)) =>
  some v2) N (([] : List Int), 0)
def Hm (N : Nat) (p0 : List Int) (j1 : ((List (List Int))) → Option ((List (List Int)))) : Nat → ((List (List Int)) × Int) → Option ((List (List Int)))
 | 0, _ => none
 | n1 + 1, v1 =>
  AP ((decide (v1.2 < (p0.length : Int))))
   ((Bj p0 v1.2).bind fun v4 =>
   (Bo N v4).bind fun v5 =>
   (DF (v1.1.length + (([v5] : List (List Int))).length ≤ C5)).bind fun _ =>
   Hm N p0 j1 n1 (v1.1 ++ (([v5] : List (List Int))), (wI .i64 (v1.2 + 1))))
   (j1 v1.1)
def GN (N : Nat) (p0 : List Int) : Option ((List (List Int))) :=
 Hm N p0 (fun (v2 : (List (List Int))) =>
  some v2) N (([] : List (List Int)), 0)
def IT (N : Nat) (p0 : Aa) : Option ((List (List Int)) × Int) :=
 (FZ N p0).bind fun v1 =>
 AP ((v1.2.2 != 0))
  (some (([] : List (List Int)), v1.2.2))
  ((Fe N v1.1 v1.2.1).bind fun v3 =>
  (GN N v3).bind fun v4 =>
  some (v4, 0))
def DE (_ : Nat) (p0 : List Int) : Option ((List Int)) :=
 (DF ((([] : List Int)).length + p0.length ≤ C5)).bind fun _ =>
 some ((([] : List Int)) ++ p0)
def Gi (_ : Nat) (p0 : Int) (p1 : List (Int × Bool)) (p2 : Int) : Option Bool :=
 Bb (fun (v1 : Bool) =>
  some v1)
 fun j1 =>
 AP ((!(((ID p0 p1).getD false))))
  (AP ((p0 != p2))
   (j1 ((Dc .u64 p2 p0) == 0))
   (j1 false))
  (j1 false)
def Fs (N : Nat) (p0 : Int) (p1 : List (Int × Bool)) (p2 : List Int) : Option Bool :=
 Bb (fun (v1 : Bool) =>
  some v1)
 fun j1 =>
 AP (((ID p0 p1).getD false))
  (j1 true)
  ((Dk N p2 ((fun (x : Int) => Gi N x p1 p0))).bind fun v3 =>
  j1 v3)
def Db (N : Nat) (p1 : Int → Option Bool) (j3 : ((List Int) × Int) → Option (Nat × (List Int))) : Nat → ((List Int) × Int × Int) → Option (Nat × (List Int))
 | 0, _ => none
 | n3 + 1, v3 =>
  AP ((decide (v3.2.2 < (v3.1.length : Int))))
   (Bb (fun (v6 : (List Int) × Int) =>
    Db N p1 j3 n3 (v6.1, v6.2, (wI .i64 (v3.2.2 + 1))))
   fun j6 =>
   (Bj v3.1 v3.2.2).bind fun v7 =>
   (p1 v7).bind fun v8 =>
   AP ((!v8))
    ((Bj v3.1 v3.2.1).bind fun _ =>
    j6 (v3.1.set ((v3.2.1).toNat) v7, (wI .i64 (v3.2.1 + 1))))
    (j6 (v3.1, v3.2.1)))
   (j3 (v3.1, v3.2.1))
def CM (N : Nat) (p0 : List Int) (p1 : Int → Option Bool) : Option (Nat × (List Int)) :=
 (DL N p0 p1).bind fun v1 =>
 AP ((v1 == (-1)))
  (some (p0.length, p0))
  (Db N p1 (fun (v4 : (List Int) × Int) =>
   (DF ((0 : Int) ≤ v4.2 ∧ (v4.2).toNat ≤ v4.1.length ∧ v4.1.length ≤ v4.1.length)).bind fun _ =>
   (DF ((0 : Int) ≤ v4.2 ∧ 0 ≤ (v4.2).toNat ∧ (v4.2).toNat ≤ (Jl v4.1 ((v4.2).toNat) (zA5 ((v4.1.length - (v4.2).toNat)) ((0 : Int)))).length)).bind fun _ =>
   some ((v4.2).toNat, Jl v4.1 ((v4.2).toNat) (zA5 ((v4.1.length - (v4.2).toNat)) ((0 : Int))))) N (p0, v1, (wI .i64 (v1 + 1))))
def GE (N : Nat) (p0 : Aa) : Option ((List (List Int)) × Int) :=
 (FZ N p0).bind fun v1 =>
 AP ((v1.2.2 != 0))
  (some (([] : List (List Int)), v1.2.2))
  ((DE N v1.1).bind fun v3 =>
  (CM N v3 ((fun (x : Int) => Fs N x v1.2.1 v1.1))).bind fun v4 =>
  (DF (v4.1 ≤ v4.2.length)).bind fun _ =>
  (GN N (v4.2.take v4.1)).bind fun v7 =>
  some (v7, 0))
def C7 (N : Nat) (p0 : List Int) (p1 : List Int) (j2 : Unit → Option Bool) : Nat → Int → Option Bool
 | 0, _ => none
 | n2 + 1, v2 =>
  AP ((decide (v2 < (p0.length : Int))))
   ((Bj p0 v2).bind fun v5 =>
   (Bj p1 v2).bind fun v6 =>
   AP ((v5 != v6))
    (some false)
    (C7 N p0 p1 j2 n2 (wI .i64 (v2 + 1))))
   (j2 ())
def Fi (N : Nat) (p0 : List Int) (p1 : List Int) : Option Bool :=
 AP (((p0.length : Int) != (p1.length : Int)))
  (some false)
  (C7 N p0 p1 (fun (_ : Unit) =>
   some true) N 0)
def CQ (N : Nat) (p0 : List (List Int)) (p1 : List (List Int)) (j2 : Unit → Option Bool) : Nat → Int → Option Bool
 | 0, _ => none
 | n2 + 1, v2 =>
  AP ((decide (v2 < (p0.length : Int))))
   ((Bj p0 v2).bind fun v5 =>
   (Bj p1 v2).bind fun v6 =>
   (Fi N v5 v6).bind fun v7 =>
   AP ((!v7))
    (some false)
    (CQ N p0 p1 j2 n2 (wI .i64 (v2 + 1))))
   (j2 ())
def Cr (N : Nat) (p0 : List (List Int)) (p1 : List (List Int)) : Option Bool :=
 AP (((p0.length : Int) != (p1.length : Int)))
  (some false)
  (CQ N p0 p1 (fun (_ : Unit) =>
   some true) N 0)
def Fb (N : Nat) (j1 : Unit → Option Bool) : Nat → Int → Option Bool
 | 0, _ => none
 | n1 + 1, v1 =>
  AP ((decide (v1 < ((([false, true] : List Bool)).length : Int))))
   ((Bj (([false, true] : List Bool)) v1).bind fun v4 =>
   (En N v4).bind fun v5 =>
   (IT N v5).bind fun v6 =>
   (En N v4).bind fun v7 =>
   (GE N v7).bind fun v8 =>
   (En N v4).bind fun v9 =>
   (Fu N v9 (([0, 2] : List Int))).bind fun v10 =>
   Bb (fun (v11 : Bool) =>
    AP v11
     (some false)
     (Fb N j1 n1 (wI .i64 (v1 + 1))))
   fun j11 =>
   AP ((v6.2 != 0))
    (j11 true)
    (AP ((v8.2 != 0))
     (j11 true)
     (AP ((v10.2 != 0))
      (j11 true)
      (AP v10.1
       (j11 true)
       ((Cr N v6.1 (([([0, 1] : List Int)] : List (List Int)))).bind fun v16 =>
       AP ((!v16))
        (j11 true)
        ((Cr N v8.1 (([([0, 2] : List Int), ([1, 2] : List Int)] : List (List Int)))).bind fun v18 =>
        j11 (!v18)))))))
   (j1 ())
def Fa (N : Nat) : Option Bool :=
 Fb N (fun (_ : Unit) =>
  some true) N 0
def C9 (N : Nat) (p0 : Aa) (p1 : Ac) (j3 : Unit → Option Bool) : Nat → Int → Option Bool
 | 0, _ => none
 | n3 + 1, v3 =>
  AP ((decide (v3 < (p1.fd.length : Int))))
   (Bb (fun (v6 : Bool) =>
    AP v6
     (some false)
     (C9 N p0 p1 j3 n3 (wI .i64 (v3 + 1))))
   fun j6 =>
   (Bj p1.fb v3).bind fun v7 =>
   AP ((decide (0 ≤ v7)))
    (j6 true)
    ((Bj p1.fd v3).bind fun v9 =>
    (Bj p0.fm v3).bind fun v10 =>
    j6 (v9 != v10)))
   (j3 ())
def Fh (N : Nat) (p0 : Aa) (p1 : Ac) : Option Bool :=
 (Dq N p0 p1).bind fun v1 =>
 AP ((v1 != 0))
  (some false)
  (C9 N p0 p1 (fun (_ : Unit) =>
   some true) N 0)
def DU (N : Nat) (p0 : List AC) (j1 : ((List Ad)) → Option ((List Ad))) : Nat → (Int × (List Ad)) → Option ((List Ad))
 | 0, _ => none
 | n1 + 1, v1 =>
  (Bj p0 v1.1).bind fun v3 =>
  AP ((decide (0 ≤ v3.fA)))
   ((Bj p0 v1.1).bind fun v5 =>
   (DF ((([(Ad.mk v5.ft.ff v5.ft.fh v5.ft.fo)] : List Ad)).length + v1.2.length ≤ C5)).bind fun _ =>
   (Bj p0 v1.1).bind fun v7 =>
   DU N p0 j1 n1 (v7.fA, (([(Ad.mk v5.ft.ff v5.ft.fh v5.ft.fo)] : List Ad)) ++ v1.2))
   (j1 v1.2)
def Gw (N : Nat) (p0 : List AC) (p1 : Int) : Option ((List Ad)) :=
 DU N p0 (fun (v2 : (List Ad)) =>
  some v2) N (p1, ([] : List Ad))
def Cv (N : Nat) (p0 : Aa) (v5 : (List AC) × Bool) (j7 : Unit → Option ((List Ad) × Int)) : Nat → Int → Option ((List Ad) × Int)
 | 0, _ => none
 | n7 + 1, v7 =>
  AP ((decide (v7 < (v5.1.length : Int))))
   ((Bj v5.1 v7).bind fun v10 =>
   (Fh N p0 ((Ac.mk v10.fu.fd v10.fu.fb v10.fu.fe))).bind fun v11 =>
   AP v11
    ((Gw N v5.1 v7).bind fun v13 =>
    some (v13, 0))
    (Cv N p0 v5 j7 n7 (wI .i64 (v7 + 1))))
   (j7 ())
def Er (N : Nat) (p0 : Aa) (p1 : Ac) : Option ((List Ad) × Int) :=
 (Dq N p0 p1).bind fun v1 =>
 AP ((v1 != 0))
  (some (([] : List Ad), v1))
  ((CS N p0 p1).bind fun v3 =>
  AP ((!v3))
   (some (([] : List Ad), 13))
   ((CZ N p0 p1 20000).bind fun v5 =>
   AP ((!v5.2))
    (some (([] : List Ad), 3))
    (Cv N p0 v5 (fun (_ : Unit) =>
     some (([] : List Ad), 14)) N 0)))
def Fj (N : Nat) (p0 : Aa) : Option ((List Ad) × Int) :=
 (Eb N p0).bind fun v1 =>
 AP ((v1.2 != 0))
  (some (([] : List Ad), v1.2))
  ((Er N p0 v1.1).bind fun v3 =>
  some (v3.1, v3.2))
def DQ (N : Nat) (p0 : Aa) (p1 : List Int) : Option (Bool × Int) :=
 (Dp N p0 p1).bind fun v1 =>
 AP ((v1.2 != 0))
  (some (false, v1.2))
  ((Fj N v1.1).bind fun v3 =>
  AP ((v3.2 == 3))
   (some (false, v3.2))
   (some ((v3.2 != 0), 0)))
def CP (N : Nat) (p0 : Aa) (v3 : (List (List Int))) (j4 : ((List Bool)) → Option ((List (List Int)) × (List Bool) × Int)) : Nat → ((List Bool) × Int) → Option ((List (List Int)) × (List Bool) × Int)
 | 0, _ => none
 | n4 + 1, v4 =>
  AP ((decide (v4.2 < (v3.length : Int))))
   ((Bj v3 v4.2).bind fun v7 =>
   (DQ N p0 v7).bind fun v8 =>
   AP ((v8.2 != 0))
    (some (([] : List (List Int)), ([] : List Bool), v8.2))
    ((DF (v4.1.length + (([v8.1] : List Bool)).length ≤ C5)).bind fun _ =>
    CP N p0 v3 j4 n4 (v4.1 ++ (([v8.1] : List Bool)), (wI .i64 (v4.2 + 1)))))
   (j4 v4.1)
def Do (N : Nat) (p0 : Aa) : Option ((List (List Int)) × (List Bool) × Int) :=
 (Bn N p0).bind fun v1 =>
 AP ((v1 != 0))
  (some (([] : List (List Int)), ([] : List Bool), v1))
  ((CJ N ((p0.fa.length : Int))).bind fun v3 =>
  CP N p0 v3 (fun (v5 : (List Bool)) =>
   some (v3, v5, 0)) N (([] : List Bool), 0))
def ES (N : Nat) (p0 : List Int) (p1 : List Int) (v1 : Int) (j4 : Bool → Option Bool) : Nat → (Bool × Int) → Option Bool
 | 0, _ => none
 | n4 + 1, v4 =>
  AP ((decide (v4.2 < (p1.length : Int))))
   (Bb (fun (v7 : Bool) =>
    ES N p0 p1 v1 j4 n4 (v7, (wI .i64 (v4.2 + 1))))
   fun j7 =>
   AP v4.1
    (j7 true)
    ((Bj p1 v4.2).bind fun v9 =>
    (Bj p0 v1).bind fun v10 =>
    j7 (v9 == v10)))
   (j4 v4.1)
def EU (N : Nat) (p0 : List Int) (p1 : List Int) (j1 : Unit → Option Bool) : Nat → Int → Option Bool
 | 0, _ => none
 | n1 + 1, v1 =>
  AP ((decide (v1 < (p0.length : Int))))
   (ES N p0 p1 v1 (fun (v5 : Bool) =>
    AP ((!v5))
     (some false)
     (EU N p0 p1 j1 n1 (wI .i64 (v1 + 1)))) N (false, 0))
   (j1 ())
def EB (N : Nat) (p0 : List Int) (p1 : List Int) : Option Bool :=
 EU N p0 p1 (fun (_ : Unit) =>
  some true) N 0
def Fk (N : Nat) (v1 : (List (List Int)) × (List Bool) × Int) (v2 : (List (List Int)) × Int) (j7 : Bool → Option ((List (List Int)) × Int)) : Nat → (Bool × Int) → Option ((List (List Int)) × Int)
 | 0, _ => none
 | n7 + 1, v7 =>
  AP ((decide (v7.2 < (v1.1.length : Int))))
   (Bb (fun (v10 : Bool) =>
    Fk N v1 v2 j7 n7 (v10, (wI .i64 (v7.2 + 1))))
   fun j10 =>
   Bb (fun (v11 : Bool) =>
    AP v11
     (j10 false)
     (j10 v7.1))
   fun j11 =>
   (Bj v1.2.1 v7.2).bind fun v12 =>
   AP ((!v12))
    (AP ((v7.2 != v2.2))
     ((Bj v1.1 v2.2).bind fun v15 =>
     (Bj v1.1 v7.2).bind fun v16 =>
     (EB N v15 v16).bind fun v17 =>
     j11 v17)
     (j11 false))
    (j11 false))
   (j7 v7.1)
def Eo (N : Nat) (v1 : (List (List Int)) × (List Bool) × Int) (j2 : ((List (List Int))) → Option ((List (List Int)) × Int)) : Nat → ((List (List Int)) × Int) → Option ((List (List Int)) × Int)
 | 0, _ => none
 | n2 + 1, v2 =>
  AP ((decide (v2.2 < (v1.1.length : Int))))
   (Bb (fun (v5 : (List (List Int))) =>
    Eo N v1 j2 n2 (v5, (wI .i64 (v2.2 + 1))))
   fun j5 =>
   (Bj v1.2.1 v2.2).bind fun v6 =>
   Fk N v1 v2 (fun (v8 : Bool) =>
    AP v8
     ((Bj v1.1 v2.2).bind fun v20 =>
     (DF (v2.1.length + (([v20] : List (List Int))).length ≤ C5)).bind fun _ =>
     j5 (v2.1 ++ (([v20] : List (List Int)))))
     (j5 v2.1)) N ((!v6), 0))
   (j2 v2.1)
def Es (N : Nat) (p0 : Aa) : Option ((List (List Int)) × Int) :=
 (Do N p0).bind fun v1 =>
 Eo N v1 (fun (v3 : (List (List Int))) =>
  some (v3, v1.2.2)) N (([] : List (List Int)), 0)
def D6 (N : Nat) (p0 : BG) : Option Bool :=
 (FR N p0).bind fun v1 =>
 Bb (fun (v2 : Bool) =>
  AP v2
   ((Fa N).bind fun v6 =>
   some v6)
   ((GE N v1.1).bind fun v7 =>
   (Es N v1.1).bind fun v8 =>
   Bb (fun (v9 : Bool) =>
    some v9)
   fun j9 =>
   AP ((v7.2 == v8.2))
    ((Cr N v7.1 v8.1).bind fun v11 =>
    j9 v11)
    (j9 false)))
 fun j2 =>
 (Fa N).bind fun v3 =>
 AP ((!v3))
  (j2 true)
  (j2 (!v1.2))
def Ix (N : Nat) (v1 : (List (List Int)) × (List Bool) × Int) (v2 : (List (List Int)) × Int) (j7 : Bool → Option ((List (List Int)) × Int)) : Nat → (Bool × Int) → Option ((List (List Int)) × Int)
 | 0, _ => none
 | n7 + 1, v7 =>
  AP ((decide (v7.2 < (v1.1.length : Int))))
   (Bb (fun (v10 : Bool) =>
    Ix N v1 v2 j7 n7 (v10, (wI .i64 (v7.2 + 1))))
   fun j10 =>
   Bb (fun (v11 : Bool) =>
    AP v11
     (j10 false)
     (j10 v7.1))
   fun j11 =>
   (Bj v1.2.1 v7.2).bind fun v12 =>
   AP v12
    (AP ((v7.2 != v2.2))
     ((Bj v1.1 v7.2).bind fun v15 =>
     (Bj v1.1 v2.2).bind fun v16 =>
     (EB N v15 v16).bind fun v17 =>
     j11 v17)
     (j11 false))
    (j11 false))
   (j7 v7.1)
def GR (N : Nat) (v1 : (List (List Int)) × (List Bool) × Int) (j2 : ((List (List Int))) → Option ((List (List Int)) × Int)) : Nat → ((List (List Int)) × Int) → Option ((List (List Int)) × Int)
 | 0, _ => none
 | n2 + 1, v2 =>
  AP ((decide (v2.2 < (v1.1.length : Int))))
   (Bb (fun (v5 : (List (List Int))) =>
    GR N v1 j2 n2 (v5, (wI .i64 (v2.2 + 1))))
   fun j5 =>
   (Bj v1.2.1 v2.2).bind fun v6 =>
   Ix N v1 v2 (fun (v8 : Bool) =>
    AP v8
     ((Bj v1.1 v2.2).bind fun v20 =>
     (DF (v2.1.length + (([v20] : List (List Int))).length ≤ C5)).bind fun _ =>
     j5 (v2.1 ++ (([v20] : List (List Int)))))
     (j5 v2.1)) N (v6, 0))
   (j2 v2.1)
def GD (N : Nat) (p0 : Aa) : Option ((List (List Int)) × Int) :=
 (Do N p0).bind fun v1 =>
 GR N v1 (fun (v3 : (List (List Int))) =>
  some (v3, v1.2.2)) N (([] : List (List Int)), 0)
def Ht (N : Nat) (v3 : (List Int)) (j4 : Int → Option ((List Int) × Int)) : Nat → (Int × Int) → Option ((List Int) × Int)
 | 0, _ => none
 | n4 + 1, v4 =>
  AP ((decide (v4.2 < (v3.length : Int))))
   ((Bj v3 v4.2).bind fun v7 =>
   Ht N v3 j4 n4 ((P0 .u64 v4.1 v7), (wI .i64 (v4.2 + 1))))
   (j4 v4.1)
def KG (N : Nat) (p0 : Aa) : Option ((List Int) × Int) :=
 (FZ N p0).bind fun v1 =>
 AP ((v1.2.2 != 0))
  (some (([] : List Int), v1.2.2))
  ((Fe N v1.1 v1.2.1).bind fun v3 =>
  Ht N v3 (fun (v5 : Int) =>
   (Bo N v5).bind fun v8 =>
   some (v8, 0)) N (0, 0))
def G6 (N : Nat) (v1 : (List (List Int)) × Int) (v2 : (List Int) × Int) (j7 : ((List Int)) → Option ((List Int) × Int)) : Nat → Int → Option ((List Int) × Int)
 | 0, _ => none
 | n7 + 1, v7 =>
  AP ((decide (v7 < (v1.1.length : Int))))
   ((Bj v1.1 v7).bind fun v10 =>
   (EB N (([v2.2] : List Int)) v10).bind fun v11 =>
   AP v11
    ((DF (v2.1.length + (([v2.2] : List Int)).length ≤ C5)).bind fun _ =>
    j7 (v2.1 ++ (([v2.2] : List Int))))
    (G6 N v1 v2 j7 n7 (wI .i64 (v7 + 1))))
   (j7 v2.1)
def Bs (N : Nat) (p0 : Aa) (v1 : (List (List Int)) × Int) (j2 : ((List Int)) → Option ((List Int) × Int)) : Nat → ((List Int) × Int) → Option ((List Int) × Int)
 | 0, _ => none
 | n2 + 1, v2 =>
  Bb (fun (v4 : Bool) =>
   AP v4
    (G6 N v1 v2 (fun (v8 : (List Int)) =>
     Bs N p0 v1 j2 n2 (v8, (wI .i64 (v2.2 + 1)))) N 0)
    (j2 v2.1))
  fun j4 =>
  AP ((decide (v2.2 < (p0.fa.length : Int))))
   (j4 (v1.2 == 0))
   (j4 false)
def HZ (N : Nat) (p0 : Aa) : Option ((List Int) × Int) :=
 (GD N p0).bind fun v1 =>
 Bs N p0 v1 (fun (v3 : (List Int)) =>
  some (v3, v1.2)) N (([] : List Int), 0)
def OQ {α : Type} (w : α → Prop) (xs : List α) : Prop := ∀ x, x ∈ xs → w x
def Mf (n : Int) : Prop := (Lit.int .u8 n).wf = true
def aa (n : Int) : Prop := (Lit.int .u16 n).wf = true
def Iz (x : HJ) : Prop := Mf x.ff ∧ Mf x.fg ∧ Mf x.fj ∧ (fun _ => True) x.fr ∧ aa x.fw ∧ aa x.fy ∧ True
def FO (x : BG) : Prop := (OQ Mf) x.fa ∧ (OQ Mf) x.fi ∧ (OQ Mf) x.fm ∧ (OQ Iz) x.fv ∧ True
open Go.RowKit
open Go.Proofs
abbrev NZ (x : HJ) : List C := [.pure (.val (.int .u8 x.ff)), .pure (.val (.int .u8 x.fg)), .pure (.val (.int .u8 x.fj)), .pure (.val (.bool x.fr)), .pure (.val (.int .u16 x.fw)), .pure (.val (.int .u16 x.fy))]
abbrev CW (x : BG) : List C := [sC (x.fa.map D4), sC (x.fi.map D4), sC (x.fm.map D4), sC (x.fv.map Hi)]
abbrev Ba (x : An) : List C := [iC x.ff, iC x.fg, iC x.fj, .pure (.val (.bool x.fr)), sC (x.fq.map (EP eB)), sC (x.fk.map (EP eB))]
abbrev Ah (x : Aa) : List C := [sC (x.fa.map Ak), sC (x.fi.map Ak), sC (x.fm.map Ak), sC (x.fc.map AM)]
abbrev AI (x : Ac) : List C := [sC (x.fd.map Ak), sC (x.fb.map Ak), sC (x.fe.map D4)]
abbrev Nt (x : Ap) : List C := [iC x.fB, iC x.fC, iC x.fD]
abbrev Dv (x : Ad) : List C := [iC x.ff, iC x.fh, iC x.fo]
abbrev VW (x : AD) : List C := [sC (x.fp.fd.map Ak), sC (x.fp.fb.map Ak), sC (x.fp.fe.map D4), iC x.fg, iC x.ft.ff, iC x.ft.fh, iC x.ft.fo, sC (x.fb.map Ak)]
theorem Av : Tryz.prog.follows .mixedOrders = true := by kernel_rfl
theorem wq {X : Ja} {y : Code} {id : Nat} {ops : Array Oper} {dr : Bool} {Q : Exit → St → Prop} {st : St} {n : Nat} (hn : ops.size = n) (h : Bd zA0 X ops dr (fun st' => W zA0 X y Q st') n 0 st []) : W zA0 X (.seq (.region id ops dr) y) Q st := eP Av hn h
theorem wp {X : Ja} {y z : Code} {id : Nat} {ops : Array Oper} {dr : Bool} {Q : Exit → St → Prop} {st : St} {n : Nat} (hn : ops.size = n) (h : Bd zA0 X ops dr (fun st' => W zA0 X y (QK (W zA0 X z Q) Q) st') n 0 st []) : W zA0 X (.seq (.seq (.region id ops dr) y) z) Q st := AN (eP Av hn h)
theorem cR : FN zA0 101 true = true := by kernel_rfl
theorem I1 : FN zA0 120 false = true := by kernel_rfl
theorem bC : FN zA0 136 true = true := by kernel_rfl
theorem UN : FN zA0 149 true = true := by kernel_rfl
theorem Ws : FN zA0 22 false = true := by kernel_rfl
theorem af : FN zA0 23 false = true := by kernel_rfl
theorem bN : FN zA0 25 true = true := by kernel_rfl
theorem A1 : FN zA0 26 false = true := by kernel_rfl
theorem Hj : FN zA0 27 false = true := by kernel_rfl
theorem CU : FN zA0 29 true = true := by kernel_rfl
theorem BV : FN zA0 3 false = true := by kernel_rfl
theorem Sf : FN zA0 4 false = true := by kernel_rfl
theorem H7 : FN zA0 47 false = true := by kernel_rfl
theorem BZ : FN zA0 49 true = true := by kernel_rfl
theorem cZ : FN zA0 5 false = true := by kernel_rfl
theorem OI : FN zA0 61 false = true := by kernel_rfl
theorem bj : FN zA0 66 false = true := by kernel_rfl
theorem bo : FN zA0 67 false = true := by kernel_rfl
theorem O3 : FN zA0 71 false = true := by kernel_rfl
theorem IG : FN zA0 82 false = true := by kernel_rfl
theorem G1 : FN zA0 84 true = true := by kernel_rfl
theorem J4 : FN zA0 94 true = true := by kernel_rfl
theorem bG : FN zA0 99 false = true := by kernel_rfl
theorem bm : R6 zA0 22 = true := by kernel_rfl
theorem PT : Fx zA0 120 1 = true := by kernel_rfl
theorem aH : Fx zA0 136 128 = true := by kernel_rfl
theorem ZO : Fx zA0 140 104 = true := by kernel_rfl
theorem Rl : Fx zA0 149 24 = true := by kernel_rfl
theorem Xt : Fx zA0 26 24 = true := by kernel_rfl
theorem J8 : Fx zA0 3 8 = true := by kernel_rfl
theorem VV : Fx zA0 4 1 = true := by kernel_rfl
theorem Zn : Fx zA0 49 72 = true := by kernel_rfl
theorem ay : Fx zA0 5 1 = true := by kernel_rfl
theorem WJ : Fx zA0 61 24 = true := by kernel_rfl
theorem XH : Fx zA0 71 8 = true := by kernel_rfl
theorem Wv : Fx zA0 84 80 = true := by kernel_rfl
theorem Qy : Fx zA0 94 24 = true := by kernel_rfl
theorem V4 : CN zA0 101 0 0 = true := by kernel_rfl
theorem W4 : CN zA0 101 1 1 = true := by kernel_rfl
theorem Wa : CN zA0 101 2 2 = true := by kernel_rfl
theorem Wg : CN zA0 101 3 3 = true := by kernel_rfl
theorem XP : CN zA0 101 4 4 = true := by kernel_rfl
theorem W6 : CN zA0 101 5 5 = true := by kernel_rfl
theorem Pr : CN zA0 136 0 0 = true := by kernel_rfl
theorem Su : CN zA0 136 1 3 = true := by kernel_rfl
theorem WH : CN zA0 136 2 4 = true := by kernel_rfl
theorem SF : CN zA0 136 3 7 = true := by kernel_rfl
theorem Nz : CN zA0 140 0 0 = true := by kernel_rfl
theorem SB : CN zA0 140 1 3 = true := by kernel_rfl
theorem XA : CN zA0 140 2 4 = true := by kernel_rfl
theorem R2 : CN zA0 25 0 0 = true := by kernel_rfl
theorem Y4 : CN zA0 25 1 1 = true := by kernel_rfl
theorem Yc : CN zA0 25 2 2 = true := by kernel_rfl
theorem RA : CN zA0 25 3 3 = true := by kernel_rfl
theorem A6 : CN zA0 29 0 0 = true := by kernel_rfl
theorem FA : CN zA0 29 1 1 = true := by kernel_rfl
theorem GB : CN zA0 29 2 2 = true := by kernel_rfl
theorem Cc : CN zA0 29 3 3 = true := by kernel_rfl
theorem C4 : CN zA0 49 0 0 = true := by kernel_rfl
theorem BI : CN zA0 49 1 1 = true := by kernel_rfl
theorem C6 : CN zA0 49 2 2 = true := by kernel_rfl
theorem Gu : CN zA0 84 0 0 = true := by kernel_rfl
theorem Dd : CN zA0 84 1 1 = true := by kernel_rfl
theorem HK : CN zA0 84 2 2 = true := by kernel_rfl
theorem JB : CN zA0 84 3 3 = true := by kernel_rfl
theorem Hl : CN zA0 84 4 4 = true := by kernel_rfl
theorem FD : CN zA0 84 5 5 = true := by kernel_rfl
theorem Gv : CN zA0 94 0 0 = true := by kernel_rfl
theorem FB : CN zA0 94 1 1 = true := by kernel_rfl
theorem HL : CN zA0 94 2 2 = true := by kernel_rfl
theorem ez : Az zA0 10 = true := by kernel_rfl
theorem co : Az zA0 100 = true := by kernel_rfl
theorem Zv : Az zA0 101 = true := by kernel_rfl
theorem Zs : Az zA0 102 = true := by kernel_rfl
theorem Zz : Az zA0 103 = true := by kernel_rfl
theorem bu : Az zA0 104 = true := by kernel_rfl
theorem WL : Az zA0 105 = true := by kernel_rfl
theorem bk : Az zA0 106 = true := by kernel_rfl
theorem cN : Az zA0 107 = true := by kernel_rfl
theorem aV : Az zA0 108 = true := by kernel_rfl
theorem cn : Az zA0 109 = true := by kernel_rfl
theorem cj : Az zA0 11 = true := by kernel_rfl
theorem df : Az zA0 110 = true := by kernel_rfl
theorem Zm : Az zA0 113 = true := by kernel_rfl
theorem cC : Az zA0 114 = true := by kernel_rfl
theorem bE : Az zA0 117 = true := by kernel_rfl
theorem bP : Az zA0 12 = true := by kernel_rfl
theorem UF : Az zA0 120 = true := by kernel_rfl
theorem bU : Az zA0 121 = true := by kernel_rfl
theorem bH : Az zA0 122 = true := by kernel_rfl
theorem bg : Az zA0 124 = true := by kernel_rfl
theorem bc : Az zA0 125 = true := by kernel_rfl
theorem bZ : Az zA0 126 = true := by kernel_rfl
theorem ZE : Az zA0 127 = true := by kernel_rfl
theorem db : Az zA0 128 = true := by kernel_rfl
theorem WP : Az zA0 129 = true := by kernel_rfl
theorem Xc : Az zA0 13 = true := by kernel_rfl
theorem ZB : Az zA0 130 = true := by kernel_rfl
theorem bL : Az zA0 131 = true := by kernel_rfl
theorem bF : Az zA0 132 = true := by kernel_rfl
theorem cJ : Az zA0 133 = true := by kernel_rfl
theorem aU : Az zA0 134 = true := by kernel_rfl
theorem cE : Az zA0 135 = true := by kernel_rfl
theorem cz : Az zA0 136 = true := by kernel_rfl
theorem bv : Az zA0 137 = true := by kernel_rfl
theorem Zy : Az zA0 138 = true := by kernel_rfl
theorem bd : Az zA0 139 = true := by kernel_rfl
theorem dZ : Az zA0 14 = true := by kernel_rfl
theorem bI : Az zA0 15 = true := by kernel_rfl
theorem bt : Az zA0 150 = true := by kernel_rfl
theorem cV : Az zA0 151 = true := by kernel_rfl
theorem cu : Az zA0 152 = true := by kernel_rfl
theorem cF : Az zA0 153 = true := by kernel_rfl
theorem bA : Az zA0 154 = true := by kernel_rfl
theorem WF : Az zA0 156 = true := by kernel_rfl
theorem bT : Az zA0 157 = true := by kernel_rfl
theorem cg : Az zA0 158 = true := by kernel_rfl
theorem cU : Az zA0 159 = true := by kernel_rfl
theorem d7 : Az zA0 16 = true := by kernel_rfl
theorem cM : Az zA0 160 = true := by kernel_rfl
theorem bY : Az zA0 161 = true := by kernel_rfl
theorem aT : Az zA0 162 = true := by kernel_rfl
theorem cH : Az zA0 163 = true := by kernel_rfl
theorem aQ : Az zA0 164 = true := by kernel_rfl
theorem aX : Az zA0 165 = true := by kernel_rfl
theorem bQ : Az zA0 166 = true := by kernel_rfl
theorem cr : Az zA0 167 = true := by kernel_rfl
theorem Z6 : Az zA0 17 = true := by kernel_rfl
theorem Zi : Az zA0 173 = true := by kernel_rfl
theorem Zj : Az zA0 174 = true := by kernel_rfl
theorem ZC : Az zA0 176 = true := by kernel_rfl
theorem cy : Az zA0 177 = true := by kernel_rfl
theorem bJ : Az zA0 178 = true := by kernel_rfl
theorem d4 : Az zA0 18 = true := by kernel_rfl
theorem cW : Az zA0 180 = true := by kernel_rfl
theorem dF : Az zA0 19 = true := by kernel_rfl
theorem eN : Az zA0 25 = true := by kernel_rfl
theorem cD : Az zA0 30 = true := by kernel_rfl
theorem cO : Az zA0 31 = true := by kernel_rfl
theorem WZ : Az zA0 33 = true := by kernel_rfl
theorem eG : Az zA0 35 = true := by kernel_rfl
theorem eM : Az zA0 36 = true := by kernel_rfl
theorem aA : Az zA0 37 = true := by kernel_rfl
theorem Xj : Az zA0 38 = true := by kernel_rfl
theorem dU : Az zA0 39 = true := by kernel_rfl
theorem dN : Az zA0 40 = true := by kernel_rfl
theorem dV : Az zA0 41 = true := by kernel_rfl
theorem cA : Az zA0 42 = true := by kernel_rfl
theorem d5 : Az zA0 43 = true := by kernel_rfl
theorem d1 : Az zA0 44 = true := by kernel_rfl
theorem dy : Az zA0 45 = true := by kernel_rfl
theorem cm : Az zA0 46 = true := by kernel_rfl
theorem dK : Az zA0 47 = true := by kernel_rfl
theorem bp : Az zA0 48 = true := by kernel_rfl
theorem dq : Az zA0 49 = true := by kernel_rfl
theorem ee : Az zA0 50 = true := by kernel_rfl
theorem dp : Az zA0 51 = true := by kernel_rfl
theorem YV : Az zA0 52 = true := by kernel_rfl
theorem dB : Az zA0 55 = true := by kernel_rfl
theorem eJ : Az zA0 56 = true := by kernel_rfl
theorem bh : Az zA0 57 = true := by kernel_rfl
theorem dL : Az zA0 58 = true := by kernel_rfl
theorem dg : Az zA0 59 = true := by kernel_rfl
theorem aE : Az zA0 60 = true := by kernel_rfl
theorem et : Az zA0 61 = true := by kernel_rfl
theorem ck : Az zA0 62 = true := by kernel_rfl
theorem dH : Az zA0 64 = true := by kernel_rfl
theorem cQ : Az zA0 65 = true := by kernel_rfl
theorem RC : Az zA0 66 = true := by kernel_rfl
theorem aW : Az zA0 67 = true := by kernel_rfl
theorem eE : Az zA0 68 = true := by kernel_rfl
theorem ct : Az zA0 69 = true := by kernel_rfl
theorem Xp : Az zA0 70 = true := by kernel_rfl
theorem eC : Az zA0 71 = true := by kernel_rfl
theorem bV : Az zA0 72 = true := by kernel_rfl
theorem dz : Az zA0 73 = true := by kernel_rfl
theorem eK : Az zA0 74 = true := by kernel_rfl
theorem eI : Az zA0 75 = true := by kernel_rfl
theorem dR : Az zA0 76 = true := by kernel_rfl
theorem dA : Az zA0 77 = true := by kernel_rfl
theorem ed : Az zA0 78 = true := by kernel_rfl
theorem d3 : Az zA0 79 = true := by kernel_rfl
theorem cP : Az zA0 80 = true := by kernel_rfl
theorem dO : Az zA0 81 = true := by kernel_rfl
theorem du : Az zA0 82 = true := by kernel_rfl
theorem bn : Az zA0 83 = true := by kernel_rfl
theorem d9 : Az zA0 85 = true := by kernel_rfl
theorem ec : Az zA0 87 = true := by kernel_rfl
theorem d8 : Az zA0 88 = true := by kernel_rfl
theorem d6 : Az zA0 89 = true := by kernel_rfl
theorem ZI : Az zA0 90 = true := by kernel_rfl
theorem eF : Az zA0 91 = true := by kernel_rfl
theorem cG : Az zA0 92 = true := by kernel_rfl
theorem dJ : Az zA0 93 = true := by kernel_rfl
theorem dS : Az zA0 94 = true := by kernel_rfl
theorem dP : Az zA0 95 = true := by kernel_rfl
theorem Xq : Az zA0 96 = true := by kernel_rfl
theorem YX : Az zA0 97 = true := by kernel_rfl
theorem bf : Az zA0 98 = true := by kernel_rfl
theorem aR : Az zA0 99 = true := by kernel_rfl
theorem Sp : Qb zA0 145 .u32 = true := by kernel_rfl
theorem Zh : Qb zA0 147 .u64 = true := by kernel_rfl
theorem XX : Qb zA0 3 .i64 = true := by kernel_rfl
theorem eO : Qb zA0 5 .u8 = true := by kernel_rfl
theorem Yl : Qb zA0 71 .u64 = true := by kernel_rfl
theorem UY : Tryz.prog.underlying 71 = some (.int .u64) := by kernel_rfl
theorem az : Tryz.prog.underlying 9 = some .string := by kernel_rfl
theorem RD : Tryz.prog.underlying 170 = some (.map 9 3) := by kernel_rfl
theorem Om : Tryz.prog.underlying 67 = some (.map 71 4) := by kernel_rfl
theorem Zr : IL zA0 136 = some [(0, 3), (3, 1), (4, 3), (7, 1)] := by kernel_rfl
theorem Zd : IL zA0 140 = some [(0, 3), (3, 1), (4, 3)] := by kernel_rfl
theorem QV : IL zA0 149 = some [(0, 1), (1, 1), (2, 1)] := by kernel_rfl
theorem SS : IL zA0 29 = some [(0, 1), (1, 1), (2, 1), (3, 1)] := by kernel_rfl
theorem Jm : IL zA0 49 = some [(0, 1), (1, 1), (2, 1)] := by kernel_rfl
theorem YP : IL zA0 84 = some [(0, 1), (1, 1), (2, 1), (3, 1), (4, 1), (5, 1)] := by kernel_rfl
theorem YT : IL zA0 94 = some [(0, 1), (1, 1), (2, 1)] := by kernel_rfl
theorem HP : sliceB zA0 125 140 = true := by kernel_rfl
theorem Hp : sliceB zA0 131 136 = true := by kernel_rfl
theorem HS : sliceB zA0 162 149 = true := by kernel_rfl
theorem Lg : sliceB zA0 22 5 = true := by kernel_rfl
theorem XD : sliceB zA0 23 101 = true := by kernel_rfl
theorem As : sliceB zA0 26 3 = true := by kernel_rfl
theorem Dt : sliceB zA0 27 84 = true := by kernel_rfl
theorem Fq : sliceB zA0 38 26 = true := by kernel_rfl
theorem Mz : sliceB zA0 46 49 = true := by kernel_rfl
theorem D9 : sliceB zA0 47 120 = true := by kernel_rfl
theorem EN : sliceB zA0 61 4 = true := by kernel_rfl
theorem EO : sliceB zA0 63 94 = true := by kernel_rfl
theorem GF : sliceB zA0 66 71 = true := by kernel_rfl
theorem EC : sliceB zA0 82 61 = true := by kernel_rfl
theorem de : (Tryz.prog.underlying 120).isSome = true := by kernel_rfl
theorem UJ : (Tryz.prog.underlying 145).isSome = true := by kernel_rfl
theorem W3 : (Tryz.prog.underlying 147).isSome = true := by kernel_rfl
theorem dm : (Tryz.prog.underlying 3).isSome = true := by kernel_rfl
theorem Z0 : (Tryz.prog.underlying 5).isSome = true := by kernel_rfl
theorem YG : (Tryz.prog.underlying 71).isSome = true := by kernel_rfl
theorem VH : Q7 zA0 9 = true := by kernel_rfl
theorem WG : H0 zA0 101 6 = true := by kernel_rfl
theorem EQ : H0 zA0 120 1 = true := by kernel_rfl
theorem Lf : H0 zA0 136 8 = true := by kernel_rfl
theorem Mq : H0 zA0 140 7 = true := by kernel_rfl
theorem IY : H0 zA0 149 3 = true := by kernel_rfl
theorem cY : H0 zA0 25 4 = true := by kernel_rfl
theorem GZ : H0 zA0 26 1 = true := by kernel_rfl
theorem Z8 : H0 zA0 27 1 = true := by kernel_rfl
theorem BY : H0 zA0 29 4 = true := by kernel_rfl
theorem Cy : H0 zA0 3 1 = true := by kernel_rfl
theorem N7 : H0 zA0 4 1 = true := by kernel_rfl
theorem dn : H0 zA0 47 1 = true := by kernel_rfl
theorem A3 : H0 zA0 49 3 = true := by kernel_rfl
theorem aG : H0 zA0 5 1 = true := by kernel_rfl
theorem JJ : H0 zA0 61 1 = true := by kernel_rfl
theorem dD : H0 zA0 66 1 = true := by kernel_rfl
theorem dE : H0 zA0 67 1 = true := by kernel_rfl
theorem Mc : H0 zA0 71 1 = true := by kernel_rfl
theorem Ya : H0 zA0 82 1 = true := by kernel_rfl
theorem Dl : H0 zA0 84 6 = true := by kernel_rfl
theorem EZ : H0 zA0 94 3 = true := by kernel_rfl
theorem cb : D1 zA0 101 = some (.agg #[.int .u8 0, .int .u8 0, .int .u8 0, .bool false, .int .u16 0, .int .u16 0]) := by kernel_rfl
theorem NI : D1 zA0 120 = some (.int .u8 0) := by kernel_rfl
theorem Tv : D1 zA0 136 = some (.agg #[.slice none 0 0, .slice none 0 0, .slice none 0 0, .int .i64 0, .int .i64 0, .int .i64 0, .int .i64 0, .slice none 0 0]) := by kernel_rfl
theorem Sk : D1 zA0 140 = some (.agg #[.slice none 0 0, .slice none 0 0, .slice none 0 0, .int .i64 0, .int .i64 0, .int .i64 0, .int .i64 0]) := by kernel_rfl
theorem Ji : D1 zA0 149 = some (.agg #[.int .i64 0, .int .i64 0, .int .i64 0]) := by kernel_rfl
theorem Tg : D1 zA0 26 = some (.slice none 0 0) := by kernel_rfl
theorem Km : D1 zA0 29 = some (.agg #[.slice none 0 0, .slice none 0 0, .slice none 0 0, .slice none 0 0]) := by kernel_rfl
theorem I3 : D1 zA0 3 = some (.int .i64 0) := by kernel_rfl
theorem Sd : D1 zA0 4 = some (.bool false) := by kernel_rfl
theorem EG : D1 zA0 49 = some (.agg #[.slice none 0 0, .slice none 0 0, .slice none 0 0]) := by kernel_rfl
theorem cv : D1 zA0 5 = some (.int .u8 0) := by kernel_rfl
theorem Uh : D1 zA0 61 = some (.slice none 0 0) := by kernel_rfl
theorem dQ : D1 zA0 66 = some (.slice none 0 0) := by kernel_rfl
theorem ej : D1 zA0 67 = some (.map none) := by kernel_rfl
theorem Sg : D1 zA0 71 = some (.int .u64 0) := by kernel_rfl
theorem I7 : D1 zA0 84 = some (.agg #[.int .i64 0, .int .i64 0, .int .i64 0, .bool false, .slice none 0 0, .slice none 0 0]) := by kernel_rfl
theorem Ky : D1 zA0 94 = some (.agg #[.int .i64 0, .int .i64 0, .int .i64 0]) := by kernel_rfl
set_option maxRecDepth 10000
theorem JR (N : Nat) (p0 : List Int) (p1 : Int) (r : Int) (h : Eu N p0 p1 = some r) : Ao zA0 65 [pD (.sl (p0.map D4)), iD p1] [] (iD r) := by
 unfold Eu at h
 refine cw (n := 14) (rs := [.tmp 4]) Tryz.func65 fun w0 S0 => ?_
 refine wq rfl (qa rfl (Ab (wp rfl (qw 2 rfl (AJ Lg rfl (AV rfl (Ab ?_)))))))
 refine A8 h (fun h => ?_) fun h => ?_
 ·refine wq rfl (qw 2 rfl ?_)
  refine BD h fun v2 a2 b2 h => qi Lg aG a2 (Af b2) rfl (qk cZ rfl (JP Z0 XX rfl (qe rfl ?_)))
  obtain rfl := sj h
  refine Ae (sm [] [(4, iD ((wI .i64 v2)))] [] rfl rfl) (Ar ?_)
  exact ⟨⟨[_], tm, rfl⟩, tv⟩
 ·refine Ai (wq rfl (qe rfl ?_))
  obtain rfl := sj h
  refine Ae (sm [] [(4, iD 0)] [] rfl rfl) (Ar ?_)
  exact ⟨⟨[_], tm, rfl⟩, tv⟩
theorem Co (N : Nat) (p0 : An) (r : Bool) (h : A7 N p0 = some r) : Ao zA0 66 [.e (.agg (Ba p0))] [] (bD r) := by
 unfold A7 at h
 refine cw (n := 11) (rs := [.tmp 2]) Tryz.func66 fun w0 S0 => ?_
 refine wq rfl (qb rfl (qe rfl ?_))
 refine AR h (fun v1 => mk [(2, bD v1)] []) (fun j1 h => ?_) (fun v1 h => ?_)
 ·refine Ag Av rfl (qf Gu rfl (ql BV rfl (Cf rfl (qm rfl ?_))))
  refine Ey 6 h rfl (fun h => ?_) fun h => ?_
  ·refine qw 3 rfl (qp rfl (qe rfl ?_))
   exact sn [] h
  ·refine qf Gu rfl (ql BV rfl (Cf rfl (qp rfl (qe rfl ?_))))
   exact sn [] h
 ·obtain rfl := sj h
  refine Ae (sm [] [(2, bD v1)] [] rfl rfl) (Ar ?_)
  exact ⟨⟨[_], tm, rfl⟩, tv⟩
theorem JS (N : Nat) (p0 : Int) (p1 : Int) (p2 : Int) (p3 : Bool) (r : (List (List Bool))) (h : Ep N p0 p1 p2 p3 = some r) : Ao zA0 67 [iD p0, iD p1, pD (.val (.int .u16 p2)), bD p3] [(1, r.map (EP eB))] (oD (.own 0)) := by
 unfold Ep at h
 refine cw (n := 47) (rs := [.tmp 8]) Tryz.func67 fun w0 S0 => ?_
 refine wq rfl (qa rfl (Ab (wq rfl (qa rfl (Ab (wp rfl (qe rfl ?_)))))))
 refine AE (L := Cs N p0 p1 p2 p3) h (fun v1 => mk [(0, iD p0), (1, iD p1), (2, pD (.val (.int .u16 p2))), (3, bD p3), (9, oD (.own 2001)), (10, iD v1.2)] [(2001, .vec 1 (v1.1.map (EP eB)))]) (fun v2 => mk [(9, oD (.own 2002))] [(2002, .vec 1 (v2.map (EP eB)))]) (fun _ _ => rfl) ((AU 9 2010 1 rfl rfl rfl).trans (sm [(2001, 2010)] _ _ rfl rfl)) (fun j1 n1 v1 h => ?_) (fun v2 s h hs => ?_)
 ·unfold Cs at h
  refine wp rfl (qw 2 rfl (AV rfl (Ab ?_)))
  refine A8 h (fun h => ?_) fun h => ?_
  ·refine Ai (AN (AH (wq rfl (qa rfl (Ab (wp rfl (qe rfl ?_)))))))
   refine AE (L := Cq N p1 p2 p3 v1) h (fun v4 => mk [(0, iD p0), (1, iD p1), (2, pD (.val (.int .u16 p2))), (3, bD p3), (9, oD (.own 2003)), (10, iD v1.2), (11, oD (.own 2004)), (12, iD v4.2)] [(2003, .vec 1 (v1.1.map (EP eB))), (2004, .vec 1 (v4.1.map eB))]) (fun v5 => mk [(0, iD p0), (1, iD p1), (2, pD (.val (.int .u16 p2))), (3, bD p3), (9, oD (.own 2005)), (10, iD v1.2), (11, oD (.own 2006))] [(2005, .vec 1 (v1.1.map (EP eB))), (2006, .vec 1 (v5.map eB))]) (fun _ _ => rfl) ((AU 11 2009 1 rfl rfl rfl).trans (sm [(2003, 2001), (2004, 2009)] _ _ rfl rfl)) (fun j4 n4 v4 h => ?_) (fun v5 s h hs => ?_)
   ·unfold Cq at h
    refine wp rfl (qw 2 rfl (AV rfl (Ab ?_)))
    refine A8 h (fun h => ?_) fun h => ?_
    ·refine Ai ?_
     refine AR h (fun v7 => mk [(0, iD p0), (1, iD p1), (2, pD (.val (.int .u16 p2))), (3, bD p3), (9, oD (.own 2007)), (10, iD v1.2), (11, oD (.own 2008)), (12, iD v4.2)] [(2007, .vec 1 (v1.1.map (EP eB))), (2008, .vec 1 (v7.map eB))]) (fun j7 h => ?_) (fun v7 h => ?_)
     ·refine AH (Ag Av rfl (qw 3 rfl ?_))
      refine Ey 25 h rfl (fun h => ?_) fun h => ?_
      ·refine qw 2 rfl (Cf rfl (qp rfl (qm rfl ?_)))
       refine Ey 30 h rfl (fun h => ?_) fun h => ?_
       ·refine qw 8 rfl (qp rfl (Di EN N7 Sd rfl ?_))
        refine FI h fun c10 h => Ck (f := eB) EN EN N7 VV Sd c10 rfl (qe rfl ?_)
        exact sn [(2007, 2003), (2008, 41)] h
       ·refine qw 2 rfl (Nv rfl (qm rfl (AX rfl ?_)))
        refine FI h fun c11 h => GU rfl c11 (Mw rfl (by decide) (Cf rfl (qp rfl (Di EN N7 Sd rfl ?_))))
        refine FI h fun c12 h => Ck (f := eB) EN EN N7 VV Sd c12 rfl (qe rfl ?_)
        exact sn [(2007, 2003), (2008, 41)] h
      ·refine qw 3 rfl (qp rfl (qw 3 rfl (Nv rfl (qm rfl (AX rfl ?_)))))
       refine FI h fun c13 h => GU rfl c13 (Mw rfl (by decide) (Cf rfl (qp rfl (Di EN N7 Sd rfl ?_))))
       refine FI h fun c14 h => Ck (f := eB) EN EN N7 VV Sd c14 rfl (qe rfl ?_)
       exact sn [(2007, 2003), (2008, 41)] h
     ·refine Ag Av rfl (qm rfl (AX rfl (qe rfl ?_)))
      exact sn [(2003, 2007), (2004, 2008)] h
    ·refine AS ?_
     exact sn [(2005, 2003), (2006, 2004)] h
   ·refine Ae hs (Ag Av rfl (qw 2 rfl (CY (A9 2006 _ _ rfl rfl) (Di EC JJ Uh rfl ?_))))
    refine FI h fun c15 h => Ck (f := (EP eB)) EC EC JJ WJ Uh c15 rfl (qa rfl (Ab (Ag Av rfl (qm rfl (AX rfl (qe rfl ?_))))))
    exact sn [(2001, 45)] h
  ·refine AS ?_
   exact sn [(2002, 2001)] h
 ·refine Ae hs (wq rfl (qm rfl (qe rfl ?_)))
  obtain rfl := sj h
  refine Ae (sm [(1000, 2002)] [(8, oD (.own 1000))] [(1000, .vec 1 (v2.map (EP eB)))] rfl rfl) (Ar ?_)
  exact ⟨⟨[_], tm, rfl⟩, ⟨rfl, tv⟩⟩
theorem N4 (N : Nat) (p0 : BG) (r : Aa × Bool) (h : FM N p0 = some r) : Ao zA0 35 [.e (.agg (CW p0))] [(1, r.1.fa.map Ak), (1, r.1.fi.map Ak), (1, r.1.fm.map Ak), (6, r.1.fc.map AM)] (.tup [.agg [.own 0, .own 1, .own 2, .own 3], .one (.pure (.val (.bool r.2)))]) := by
 unfold FM at h
 refine cw (n := 152) (rs := [.cell 2 29, .tmp 3]) Tryz.func35 fun w0 S0 => ?_
 refine wq rfl (qb rfl (qz Km rfl (qa rfl (Ab (AN ?_)))))
 refine AR h (fun v1 => mk [(1, oD (.ptr 1 0)), (2, oD (.ptr 2 0)), (19, bD v1)] [(1, .box (CW p0)), (2, .box [.pure (.nil0), .pure (.nil0), .pure (.nil0), .pure (.nil0)])]) (fun j1 h => ?_) (fun v1 h => ?_)
 ·refine Ag Av rfl (qf R2 rfl (ql Ws rfl (AJ Lg rfl (GM rfl (qm rfl ?_)))))
  refine Ey 14 h rfl (fun h => ?_) fun h => ?_
  ·refine qw 4 rfl (qp rfl (Ab ?_))
   exact sn [] h
  ·refine qf RA rfl (ql af rfl (AJ XD rfl (GM rfl (qp rfl (Ab ?_)))))
   exact sn [] h
 ·refine A8 h (fun h => ?_) fun h => ?_
  ·refine wq rfl (Bg Km SS rfl (qs BY rfl (qe rfl ?_)))
   obtain rfl := sj h
   refine Ae ((Aq 2 0 2001 1 _ rfl rfl rfl rfl).trans ((Aq 2 1 2002 1 _ rfl rfl rfl rfl).trans ((Aq 2 2 2003 1 _ rfl rfl rfl rfl).trans ((Aq 2 3 2004 6 _ rfl rfl rfl rfl).trans (sm [(1000, 2001), (1001, 2002), (1002, 2003), (1003, 2004)] [(2, oD (.ptr 2 0)), (3, bD false)] [(2, .box [.own 1000, .own 1001, .own 1002, .own 1003]), (1000, .vec 1 ((([] : List Int)).map Ak)), (1001, .vec 1 ((([] : List Int)).map Ak)), (1002, .vec 1 ((([] : List Int)).map Ak)), (1003, .vec 6 ((([] : List An)).map AM))] rfl rfl))))) (Ar ?_)
   exact ⟨⟨[_, _], ⟨.cellN _ _ _ _ _ _ _ rfl rfl CU BY rfl rfl (Jo rfl), tm⟩, rfl⟩, ⟨rfl, rfl, rfl, rfl, tv⟩⟩
  ·refine Ai (wq rfl (qz Km rfl (Ab (wp rfl (qe rfl ?_)))))
   refine AE (L := C0 N p0) h (fun v4 => mk [(1, oD (.ptr 1 0)), (2, oD (.ptr 2 0)), (4, oD (.ptr 4 0)), (5, iD v4.2.2.2)] [(1, .box (CW p0)), (2, .box [.pure (.nil0), .pure (.nil0), .pure (.nil0), .pure (.nil0)]), (4, .box [.own 2005, .own 2006, .own 2007, .pure (.nil0)]), (2005, .vec 1 (v4.1.map Ak)), (2006, .vec 1 (v4.2.1.map Ak)), (2007, .vec 1 (v4.2.2.1.map Ak))]) (fun v5 => mk [(1, oD (.ptr 1 0)), (2, oD (.ptr 2 0)), (4, oD (.ptr 4 0))] [(1, .box (CW p0)), (2, .box [.pure (.nil0), .pure (.nil0), .pure (.nil0), .pure (.nil0)]), (4, .box [.own 2008, .own 2009, .own 2010, .pure (.nil0)]), (2008, .vec 1 (v5.1.map Ak)), (2009, .vec 1 (v5.2.1.map Ak)), (2010, .vec 1 (v5.2.2.map Ak))]) (fun _ _ => rfl) ((Aq 4 0 2011 1 _ rfl rfl rfl rfl).trans ((Aq 4 1 2012 1 _ rfl rfl rfl rfl).trans ((Aq 4 2 2013 1 _ rfl rfl rfl rfl).trans (sm [(2005, 2011), (2006, 2012), (2007, 2013)] _ _ rfl rfl)))) (fun j4 n4 v4 h => ?_) (fun v5 s h hs => ?_)
   ·unfold C0 at h
    refine wp rfl (qm rfl (qf R2 rfl (ql Ws rfl (AJ Lg rfl (AV rfl (Ab ?_))))))
    refine A8 h (fun h => ?_) fun h => ?_
    ·refine Ai (AN (AH (wq rfl (qf R2 rfl (ql Ws rfl (qm rfl ?_))))))
     refine BD h fun v7 a7 b7 h => qi Lg aG a7 (Af b7) rfl (qk cZ rfl (Mw rfl (by decide) (JP Z0 XX rfl (AX rfl (qa rfl (Ab (wq rfl (qf A6 rfl (ql A1 rfl (qm rfl (Di As Cy I3 rfl ?_)))))))))))
     refine FI h fun c8 h => Ck (f := Ak) As As Cy J8 I3 c8 rfl (qf A6 rfl (qs GZ rfl (Ab (wq rfl (qf FA rfl (ql A1 rfl (qf Y4 rfl (ql Ws rfl (qm rfl ?_)))))))))
     refine BP h fun v9 a9 h => Ax [] (JR N p0.fi v4.2.2.2 v9 a9) cQ rfl (qm rfl ?_)
     refine FI h fun c10 h => Mw rfl c10 (Di As Cy I3 rfl ?_)
     refine FI h fun c11 h => Ck (f := Ak) As As Cy J8 I3 c11 rfl (qf FA rfl (qs GZ rfl (AL (by kernel_rfl) (Ag Av rfl (qf GB rfl (ql A1 rfl (qf Yc rfl (ql Ws rfl (qm rfl ?_)))))))))
     refine BP h fun v12 a12 h => Ax [] (JR N p0.fm v4.2.2.2 v12 a12) cQ rfl (qm rfl ?_)
     refine FI h fun c13 h => Mw rfl c13 (Di As Cy I3 rfl ?_)
     refine FI h fun c14 h => Ck (f := Ak) As As Cy J8 I3 c14 rfl (qf GB rfl (qs GZ rfl (AL (by kernel_rfl) (Ag Av rfl (qm rfl (AX rfl (qe rfl ?_)))))))
     exact sn [(2005, 40), (2006, 51), (2007, 62)] h
    ·refine AS ?_
     exact sn [(2008, 2005), (2009, 2006), (2010, 2007)] h
   ·refine Ae hs (wp rfl (qe rfl ?_))
    refine AE (L := BC N p0 v5) h (fun v15 => mk [(1, oD (.ptr 1 0)), (2, oD (.ptr 2 0)), (4, oD (.ptr 4 0)), (7, iD v15.2)] [(1, .box (CW p0)), (2, .box [.pure (.nil0), .pure (.nil0), .pure (.nil0), .pure (.nil0)]), (4, .box [.own 2014, .own 2015, .own 2016, .own 2017]), (2014, .vec 1 (v5.1.map Ak)), (2015, .vec 1 (v5.2.1.map Ak)), (2016, .vec 1 (v5.2.2.map Ak)), (2017, .vec 6 (v15.1.map AM))]) (fun v16 => mk [(2, oD (.ptr 2 0)), (4, oD (.ptr 4 0))] [(2, .box [.pure (.nil0), .pure (.nil0), .pure (.nil0), .pure (.nil0)]), (4, .box [.own 2018, .own 2019, .own 2020, .own 2021]), (2018, .vec 1 (v5.1.map Ak)), (2019, .vec 1 (v5.2.1.map Ak)), (2020, .vec 1 (v5.2.2.map Ak)), (2021, .vec 6 (v16.map AM))]) (fun _ _ => rfl) ((Aq 4 3 2039 6 _ rfl rfl rfl rfl).trans (sm [(2014, 2008), (2015, 2009), (2016, 2010), (2017, 2039)] _ _ rfl rfl)) (fun j15 n15 v15 h => ?_) (fun v16 s h hs => ?_)
    ·unfold BC at h
     refine AN ?_
     refine AR h (fun v17 => mk [(1, oD (.ptr 1 0)), (2, oD (.ptr 2 0)), (4, oD (.ptr 4 0)), (7, iD v15.2), (74, bD v17)] [(1, .box (CW p0)), (2, .box [.pure (.nil0), .pure (.nil0), .pure (.nil0), .pure (.nil0)]), (4, .box [.own 2022, .own 2023, .own 2024, .own 2025]), (2022, .vec 1 (v5.1.map Ak)), (2023, .vec 1 (v5.2.1.map Ak)), (2024, .vec 1 (v5.2.2.map Ak)), (2025, .vec 6 (v15.1.map AM))]) (fun j17 h => ?_) (fun v17 h => ?_)
     ·refine Ag Av rfl (qm rfl (qf RA rfl (ql af rfl (AJ XD rfl (AV rfl (qm rfl ?_))))))
      refine Ey 69 h rfl (fun h => ?_) fun h => ?_
      ·refine qf A6 rfl (ql A1 rfl (EL As rfl (GM rfl (qp rfl (Ab ?_)))))
       exact sn [(2022, 2014), (2023, 2015), (2024, 2016), (2025, 2017)] h
      ·refine qw 4 rfl (qp rfl (Ab ?_))
       exact sn [(2022, 2014), (2023, 2015), (2024, 2016), (2025, 2017)] h
     ·refine A8 h (fun h => ?_) fun h => ?_
      ·refine Ai (AN (AH (wq rfl (qf RA rfl (ql af rfl (qm rfl ?_))))))
       refine BD h fun v20 a20 b20 h => qi XD WG a20 (Af b20) rfl (qK cR WG rfl (qz cb rfl (qs WG rfl (Ab (wq rfl (qf V4 rfl (ql cZ rfl (Mw rfl (by decide) (JP Z0 XX rfl (AX rfl (qf W4 rfl (ql cZ rfl (JP Z0 XX rfl (qf A6 rfl (ql A1 rfl (EL As rfl ?_))))))))))))))))
       refine FI h fun c21 h => Mw rfl c21 (qf Wa rfl (ql cZ rfl (JP Z0 XX rfl (qf A6 rfl (ql A1 rfl (EL As rfl ?_))))))
       refine FI h fun c22 h => Mw rfl c22 (Bg I7 YP rfl (qz I7 rfl (qs Dl rfl (AL (by kernel_rfl) ?_))))
       refine AR h (fun v23 => mk [(1, oD (.ptr 1 0)), (2, oD (.ptr 2 0)), (4, oD (.ptr 4 0)), (7, iD v15.2), (8, oD (.ptr 8 0)), (9, oD (.ptr 9 0))] [(1, .box (CW p0)), (2, .box [.pure (.nil0), .pure (.nil0), .pure (.nil0), .pure (.nil0)]), (4, .box [.own 2026, .own 2027, .own 2028, .own 2029]), (8, .box (NZ v20)), (9, .box [iC ((wI .i64 (1 + (wI .i64 ((zB7 v20.ff 4)))))), iC ((zB7 ((wI .i64 v20.fg)) ((v5.1.length : Int)))), iC ((zB7 ((wI .i64 v20.fj)) ((v5.1.length : Int)))), .pure (.val (.bool v23)), .pure (.nil0), .pure (.nil0)]), (2026, .vec 1 (v5.1.map Ak)), (2027, .vec 1 (v5.2.1.map Ak)), (2028, .vec 1 (v5.2.2.map Ak)), (2029, .vec 6 (v15.1.map AM))]) (fun j23 h => ?_) (fun v23 h => ?_)
       ·refine Ag Av rfl (qf Wg rfl (ql Sf rfl (qm rfl ?_)))
        refine Ey 104 h rfl (fun h => ?_) fun h => ?_
        ·refine qL G1 Dl rfl ?_
         refine BP h fun v25 a25 h => Ax [] (Co N ((An.mk ((wI .i64 (1 + (wI .i64 ((zB7 v20.ff 4)))))) ((zB7 ((wI .i64 v20.fg)) ((v5.1.length : Int)))) ((zB7 ((wI .i64 v20.fj)) ((v5.1.length : Int)))) false (([] : List (List Bool))) (([] : List (List Bool))))) v25 a25) RC rfl (Cm rfl (qp rfl (qf JB rfl (qs N7 rfl (Ab ?_)))))
         exact sn [(2026, 2022), (2027, 2023), (2028, 2024), (2029, 2025)] h
        ·refine qw 3 rfl (qp rfl (qf JB rfl (qs N7 rfl (Ab ?_))))
         exact sn [(2026, 2022), (2027, 2023), (2028, 2024), (2029, 2025)] h
       ·refine wq rfl (qf A6 rfl (ql A1 rfl (qf Dd rfl (ql BV rfl ?_))))
        refine BD h fun v26 a26 b26 h => qI As Cy a26 (Af b26) rfl (qj BV (Af b26) rfl (qf A6 rfl (ql A1 rfl (qf HK rfl (ql BV rfl ?_)))))
        refine BD h fun v27 a27 b27 h => qI As Cy a27 (Af b27) rfl (qj BV (Af b27) rfl (qf XP rfl (ql bG rfl ?_)))
        refine BP h fun v28 a28 h => Ax [2030] (JS N v26 v27 v20.fw false v28 a28) aW rfl (qf Hl rfl (qs Ya rfl (AL (by kernel_rfl) ?_)))
        refine AR h (fun v29 => mk [(1, oD (.ptr 1 0)), (2, oD (.ptr 2 0)), (4, oD (.ptr 4 0)), (7, iD v15.2), (9, oD (.ptr 9 0))] [(1, .box (CW p0)), (2, .box [.pure (.nil0), .pure (.nil0), .pure (.nil0), .pure (.nil0)]), (4, .box [.own 2031, .own 2032, .own 2033, .own 2034]), (9, .box [iC ((wI .i64 (1 + (wI .i64 ((zB7 v20.ff 4)))))), iC ((zB7 ((wI .i64 v20.fg)) ((v5.1.length : Int)))), iC ((zB7 ((wI .i64 v20.fj)) ((v5.1.length : Int)))), .pure (.val (.bool v23)), .own 2035, .own 2036]), (2031, .vec 1 (v5.1.map Ak)), (2032, .vec 1 (v5.2.1.map Ak)), (2033, .vec 1 (v5.2.2.map Ak)), (2034, .vec 6 (v15.1.map AM)), (2035, .vec 1 (v28.map (EP eB))), (2036, .vec 1 (v29.map (EP eB)))]) (fun j29 h => ?_) (fun v29 h => ?_)
        ·refine wq rfl (qf Gu rfl (ql BV rfl (Cf rfl (Ab ?_))))
         refine A8 h (fun h => ?_) fun h => ?_
         ·refine Ag Av rfl (qf A6 rfl (ql A1 rfl (qf Dd rfl (ql BV rfl ?_))))
          refine BD h fun v31 a31 b31 h => qI As Cy a31 (Af b31) rfl (qj BV (Af b31) rfl (qf A6 rfl (ql A1 rfl (qf Dd rfl (ql BV rfl ?_)))))
          refine BD h fun v32 a32 b32 h => qI As Cy a32 (Af b32) rfl (qj BV (Af b32) rfl (qf W6 rfl (ql bG rfl ?_)))
          refine BP h fun v33 a33 h => Ax [2037] (JS N v31 v32 v20.fy true v33 a33) aW rfl (qf FD rfl (qs Ya rfl (AL (by kernel_rfl) ?_)))
          exact sn [(2031, 2026), (2032, 2027), (2033, 2028), (2034, 2029), (2035, 2030), (2036, 2037)] h
         ·refine Ai ?_
          exact aq _ h ((Aq 9 5 2038 1 _ rfl rfl rfl rfl).trans (sm [(2031, 2026), (2032, 2027), (2033, 2028), (2034, 2029), (2035, 2030), (2036, 2038)] _ _ rfl rfl))
        ·refine Ag Av rfl (qf Cc rfl (ql Hj rfl (qL G1 Dl rfl (CY (A9 2035 _ _ rfl rfl) (CY (A9 2036 _ _ rfl rfl) (Di Dt Dl I7 rfl ?_))))))
         refine FI h fun c34 h => Ck (f := AM) Dt Dt Dl Wv I7 c34 rfl (qf Cc rfl (qs Z8 rfl (Ab (Ag Av rfl (qm rfl (AX rfl (qe rfl ?_)))))))
         exact sn [(2014, 2031), (2015, 2032), (2016, 2033), (2017, 149)] h
      ·refine AS ?_
       exact sn [(2018, 2022), (2019, 2023), (2020, 2024), (2021, 2025)] h
    ·refine Ae hs (wq rfl (qL CU BY rfl (qs BY rfl (qe rfl ?_))))
     obtain rfl := sj h
     refine Ae (sm [(1000, 2018), (1001, 2019), (1002, 2020), (1003, 2021)] [(2, oD (.ptr 2 0)), (3, bD true)] [(2, .box [.own 1000, .own 1001, .own 1002, .own 1003]), (1000, .vec 1 (v5.1.map Ak)), (1001, .vec 1 (v5.2.1.map Ak)), (1002, .vec 1 (v5.2.2.map Ak)), (1003, .vec 6 (v16.map AM))] rfl rfl) (Ar ?_)
     exact ⟨⟨[_, _], ⟨.cellN _ _ _ _ _ _ _ rfl rfl CU BY rfl rfl (Jo rfl), tm⟩, rfl⟩, ⟨rfl, rfl, rfl, rfl, tv⟩⟩
theorem IR (N : Nat) (p0 : List (List Bool)) (p1 : Int) (p2 : Int) (r : Bool) (h : DO N p0 p1 p2 = some r) : Ao zA0 98 [pD (.sl (p0.map (EP eB))), iD p1, iD p2] [] (bD r) := by
 unfold DO at h
 refine cw (n := 24) (rs := [.tmp 6]) Tryz.func98 fun w0 S0 => ?_
 refine wq rfl (qa rfl (Ab (wp rfl (qm rfl (AJ EC rfl (qm rfl (Bp rfl (Ab ?_))))))))
 refine A8 h (fun h => ?_) fun h => ?_
 ·refine wq rfl (qe rfl ?_)
  obtain rfl := sj h
  refine Ae (sm [] [(6, bD false)] [] rfl rfl) (Ar ?_)
  exact ⟨⟨[_], tm, rfl⟩, tv⟩
 ·refine Ai (wp rfl (qe rfl ?_))
  refine AE (L := CC N p0 p1 p2) h (fun v2 => mk [(0, pD (.sl (p0.map (EP eB)))), (1, iD p1), (2, iD p2), (7, iD v2)] []) (fun v3 => mk [] []) (fun _ _ => rfl) (sm [] _ _ rfl rfl) (fun j2 n2 v2 h => ?_) (fun v3 s h hs => ?_)
  ·unfold CC at h
   refine wp rfl (qw 2 rfl (AV rfl (Ab ?_)))
   refine A8 h (fun h => ?_) fun h => ?_
   ·refine Ai (AN (AH (wq rfl (qw 2 rfl ?_))))
    refine BD h fun v5 a5 b5 h => qi EC JJ a5 (Af b5) rfl (qk OI rfl (AJ EN rfl (qm rfl (Bp rfl (Ab ?_)))))
    refine A8 h (fun h => ?_) fun h => ?_
    ·refine wq rfl (qe rfl ?_)
     obtain rfl := sj h
     refine Ae (sm [] [(6, bD false)] [] rfl rfl) (Ar ?_)
     exact ⟨⟨[_], tm, rfl⟩, tv⟩
    ·refine Ai (Ag Av rfl (qm rfl (AX rfl (qe rfl ?_))))
     exact sn [] h
   ·refine AS ?_
    exact sn [] h
  ·refine Ae hs (wq rfl (qe rfl ?_))
   obtain rfl := sj h
   refine Ae (sm [] [(6, bD true)] [] rfl rfl) (Ar ?_)
   exact ⟨⟨[_], tm, rfl⟩, tv⟩
theorem Mi (N : Nat) (p0 : Aa) (p1 : An) (r : Int) (h : E9 N p0 p1 = some r) : Ao zA0 64 [.e (.agg (Ah p0)), .e (.agg (Ba p1))] [] (iD r) := by
 unfold E9 at h
 refine cw (n := 101) (rs := [.tmp 4]) Tryz.func64 fun w0 S0 => ?_
 refine wq rfl (qb rfl (qb rfl (qa rfl (Ab (AN ?_)))))
 refine AR h (fun v1 => mk [(2, oD (.ptr 2 0)), (3, oD (.ptr 3 0)), (22, bD v1)] [(2, .box (Ah p0)), (3, .box (Ba p1))]) (fun j1 h => ?_) (fun v1 h => ?_)
 ·refine Ag Av rfl (qf Gu rfl (ql BV rfl (AV rfl (qm rfl ?_))))
  refine Ey 10 h rfl (fun h => ?_) fun h => ?_
  ·refine qw 3 rfl (qp rfl (qw 4 rfl (qu rfl (qu rfl (qn rfl (qp rfl (Ab ?_)))))))
   exact sn [] h
  ·refine qf Gu rfl (ql BV rfl (GM rfl (qp rfl (qm rfl ?_))))
   refine Ey 15 h rfl (fun h => ?_) fun h => ?_
   ·refine qw 3 rfl (qu rfl (qu rfl (qn rfl (qp rfl (Ab ?_)))))
    exact sn [] h
   ·refine qf JB rfl (ql Sf rfl (qm rfl ?_))
    refine Ey 18 h rfl (fun h => ?_) fun h => ?_
    ·refine qL G1 Dl rfl ?_
     refine BP h fun v5 a5 h => Ax [] (Co N p1 v5 a5) RC rfl (qp rfl (qp rfl (Ab ?_)))
     exact sn [] h
    ·refine qw 2 rfl (qp rfl (qp rfl (Ab ?_)))
     exact sn [] h
 ·refine A8 h (fun h => ?_) fun h => ?_
  ·refine wq rfl (qe rfl ?_)
   obtain rfl := sj h
   refine Ae (sm [] [(4, iD 1)] [] rfl rfl) (Ar ?_)
   exact ⟨⟨[_], tm, rfl⟩, tv⟩
  ·refine Ai (wq rfl (qf A6 rfl (ql A1 rfl (AJ As rfl (qa rfl (Ab (AN ?_)))))))
   refine AR h (fun v7 => mk [(2, oD (.ptr 2 0)), (3, oD (.ptr 3 0)), (45, bD v7)] [(2, .box (Ah p0)), (3, .box (Ba p1))]) (fun j7 h => ?_) (fun v7 h => ?_)
   ·refine Ag Av rfl (qf Dd rfl (ql BV rfl (AV rfl (qm rfl ?_))))
    refine Ey 29 h rfl (fun h => ?_) fun h => ?_
    ·refine qw 4 rfl (qp rfl (qw 4 rfl (qp rfl (qw 5 rfl (qp rfl (Ab ?_))))))
     exact sn [] h
    ·refine qf Dd rfl (ql BV rfl (qm rfl (EE rfl (qp rfl (qm rfl ?_)))))
     refine Ey 35 h rfl (fun h => ?_) fun h => ?_
     ·refine qw 3 rfl (qp rfl (qw 5 rfl (qp rfl (Ab ?_))))
      exact sn [] h
     ·refine qf HK rfl (ql BV rfl (AV rfl (qp rfl (qm rfl ?_))))
      refine Ey 40 h rfl (fun h => ?_) fun h => ?_
      ·refine qw 4 rfl (qp rfl (Ab ?_))
       exact sn [] h
      ·refine qf HK rfl (ql BV rfl (qm rfl (EE rfl (qp rfl (Ab ?_)))))
       exact sn [] h
   ·refine A8 h (fun h => ?_) fun h => ?_
    ·refine wq rfl (qe rfl ?_)
     obtain rfl := sj h
     refine Ae (sm [] [(4, iD 4)] [] rfl rfl) (Ar ?_)
     exact ⟨⟨[_], tm, rfl⟩, tv⟩
    ·refine Ai (wp rfl (qf Hl rfl (ql IG rfl (qf A6 rfl (ql A1 rfl (qf Dd rfl (ql BV rfl ?_)))))))
     refine BD h fun v12 a12 b12 h => qi As Cy a12 (Af b12) rfl (qk BV rfl (qf A6 rfl (ql A1 rfl (qf HK rfl (ql BV rfl ?_)))))
     refine BD h fun v13 a13 b13 h => qi As Cy a13 (Af b13) rfl (qk BV rfl ?_)
     refine BP h fun v14 a14 h => Ax [] (IR N p1.fq v12 v13 v14 a14) bf rfl (Cm rfl (AL (by kernel_rfl) ?_))
     refine A8 h (fun h => ?_) fun h => ?_
     ·refine wq rfl (qe rfl ?_)
      obtain rfl := sj h
      refine Ae (sm [] [(4, iD 6)] [] rfl rfl) (Ar ?_)
      exact ⟨⟨[_], tm, rfl⟩, tv⟩
     ·refine Ai (wp rfl (qf Gu rfl (ql BV rfl (Bp rfl (Ab ?_)))))
      refine A8 h (fun h => ?_) fun h => ?_
      ·refine wp rfl (qf FD rfl (ql IG rfl (AJ EC rfl (Bp rfl (Ab ?_)))))
       refine A8 h (fun h => ?_) fun h => ?_
       ·refine wq rfl (qe rfl ?_)
        obtain rfl := sj h
        refine Ae (sm [] [(4, iD 6)] [] rfl rfl) (Ar ?_)
        exact ⟨⟨[_], tm, rfl⟩, tv⟩
       ·refine Ai (wq rfl (qe rfl ?_))
        obtain rfl := sj h
        refine Ae (sm [] [(4, iD 0)] [] rfl rfl) (Ar ?_)
        exact ⟨⟨[_], tm, rfl⟩, tv⟩
      ·refine Ai (wp rfl (qf FD rfl (ql IG rfl (qf A6 rfl (ql A1 rfl (qf Dd rfl (ql BV rfl ?_)))))))
       refine BD h fun v18 a18 b18 h => qi As Cy a18 (Af b18) rfl (qk BV rfl (qf A6 rfl (ql A1 rfl (qf Dd rfl (ql BV rfl ?_)))))
       refine BD h fun v19 a19 b19 h => qi As Cy a19 (Af b19) rfl (qk BV rfl ?_)
       refine BP h fun v20 a20 h => Ax [] (IR N p1.fk v18 v19 v20 a20) bf rfl (Cm rfl (AL (by kernel_rfl) ?_))
       refine A8 h (fun h => ?_) fun h => ?_
       ·refine wq rfl (qe rfl ?_)
        obtain rfl := sj h
        refine Ae (sm [] [(4, iD 6)] [] rfl rfl) (Ar ?_)
        exact ⟨⟨[_], tm, rfl⟩, tv⟩
       ·refine Ai (wp rfl (qe rfl ?_))
        refine AE (L := B7 N p1) h (fun v22 => mk [(3, oD (.ptr 3 0)), (6, iD v22)] [(3, .box (Ba p1))]) (fun v23 => mk [] []) (fun _ _ => rfl) (sm [] _ _ rfl rfl) (fun j22 n22 v22 h => ?_) (fun v23 s h hs => ?_)
        ·unfold B7 at h
         refine wp rfl (qm rfl (qf FD rfl (ql IG rfl (AJ EC rfl (AV rfl (Ab ?_))))))
         refine A8 h (fun h => ?_) fun h => ?_
         ·refine Ai (AN (AH (wq rfl (qf FD rfl (ql IG rfl (qm rfl ?_))))))
          refine BD h fun v25 a25 b25 h => qi EC JJ a25 (Af b25) rfl (qk OI rfl (qm rfl ?_))
          refine BD h fun v26 a26 b26 h => qi EN N7 a26 (Af b26) rfl (qk Sf rfl (Cm rfl (Ab ?_)))
          refine A8 h (fun h => ?_) fun h => ?_
          ·refine wq rfl (qe rfl ?_)
           obtain rfl := sj h
           refine Ae (sm [] [(4, iD 1)] [] rfl rfl) (Ar ?_)
           exact ⟨⟨[_], tm, rfl⟩, tv⟩
          ·refine Ai (Ag Av rfl (qm rfl (AX rfl (qe rfl ?_))))
           exact sn [] h
         ·refine AS ?_
          exact sn [] h
        ·refine Ae hs (wq rfl (qe rfl ?_))
         obtain rfl := sj h
         refine Ae (sm [] [(4, iD 0)] [] rfl rfl) (Ar ?_)
         exact ⟨⟨[_], tm, rfl⟩, tv⟩
theorem Dr (N : Nat) (p0 : Aa) (r : Int) (h : Bn N p0 = some r) : Ao zA0 33 [.e (.agg (Ah p0))] [] (iD r) := by
 unfold Bn at h
 refine cw (n := 102) (rs := [.tmp 2]) Tryz.func33 fun w0 S0 => ?_
 refine wq rfl (qb rfl (qa rfl (Ab (AN ?_))))
 refine AR h (fun v1 => mk [(1, oD (.ptr 1 0)), (16, bD v1)] [(1, .box (Ah p0))]) (fun j1 h => ?_) (fun v1 h => ?_)
 ·refine Ag Av rfl (qf A6 rfl (ql A1 rfl (AJ As rfl (GM rfl (qm rfl ?_)))))
  refine Ey 11 h rfl (fun h => ?_) fun h => ?_
  ·refine qw 4 rfl (qp rfl (Ab ?_))
   exact sn [] h
  ·refine qf Cc rfl (ql Hj rfl (AJ Dt rfl (GM rfl (qp rfl (Ab ?_)))))
   exact sn [] h
 ·refine A8 h (fun h => ?_) fun h => ?_
  ·refine wq rfl (qe rfl ?_)
   obtain rfl := sj h
   refine Ae (sm [] [(2, iD 3)] [] rfl rfl) (Ar ?_)
   exact ⟨⟨[_], tm, rfl⟩, tv⟩
  ·refine Ai (AN ?_)
   refine AR h (fun v4 => mk [(1, oD (.ptr 1 0)), (32, bD v4)] [(1, .box (Ah p0))]) (fun j4 h => ?_) (fun v4 h => ?_)
   ·refine Ag Av rfl (qf FA rfl (ql A1 rfl (AJ As rfl (qf A6 rfl (ql A1 rfl (AJ As rfl (Bp rfl (qm rfl ?_))))))))
    refine Ey 24 h rfl (fun h => ?_) fun h => ?_
    ·refine qw 7 rfl (qp rfl (Ab ?_))
     exact sn [] h
    ·refine qf GB rfl (ql A1 rfl (AJ As rfl (qf A6 rfl (ql A1 rfl (AJ As rfl (Bp rfl (qp rfl (Ab ?_))))))))
     exact sn [] h
   ·refine A8 h (fun h => ?_) fun h => ?_
    ·refine wq rfl (qe rfl ?_)
     obtain rfl := sj h
     refine Ae (sm [] [(2, iD 6)] [] rfl rfl) (Ar ?_)
     exact ⟨⟨[_], tm, rfl⟩, tv⟩
    ·refine Ai (wp rfl (qe rfl ?_))
     refine AE (L := Bk N p0) h (fun v7 => mk [(1, oD (.ptr 1 0)), (3, iD v7)] [(1, .box (Ah p0))]) (fun v8 => mk [(1, oD (.ptr 1 0))] [(1, .box (Ah p0))]) (fun _ _ => rfl) (sm [] _ _ rfl rfl) (fun j7 n7 v7 h => ?_) (fun v8 s h hs => ?_)
     ·unfold Bk at h
      refine wp rfl (qm rfl (qf A6 rfl (ql A1 rfl (AJ As rfl (AV rfl (Ab ?_))))))
      refine A8 h (fun h => ?_) fun h => ?_
      ·refine Ai (AN (AH (wq rfl (qf A6 rfl (ql A1 rfl (qm rfl ?_))))))
       refine BD h fun v10 a10 b10 h => qi As Cy a10 (Af b10) rfl (qk BV rfl (qe rfl ?_))
       refine AR h (fun v11 => mk [(1, oD (.ptr 1 0)), (3, iD v7), (84, bD v11)] [(1, .box (Ah p0))]) (fun j11 h => ?_) (fun v11 h => ?_)
       ·refine Ag Av rfl (qm rfl (AV rfl (qm rfl ?_)))
        refine Ey 47 h rfl (fun h => ?_) fun h => ?_
        ·refine qw 2 rfl (qp rfl (qw 7 rfl (qp rfl (qw 8 rfl (qp rfl (qw 7 rfl (qp rfl (qw 8 rfl (qp rfl (Ab ?_))))))))))
         exact sn [] h
        ·refine qm rfl (GM rfl (qp rfl (qm rfl ?_)))
         refine Ey 51 h rfl (fun h => ?_) fun h => ?_
         ·refine qw 6 rfl (qp rfl (qw 8 rfl (qp rfl (qw 7 rfl (qp rfl (qw 8 rfl (qp rfl (Ab ?_))))))))
          exact sn [] h
         ·refine qf FA rfl (ql A1 rfl (qm rfl ?_))
          refine BD h fun v14 a14 b14 h => qi As Cy a14 (Af b14) rfl (qk BV rfl (AV rfl (qp rfl (qm rfl ?_))))
          refine Ey 59 h rfl (fun h => ?_) fun h => ?_
          ·refine qw 7 rfl (qp rfl (qw 7 rfl (qp rfl (qw 8 rfl (qp rfl (Ab ?_))))))
           exact sn [] h
          ·refine qf FA rfl (ql A1 rfl (qm rfl ?_))
           refine BD h fun v16 a16 b16 h => qi As Cy a16 (Af b16) rfl (qk BV rfl (qm rfl (EE rfl (qp rfl (qm rfl ?_)))))
           refine Ey 68 h rfl (fun h => ?_) fun h => ?_
           ·refine qw 6 rfl (qp rfl (qw 8 rfl (qp rfl (Ab ?_))))
            exact sn [] h
           ·refine qf GB rfl (ql A1 rfl (qm rfl ?_))
            refine BD h fun v18 a18 b18 h => qi As Cy a18 (Af b18) rfl (qk BV rfl (AV rfl (qp rfl (qm rfl ?_))))
            refine Ey 76 h rfl (fun h => ?_) fun h => ?_
            ·refine qw 7 rfl (qp rfl (Ab ?_))
             exact sn [] h
            ·refine qf GB rfl (ql A1 rfl (qm rfl ?_))
             refine BD h fun v20 a20 b20 h => qi As Cy a20 (Af b20) rfl (qk BV rfl (qm rfl (EE rfl (qp rfl (Ab ?_)))))
             exact sn [] h
       ·refine A8 h (fun h => ?_) fun h => ?_
        ·refine wq rfl (qe rfl ?_)
         obtain rfl := sj h
         refine Ae (sm [] [(2, iD 7)] [] rfl rfl) (Ar ?_)
         exact ⟨⟨[_], tm, rfl⟩, tv⟩
        ·refine Ai (Ag Av rfl (qm rfl (AX rfl (qe rfl ?_))))
         exact sn [] h
      ·refine AS ?_
       exact sn [] h
     ·refine Ae hs (wp rfl (qe rfl ?_))
      refine AE (L := Be N p0) h (fun v22 => mk [(1, oD (.ptr 1 0)), (5, iD v22)] [(1, .box (Ah p0))]) (fun v23 => mk [] []) (fun _ _ => rfl) (sm [] _ _ rfl rfl) (fun j22 n22 v22 h => ?_) (fun v23 s h hs => ?_)
      ·unfold Be at h
       refine wp rfl (qm rfl (qf Cc rfl (ql Hj rfl (AJ Dt rfl (AV rfl (Ab ?_))))))
       refine A8 h (fun h => ?_) fun h => ?_
       ·refine Ai (AN (AH (wq rfl (qL CU BY rfl (qf Cc rfl (ql Hj rfl (qm rfl ?_)))))))
        refine BD h fun v25 a25 b25 h => qi Dt Dl a25 (Af b25) rfl (qK G1 Dl rfl ?_)
        refine BP h fun v26 a26 h => Ax [] (Mi N p0 v25 v26 a26) dH rfl (qa rfl (AL (by kernel_rfl) (wq rfl (qm rfl (Bp rfl (Ab ?_))))))
        refine A8 h (fun h => ?_) fun h => ?_
        ·refine wq rfl (qm rfl (qe rfl ?_))
         obtain rfl := sj h
         refine Ae (sm [] [(2, iD v26)] [] rfl rfl) (Ar ?_)
         exact ⟨⟨[_], tm, rfl⟩, tv⟩
        ·refine Ai (Ag Av rfl (qm rfl (AX rfl (qe rfl ?_))))
         exact sn [] h
       ·refine AS ?_
        exact sn [] h
      ·refine Ae hs (wq rfl (qe rfl ?_))
       obtain rfl := sj h
       refine Ae (sm [] [(2, iD 0)] [] rfl rfl) (Ar ?_)
       exact ⟨⟨[_], tm, rfl⟩, tv⟩
theorem NA (N : Nat) (p0 : Int) (r : (List Int)) (h : HN N p0 = some r) : Ao zA0 55 [iD p0] [(1, r.map Ak)] (oD (.own 0)) := by
 unfold HN at h
 refine cw (n := 21) (rs := [.tmp 2]) Tryz.func55 fun w0 S0 => ?_
 refine wq rfl (qa rfl (Ab (wq rfl (qa rfl (Ab (wp rfl (qe rfl ?_)))))))
 refine AE (L := Fz N p0) h (fun v1 => mk [(0, iD p0), (3, oD (.own 2001)), (4, iD v1.2)] [(2001, .vec 1 (v1.1.map Ak))]) (fun v2 => mk [(3, oD (.own 2002))] [(2002, .vec 1 (v2.map Ak))]) (fun _ _ => rfl) ((AU 3 2004 1 rfl rfl rfl).trans (sm [(2001, 2004)] _ _ rfl rfl)) (fun j1 n1 v1 h => ?_) (fun v2 s h hs => ?_)
 ·unfold Fz at h
  refine wp rfl (qw 2 rfl ?_)
  refine FI h fun c3 h => GU rfl c3 (GM rfl (Ab ?_))
  refine A8 h (fun h => ?_) fun h => ?_
  ·refine Ai ?_
   refine AR h (fun v5 => mk [(0, iD p0), (3, oD (.own 2003)), (4, iD v1.2)] [(2003, .vec 1 (v5.map Ak))]) (fun j5 h => ?_) (fun v5 h => ?_)
   ·refine AH (wq rfl (qw 2 rfl ?_))
    refine FI h fun c6 h => GU rfl c6 (Mw rfl (by decide) (Cf rfl (Ab ?_)))
    refine A8 h (fun h => ?_) fun h => ?_
    ·refine Ag Av rfl (qw 2 rfl (Di As Cy I3 rfl ?_))
     refine FI h fun c8 h => Ck (f := Ak) As As Cy J8 I3 c8 rfl (qe rfl ?_)
     exact sn [(2003, 19)] h
    ·refine Ai ?_
     exact sn [(2003, 2001)] h
   ·refine Ag Av rfl (qm rfl (AX rfl (qe rfl ?_)))
    exact sn [(2001, 2003)] h
  ·refine AS ?_
   exact sn [(2002, 2001)] h
 ·refine Ae hs (wq rfl (qm rfl (qe rfl ?_)))
  obtain rfl := sj h
  refine Ae (sm [(1000, 2002)] [(2, oD (.own 1000))] [(1000, .vec 1 (v2.map Ak))] rfl rfl) (Ar ?_)
  exact ⟨⟨[_], tm, rfl⟩, ⟨rfl, tv⟩⟩
theorem Lr (N : Nat) (p0 : List Int) (p1 : List Int) (r : Bool) (h : GQ N p0 p1 = some r) : Ao zA0 56 [pD (.sl (p0.map Ak)), pD (.sl (p1.map Ak))] [] (bD r) := by
 unfold GQ at h
 refine cw (n := 40) (rs := [.tmp 4]) Tryz.func56 fun w0 S0 => ?_
 refine wq rfl (qa rfl (Ab (wp rfl (qm rfl (AJ As rfl (qm rfl (AJ As rfl (Bp rfl (Ab ?_)))))))))
 refine A8 h (fun h => ?_) fun h => ?_
 ·refine wq rfl (qm rfl (AJ As rfl (qm rfl (AJ As rfl (AV rfl (qe rfl ?_))))))
  obtain rfl := sj h
  refine Ae (sm [] [(4, bD ((decide ((p0.length : Int) < (p1.length : Int)))))] [] rfl rfl) (Ar ?_)
  exact ⟨⟨[_], tm, rfl⟩, tv⟩
 ·refine Ai (wp rfl (qe rfl ?_))
  refine AE (L := ET N p0 p1) h (fun v2 => mk [(0, pD (.sl (p0.map Ak))), (1, pD (.sl (p1.map Ak))), (5, iD v2)] []) (fun v3 => mk [] []) (fun _ _ => rfl) (sm [] _ _ rfl rfl) (fun j2 n2 v2 h => ?_) (fun v3 s h hs => ?_)
  ·unfold ET at h
   refine wp rfl (qw 2 rfl (AJ As rfl (AV rfl (Ab ?_))))
   refine A8 h (fun h => ?_) fun h => ?_
   ·refine Ai (AN (AH (wq rfl (qw 2 rfl ?_))))
    refine BD h fun v5 a5 b5 h => qi As Cy a5 (Af b5) rfl (qk BV rfl (qw 2 rfl ?_))
    refine BD h fun v6 a6 b6 h => qi As Cy a6 (Af b6) rfl (qk BV rfl (Bp rfl (AL (by kernel_rfl) ?_)))
    refine A8 h (fun h => ?_) fun h => ?_
    ·refine wq rfl (qw 2 rfl ?_)
     refine BD h fun v8 a8 b8 h => qi As Cy a8 (Af b8) rfl (qk BV rfl (qw 2 rfl ?_))
     refine BD h fun v9 a9 b9 h => qi As Cy a9 (Af b9) rfl (qk BV rfl (AV rfl (qa rfl (AL (by kernel_rfl) ?_))))
     obtain rfl := sj h
     refine Ae (sm [] [(4, bD ((decide (v8 < v9))))] [] rfl rfl) (Ar ?_)
     exact ⟨⟨[_], tm, rfl⟩, tv⟩
    ·refine Ai (Ag Av rfl (qm rfl (AX rfl (qe rfl ?_))))
     exact sn [] h
   ·refine AS ?_
    exact sn [] h
  ·refine Ae hs (wq rfl (qe rfl ?_))
   obtain rfl := sj h
   refine Ae (sm [] [(4, bD false)] [] rfl rfl) (Ar ?_)
   exact ⟨⟨[_], tm, rfl⟩, tv⟩
theorem J5 (N : Nat) (p0 : Int) (r : (List (List Int))) (h : CJ N p0 = some r) : Ao zA0 30 [iD p0] [(1, r.map (EP Ak))] (oD (.own 0)) := by
 unfold CJ at h
 refine cw (n := 53) (rs := [.tmp 2]) Tryz.func30 fun w0 S0 => ?_
 refine wq rfl (qa rfl (Ab (wq rfl (qa rfl (Ab (wp rfl (qe rfl ?_)))))))
 refine AE (L := Fn N p0) h (fun v1 => mk [(0, iD p0), (3, oD (.own 2001)), (4, iD v1.2)] [(2001, .vec 1 (v1.1.map (EP Ak)))]) (fun v2 => mk [(3, oD (.own 2002))] [(2002, .vec 1 (v2.map (EP Ak)))]) (fun _ _ => rfl) ((AU 3 2007 1 rfl rfl rfl).trans (sm [(2001, 2007)] _ _ rfl rfl)) (fun j1 n1 v1 h => ?_) (fun v2 s h hs => ?_)
 ·unfold Fn at h
  refine wp rfl (qw 2 rfl ?_)
  refine FI h fun c3 h => Jj rfl c3 (AV rfl (Ab ?_))
  refine A8 h (fun h => ?_) fun h => ?_
  ·refine Ai (AN (AH (wq rfl (qw 2 rfl ?_))))
   refine BP h fun v5 a5 h => Ax [2003] (NA N v1.2 v5 a5) dB rfl (CY (A9 2003 _ _ rfl rfl) (Di Fq GZ Tg rfl ?_))
   refine FI h fun c6 h => Ck (f := (EP Ak)) Fq Fq GZ Xt Tg c6 rfl (qa rfl (Ab (wq rfl (qm rfl (EL Fq rfl (Kh rfl (qe rfl ?_)))))))
   refine AE (L := Fl N) h (fun v7 => mk [(0, iD p0), (3, oD (.own 2004)), (4, iD v1.2), (5, iD v7.2)] [(2004, .vec 1 (v7.1.map (EP Ak)))]) (fun v8 => mk [(0, iD p0), (3, oD (.own 2005)), (4, iD v1.2)] [(2005, .vec 1 (v8.map (EP Ak)))]) (fun _ _ => rfl) (sm [(2004, 16)] _ _ rfl rfl) (fun j7 n7 v7 h => ?_) (fun v8 s h hs => ?_)
   ·unfold Fl at h
    refine AN ?_
    refine AR h (fun v9 => mk [(0, iD p0), (3, oD (.own 2006)), (4, iD v1.2), (5, iD v7.2), (33, bD v9)] [(2006, .vec 1 (v7.1.map (EP Ak)))]) (fun j9 h => ?_) (fun v9 h => ?_)
    ·refine Ag Av rfl (qm rfl (GM rfl (qm rfl ?_)))
     refine Ey 22 h rfl (fun h => ?_) fun h => ?_
     ·refine qw 2 rfl ?_
      refine BD h fun v11 a11 b11 h => qI Fq GZ a11 (Af b11) rfl (qj A1 (Af b11) rfl (qw 2 rfl (Kh rfl ?_)))
      refine BD h fun v12 a12 b12 h => qI Fq GZ a12 (Af b12) rfl (qj A1 (Af b12) rfl ?_)
      refine BP h fun v13 a13 h => Ax [] (Lr N v11 v12 v13 a13) eJ rfl (qp rfl (AL (by kernel_rfl) ?_))
      exact sn [(2006, 2004)] h
     ·refine qw 10 rfl (qp rfl (AL (by kernel_rfl) ?_))
      exact sn [(2006, 2004)] h
    ·refine A8 h (fun h => ?_) fun h => ?_
     ·refine Ai (AN (AH (Ag Av rfl (qw 4 rfl (Kh rfl (qw 2 rfl (Kh rfl ?_)))))))
      refine BD h fun v15 a15 b15 h => qI Fq GZ a15 (Af b15) rfl (qj A1 (Af b15) rfl (qw 2 rfl ?_))
      refine BD h fun v16 a16 b16 h => qI Fq GZ a16 (Af b16) rfl (qj A1 (Af b16) rfl ?_)
      refine BD h fun v17 a17 b17 h => qI Fq GZ a17 (Af b17) rfl ?_
      refine DG rfl rfl rfl rfl (Af b17) rfl GZ rfl (Jc rfl) (Dy (EP Ak) v7.1 _ v15) ?_
      refine BD h fun v18 a18 b18 h => qI Fq GZ a18 (Af b18) rfl ?_
      refine DG rfl rfl rfl rfl (Af b18) rfl GZ rfl (Jc rfl) (Dy (EP Ak) (v7.1.set ((v7.2).toNat) v15) _ v16) ?_
      refine AL (by kernel_rfl) (Ag Av rfl (qm rfl (Kh rfl (qe rfl ?_))))
      exact sn [(2004, 2006)] h
     ·refine AS ?_
      exact sn [(2005, 2006)] h
   ·refine Ae hs (Ag Av rfl (qm rfl (AX rfl (qe rfl ?_))))
    exact sn [(2001, 2005)] h
  ·refine AS ?_
   exact sn [(2002, 2001)] h
 ·refine Ae hs (wq rfl (qm rfl (qe rfl ?_)))
  obtain rfl := sj h
  refine Ae (sm [(1000, 2002)] [(2, oD (.own 1000))] [(1000, .vec 1 (v2.map (EP Ak)))] rfl rfl) (Ar ?_)
  exact ⟨⟨[_], tm, rfl⟩, ⟨rfl, tv⟩⟩
theorem Jk (N : Nat) (p0 : List Int) (p1 : Int) (r : Int) (h : D8 N p0 p1 = some r) : Ao zA0 57 [pD (.sl (p0.map Ak)), iD p1] [] (iD r) := by
 unfold D8 at h
 refine cw (n := 19) (rs := [.tmp 4]) Tryz.func57 fun w0 S0 => ?_
 refine wq rfl (qa rfl (Ab (wp rfl (qe rfl ?_))))
 refine AE (L := Cd N p0 p1) h (fun v1 => mk [(0, pD (.sl (p0.map Ak))), (1, iD p1), (5, iD v1)] []) (fun v2 => mk [] []) (fun _ _ => rfl) (sm [] _ _ rfl rfl) (fun j1 n1 v1 h => ?_) (fun v2 s h hs => ?_)
 ·unfold Cd at h
  refine wp rfl (qw 2 rfl (AJ As rfl (AV rfl (Ab ?_))))
  refine A8 h (fun h => ?_) fun h => ?_
  ·refine Ai (AN (AH (wq rfl (qw 2 rfl ?_))))
   refine BD h fun v4 a4 b4 h => qi As Cy a4 (Af b4) rfl (qk BV rfl (qm rfl (Cf rfl (Ab ?_))))
   refine A8 h (fun h => ?_) fun h => ?_
   ·refine wq rfl (qm rfl (qe rfl ?_))
    obtain rfl := sj h
    refine Ae (sm [] [(4, iD v1)] [] rfl rfl) (Ar ?_)
    exact ⟨⟨[_], tm, rfl⟩, tv⟩
   ·refine Ai (Ag Av rfl (qm rfl (AX rfl (qe rfl ?_))))
    exact sn [] h
  ·refine AS ?_
   exact sn [] h
 ·refine Ae hs (wq rfl (qe rfl ?_))
  obtain rfl := sj h
  refine Ae (sm [] [(4, iD ((-1)))] [] rfl rfl) (Ar ?_)
  exact ⟨⟨[_], tm, rfl⟩, tv⟩
theorem IS (N : Nat) (p0 : List (List Bool)) (r : (List (List Bool))) (h : DR N p0 = some r) : Ao zA0 92 [pD (.sl (p0.map (EP eB)))] [(1, r.map (EP eB))] (oD (.own 0)) := by
 unfold DR at h
 refine cw (n := 21) (rs := [.tmp 2]) Tryz.func92 fun w0 S0 => ?_
 refine wq rfl (qa rfl (Ab (wq rfl (qa rfl (Ab (wp rfl (qe rfl ?_)))))))
 refine AE (L := CA N p0) h (fun v1 => mk [(0, pD (.sl (p0.map (EP eB)))), (3, oD (.own 2001)), (4, iD v1.2)] [(2001, .vec 1 (v1.1.map (EP eB)))]) (fun v2 => mk [(3, oD (.own 2002))] [(2002, .vec 1 (v2.map (EP eB)))]) (fun _ _ => rfl) ((AU 3 2003 1 rfl rfl rfl).trans (sm [(2001, 2003)] _ _ rfl rfl)) (fun j1 n1 v1 h => ?_) (fun v2 s h hs => ?_)
 ·unfold CA at h
  refine wp rfl (qw 2 rfl (AJ EC rfl (AV rfl (Ab ?_))))
  refine A8 h (fun h => ?_) fun h => ?_
  ·refine Ai (AN (AH (Ag Av rfl (qm rfl (Di EN N7 Sd rfl (qw 2 rfl ?_))))))
   refine BD h fun v4 a4 b4 h => qi EC JJ a4 (Af b4) rfl (qk OI rfl ?_)
   refine FI h fun c5 h => I4 (f := eB) EN EN N7 VV Sd (fun _ => rfl) c5 rfl (CY (A9 17 _ _ rfl rfl) (Di EC JJ Uh rfl ?_))
   refine FI h fun c6 h => Ck (f := (EP eB)) EC EC JJ WJ Uh c6 rfl (qa rfl (Ab (Ag Av rfl (qm rfl (AX rfl (qe rfl ?_))))))
   exact sn [(2001, 19)] h
  ·refine AS ?_
   exact sn [(2002, 2001)] h
 ·refine Ae hs (wq rfl (qm rfl (qe rfl ?_)))
  obtain rfl := sj h
  refine Ae (sm [(1000, 2002)] [(2, oD (.own 1000))] [(1000, .vec 1 (v2.map (EP eB)))] rfl rfl) (Ar ?_)
  exact ⟨⟨[_], tm, rfl⟩, ⟨rfl, tv⟩⟩
theorem Ls (N : Nat) (p0 : An) (p1 : Int) (p2 : Int) (r : An) (h : FE N p0 p1 p2 = some r) : Ao zA0 58 [.e (.agg (Ba p0)), iD p1, iD p2] [(1, r.fq.map (EP eB)), (1, r.fk.map (EP eB))] (.e (.agg [iC r.ff, iC r.fg, iC r.fj, .pure (.val (.bool r.fr)), .own 0, .own 1])) := by
 unfold FE at h
 refine cw (n := 20) (rs := [.cell 6 84]) Tryz.func58 fun w0 S0 => ?_
 refine wq rfl (qb rfl (qz I7 rfl (Ab (wq rfl (qf Gu rfl (ql BV rfl (qw 2 rfl (qf JB rfl (ql Sf rfl (qf Hl rfl (ql IG rfl ?_)))))))))))
 refine BP h fun v1 a1 h => Ax [2001] (IS N p0.fq v1 a1) cG rfl (qf FD rfl (ql IG rfl ?_))
 refine BP h fun v2 a2 h => Ax [2002] (IS N p0.fk v2 a2) cG rfl (Bg I7 YP rfl (qs Dl rfl (AL (by kernel_rfl) ?_)))
 obtain rfl := sj h
 refine Ae (sm [(1000, 2001), (1001, 2002)] [(6, oD (.ptr 6 0))] [(6, .box [iC p0.ff, iC p1, iC p2, .pure (.val (.bool p0.fr)), .own 1000, .own 1001]), (1000, .vec 1 (v1.map (EP eB))), (1001, .vec 1 (v2.map (EP eB)))] rfl rfl) (Ar ?_)
 exact ⟨⟨[_], ⟨.cellN _ _ _ _ _ _ _ rfl rfl G1 Dl rfl rfl (Jo rfl), tv⟩, rfl⟩, ⟨rfl, rfl, tv⟩⟩
theorem Ip (N : Nat) (p0 : Aa) (p1 : List Int) (r : Aa × Int) (h : Dp N p0 p1 = some r) : Ao zA0 31 [.e (.agg (Ah p0)), pD (.sl (p1.map Ak))] [(1, r.1.fa.map Ak), (1, r.1.fi.map Ak), (1, r.1.fm.map Ak), (6, r.1.fc.map AM)] (.tup [.agg [.own 0, .own 1, .own 2, .own 3], .one (iC r.2)]) := by
 unfold Dp at h
 refine cw (n := 124) (rs := [.cell 4 29, .tmp 5]) Tryz.func31 fun w0 S0 => ?_
 refine wq rfl (qb rfl (qz Km rfl (qa rfl (Ab (wp rfl (qL CU BY rfl ?_))))))
 refine BP h fun v1 a1 h => Ax [] (Dr N p0 v1 a1) WZ rfl (qa rfl (Ab (wq rfl (qm rfl (Bp rfl (Ab ?_))))))
 refine A8 h (fun h => ?_) fun h => ?_
 ·refine wq rfl (Bg Km SS rfl (qm rfl (qs BY rfl (qe rfl ?_))))
  obtain rfl := sj h
  refine Ae ((Aq 4 0 2001 1 _ rfl rfl rfl rfl).trans ((Aq 4 1 2002 1 _ rfl rfl rfl rfl).trans ((Aq 4 2 2003 1 _ rfl rfl rfl rfl).trans ((Aq 4 3 2004 6 _ rfl rfl rfl rfl).trans (sm [(1000, 2001), (1001, 2002), (1002, 2003), (1003, 2004)] [(4, oD (.ptr 4 0)), (5, iD v1)] [(4, .box [.own 1000, .own 1001, .own 1002, .own 1003]), (1000, .vec 1 ((([] : List Int)).map Ak)), (1001, .vec 1 ((([] : List Int)).map Ak)), (1002, .vec 1 ((([] : List Int)).map Ak)), (1003, .vec 6 ((([] : List An)).map AM))] rfl rfl))))) (Ar ?_)
  exact ⟨⟨[_, _], ⟨.cellN _ _ _ _ _ _ _ rfl rfl CU BY rfl rfl (Jo rfl), tm⟩, rfl⟩, ⟨rfl, rfl, rfl, rfl, tv⟩⟩
 ·refine Ai (wp rfl (qe rfl ?_))
  refine AE (L := A0 N p1) h (fun v3 => mk [(1, pD (.sl (p1.map Ak))), (2, oD (.ptr 2 0)), (4, oD (.ptr 4 0)), (7, iD v3)] [(2, .box (Ah p0)), (4, .box [.pure (.nil0), .pure (.nil0), .pure (.nil0), .pure (.nil0)])]) (fun v4 => mk [(1, pD (.sl (p1.map Ak))), (2, oD (.ptr 2 0)), (4, oD (.ptr 4 0))] [(2, .box (Ah p0)), (4, .box [.pure (.nil0), .pure (.nil0), .pure (.nil0), .pure (.nil0)])]) (fun _ _ => rfl) (sm [] _ _ rfl rfl) (fun j3 n3 v3 h => ?_) (fun v4 s h hs => ?_)
  ·unfold A0 at h
   refine wp rfl (qw 2 rfl (AJ As rfl (AV rfl (Ab ?_))))
   refine A8 h (fun h => ?_) fun h => ?_
   ·refine Ai (AN (AH (wq rfl (qw 2 rfl ?_))))
    refine BD h fun v6 a6 b6 h => qi As Cy a6 (Af b6) rfl (qk BV rfl (qw 2 rfl (Kh rfl ?_)))
    refine BD h fun v7 a7 b7 h => qi As Cy a7 (Af b7) rfl (qk BV rfl (UW rfl (AL (by kernel_rfl) ?_)))
    refine A8 h (fun h => ?_) fun h => ?_
    ·refine wq rfl (Bg Km SS rfl (qs BY rfl (qe rfl ?_)))
     obtain rfl := sj h
     refine Ae ((Aq 4 0 2005 1 _ rfl rfl rfl rfl).trans ((Aq 4 1 2006 1 _ rfl rfl rfl rfl).trans ((Aq 4 2 2007 1 _ rfl rfl rfl rfl).trans ((Aq 4 3 2008 6 _ rfl rfl rfl rfl).trans (sm [(1000, 2005), (1001, 2006), (1002, 2007), (1003, 2008)] [(4, oD (.ptr 4 0)), (5, iD 1)] [(4, .box [.own 1000, .own 1001, .own 1002, .own 1003]), (1000, .vec 1 ((([] : List Int)).map Ak)), (1001, .vec 1 ((([] : List Int)).map Ak)), (1002, .vec 1 ((([] : List Int)).map Ak)), (1003, .vec 6 ((([] : List An)).map AM))] rfl rfl))))) (Ar ?_)
     exact ⟨⟨[_, _], ⟨.cellN _ _ _ _ _ _ _ rfl rfl CU BY rfl rfl (Jo rfl), tm⟩, rfl⟩, ⟨rfl, rfl, rfl, rfl, tv⟩⟩
    ·refine Ai (Ag Av rfl (qm rfl (AX rfl (qe rfl ?_))))
     exact sn [] h
   ·refine AS ?_
    exact sn [] h
  ·refine Ae hs (wq rfl (qz Km rfl (Ab (wp rfl (qe rfl ?_)))))
   refine AE (L := CK N p0 p1) h (fun v9 => mk [(1, pD (.sl (p1.map Ak))), (2, oD (.ptr 2 0)), (4, oD (.ptr 4 0)), (8, oD (.ptr 8 0)), (9, iD v9.2.2.2)] [(2, .box (Ah p0)), (4, .box [.pure (.nil0), .pure (.nil0), .pure (.nil0), .pure (.nil0)]), (8, .box [.own 2009, .own 2010, .own 2011, .pure (.nil0)]), (2009, .vec 1 (v9.1.map Ak)), (2010, .vec 1 (v9.2.1.map Ak)), (2011, .vec 1 (v9.2.2.1.map Ak))]) (fun v10 => mk [(1, pD (.sl (p1.map Ak))), (2, oD (.ptr 2 0)), (4, oD (.ptr 4 0)), (8, oD (.ptr 8 0))] [(2, .box (Ah p0)), (4, .box [.pure (.nil0), .pure (.nil0), .pure (.nil0), .pure (.nil0)]), (8, .box [.own 2012, .own 2013, .own 2014, .pure (.nil0)]), (2012, .vec 1 (v10.1.map Ak)), (2013, .vec 1 (v10.2.1.map Ak)), (2014, .vec 1 (v10.2.2.map Ak))]) (fun _ _ => rfl) ((Aq 8 0 2022 1 _ rfl rfl rfl rfl).trans ((Aq 8 1 2023 1 _ rfl rfl rfl rfl).trans ((Aq 8 2 2024 1 _ rfl rfl rfl rfl).trans (sm [(2009, 2022), (2010, 2023), (2011, 2024)] _ _ rfl rfl)))) (fun j9 n9 v9 h => ?_) (fun v10 s h hs => ?_)
   ·unfold CK at h
    refine wp rfl (qw 2 rfl (AJ As rfl (AV rfl (Ab ?_))))
    refine A8 h (fun h => ?_) fun h => ?_
    ·refine Ai (AN (AH (wq rfl (qw 2 rfl ?_))))
     refine BD h fun v12 a12 b12 h => qi As Cy a12 (Af b12) rfl (qk BV rfl (qa rfl (Ab (AN ?_))))
     refine AR h (fun v13 => mk [(1, pD (.sl (p1.map Ak))), (2, oD (.ptr 2 0)), (4, oD (.ptr 4 0)), (8, oD (.ptr 8 0)), (9, iD v9.2.2.2), (10, iD v12), (56, bD v13)] [(2, .box (Ah p0)), (4, .box [.pure (.nil0), .pure (.nil0), .pure (.nil0), .pure (.nil0)]), (8, .box [.own 2015, .own 2016, .own 2017, .pure (.nil0)]), (2015, .vec 1 (v9.1.map Ak)), (2016, .vec 1 (v9.2.1.map Ak)), (2017, .vec 1 (v9.2.2.1.map Ak))]) (fun j13 h => ?_) (fun v13 h => ?_)
     ·refine Ag Av rfl (qm rfl (AV rfl (qm rfl ?_)))
      refine Ey 50 h rfl (fun h => ?_) fun h => ?_
      ·refine qw 5 rfl (qp rfl (Ab ?_))
       exact sn [(2015, 2009), (2016, 2010), (2017, 2011)] h
      ·refine qm rfl (qf A6 rfl (ql A1 rfl (AJ As rfl (EE rfl (qp rfl (Ab ?_))))))
       exact sn [(2015, 2009), (2016, 2010), (2017, 2011)] h
     ·refine A8 h (fun h => ?_) fun h => ?_
      ·refine wq rfl (Bg Km SS rfl (qs BY rfl (qe rfl ?_)))
       obtain rfl := sj h
       refine Ae ((Aq 4 0 2018 1 _ rfl rfl rfl rfl).trans ((Aq 4 1 2019 1 _ rfl rfl rfl rfl).trans ((Aq 4 2 2020 1 _ rfl rfl rfl rfl).trans ((Aq 4 3 2021 6 _ rfl rfl rfl rfl).trans (sm [(1000, 2018), (1001, 2019), (1002, 2020), (1003, 2021)] [(4, oD (.ptr 4 0)), (5, iD 4)] [(4, .box [.own 1000, .own 1001, .own 1002, .own 1003]), (1000, .vec 1 ((([] : List Int)).map Ak)), (1001, .vec 1 ((([] : List Int)).map Ak)), (1002, .vec 1 ((([] : List Int)).map Ak)), (1003, .vec 6 ((([] : List An)).map AM))] rfl rfl))))) (Ar ?_)
       exact ⟨⟨[_, _], ⟨.cellN _ _ _ _ _ _ _ rfl rfl CU BY rfl rfl (Jo rfl), tm⟩, rfl⟩, ⟨rfl, rfl, rfl, rfl, tv⟩⟩
      ·refine Ai (wq rfl (qf A6 rfl (ql A1 rfl (qf A6 rfl (ql A1 rfl (qm rfl ?_))))))
       refine BD h fun v16 a16 b16 h => qi As Cy a16 (Af b16) rfl (qk BV rfl (Di As Cy I3 rfl ?_))
       refine FI h fun c17 h => Ck (f := Ak) As As Cy J8 I3 c17 rfl (qf A6 rfl (qs GZ rfl (AL (by kernel_rfl) (wq rfl (qf FA rfl (ql A1 rfl (qf FA rfl (ql A1 rfl (qm rfl ?_)))))))))
       refine BD h fun v18 a18 b18 h => qi As Cy a18 (Af b18) rfl (qk BV rfl (Di As Cy I3 rfl ?_))
       refine FI h fun c19 h => Ck (f := Ak) As As Cy J8 I3 c19 rfl (qf FA rfl (qs GZ rfl (AL (by kernel_rfl) (Ag Av rfl (qf GB rfl (ql A1 rfl (qf GB rfl (ql A1 rfl (qm rfl ?_)))))))))
       refine BD h fun v20 a20 b20 h => qi As Cy a20 (Af b20) rfl (qk BV rfl (Di As Cy I3 rfl ?_))
       refine FI h fun c21 h => Ck (f := Ak) As As Cy J8 I3 c21 rfl (qf GB rfl (qs GZ rfl (AL (by kernel_rfl) (Ag Av rfl (qm rfl (AX rfl (qe rfl ?_)))))))
       exact sn [(2009, 66), (2010, 76), (2011, 86)] h
    ·refine AS ?_
     exact sn [(2012, 2009), (2013, 2010), (2014, 2011)] h
   ·refine Ae hs (wp rfl (qe rfl ?_))
    refine AE (L := BE N p0 p1) h (fun v22 => mk [(1, pD (.sl (p1.map Ak))), (2, oD (.ptr 2 0)), (4, oD (.ptr 4 0)), (8, oD (.ptr 8 0)), (11, iD v22.2)] [(2, .box (Ah p0)), (4, .box [.pure (.nil0), .pure (.nil0), .pure (.nil0), .pure (.nil0)]), (8, .box [.own 2025, .own 2026, .own 2027, .own 2028]), (2025, .vec 1 (v10.1.map Ak)), (2026, .vec 1 (v10.2.1.map Ak)), (2027, .vec 1 (v10.2.2.map Ak)), (2028, .vec 6 (v22.1.map AM))]) (fun v23 => mk [(4, oD (.ptr 4 0)), (8, oD (.ptr 8 0))] [(4, .box [.pure (.nil0), .pure (.nil0), .pure (.nil0), .pure (.nil0)]), (8, .box [.own 2029, .own 2030, .own 2031, .own 2032]), (2029, .vec 1 (v10.1.map Ak)), (2030, .vec 1 (v10.2.1.map Ak)), (2031, .vec 1 (v10.2.2.map Ak)), (2032, .vec 6 (v23.map AM))]) (fun _ _ => rfl) ((Aq 8 3 2041 6 _ rfl rfl rfl rfl).trans (sm [(2025, 2012), (2026, 2013), (2027, 2014), (2028, 2041)] _ _ rfl rfl)) (fun j22 n22 v22 h => ?_) (fun v23 s h hs => ?_)
    ·unfold BE at h
     refine wp rfl (qm rfl (qf Cc rfl (ql Hj rfl (AJ Dt rfl (AV rfl (Ab ?_))))))
     refine A8 h (fun h => ?_) fun h => ?_
     ·refine Ai ?_
      refine AR h (fun v25 => mk [(1, pD (.sl (p1.map Ak))), (2, oD (.ptr 2 0)), (4, oD (.ptr 4 0)), (8, oD (.ptr 8 0)), (11, iD v22.2)] [(2, .box (Ah p0)), (4, .box [.pure (.nil0), .pure (.nil0), .pure (.nil0), .pure (.nil0)]), (8, .box [.own 2033, .own 2034, .own 2035, .own 2036]), (2033, .vec 1 (v10.1.map Ak)), (2034, .vec 1 (v10.2.1.map Ak)), (2035, .vec 1 (v10.2.2.map Ak)), (2036, .vec 6 (v25.map AM))]) (fun j25 h => ?_) (fun v25 h => ?_)
      ·refine AH (wq rfl (qf Cc rfl (ql Hj rfl (qm rfl ?_))))
       refine BD h fun v26 a26 b26 h => qi Dt Dl a26 (Af b26) rfl (qK G1 Dl rfl (qz I7 rfl (qs Dl rfl (Ab (wq rfl (qm rfl (qf Dd rfl (ql BV rfl ?_))))))))
       refine BP h fun v27 a27 h => Ax [] (Jk N p1 v26.fg v27 a27) bh rfl (qm rfl (qf HK rfl (ql BV rfl ?_)))
       refine BP h fun v28 a28 h => Ax [] (Jk N p1 v26.fj v28 a28) bh rfl (qa rfl (qa rfl (AL (by kernel_rfl) ?_)))
       refine AR h (fun v29 => mk [(1, pD (.sl (p1.map Ak))), (2, oD (.ptr 2 0)), (4, oD (.ptr 4 0)), (8, oD (.ptr 8 0)), (11, iD v22.2), (12, oD (.ptr 12 0)), (13, iD v27), (14, iD v28), (113, bD v29)] [(2, .box (Ah p0)), (4, .box [.pure (.nil0), .pure (.nil0), .pure (.nil0), .pure (.nil0)]), (8, .box [.own 2037, .own 2038, .own 2039, .own 2040]), (12, .box (Ba v26)), (2037, .vec 1 (v10.1.map Ak)), (2038, .vec 1 (v10.2.1.map Ak)), (2039, .vec 1 (v10.2.2.map Ak)), (2040, .vec 6 (v22.1.map AM))]) (fun j29 h => ?_) (fun v29 h => ?_)
       ·refine Ag Av rfl (qm rfl (EE rfl (qm rfl ?_)))
        refine Ey 110 h rfl (fun h => ?_) fun h => ?_
        ·refine qm rfl (EE rfl (qp rfl (Ab ?_)))
         exact sn [(2037, 2025), (2038, 2026), (2039, 2027), (2040, 2028)] h
        ·refine qw 2 rfl (qp rfl (Ab ?_))
         exact sn [(2037, 2025), (2038, 2026), (2039, 2027), (2040, 2028)] h
       ·refine A8 h (fun h => ?_) fun h => ?_
        ·refine Ag Av rfl (qf Cc rfl (ql Hj rfl (qL G1 Dl rfl (qw 2 rfl ?_))))
         refine BP h fun v32 a32 h => Ax [] ((Ls N v26 v27 v28 v32 a32).share rfl) dL rfl (Di Dt Dl I7 rfl ?_)
         refine FI h fun c33 h => Ck (f := AM) Dt Dt Dl Wv I7 c33 rfl (qf Cc rfl (qs Z8 rfl (AL (by kernel_rfl) ?_)))
         exact sn [(2033, 2037), (2034, 2038), (2035, 2039), (2036, 121)] h
        ·refine Ai ?_
         exact sn [(2033, 2037), (2034, 2038), (2035, 2039), (2036, 2040)] h
      ·refine Ag Av rfl (qm rfl (AX rfl (qe rfl ?_)))
       exact sn [(2025, 2033), (2026, 2034), (2027, 2035), (2028, 2036)] h
     ·refine AS ?_
      exact sn [(2029, 2025), (2030, 2026), (2031, 2027), (2032, 2028)] h
    ·refine Ae hs (wq rfl (qL CU BY rfl (qs BY rfl (qe rfl ?_))))
     obtain rfl := sj h
     refine Ae (sm [(1000, 2029), (1001, 2030), (1002, 2031), (1003, 2032)] [(4, oD (.ptr 4 0)), (5, iD 0)] [(4, .box [.own 1000, .own 1001, .own 1002, .own 1003]), (1000, .vec 1 (v10.1.map Ak)), (1001, .vec 1 (v10.2.1.map Ak)), (1002, .vec 1 (v10.2.2.map Ak)), (1003, .vec 6 (v23.map AM))] rfl rfl) (Ar ?_)
     exact ⟨⟨[_, _], ⟨.cellN _ _ _ _ _ _ _ rfl rfl CU BY rfl rfl (Jo rfl), tm⟩, rfl⟩, ⟨rfl, rfl, rfl, rfl, tv⟩⟩
theorem Jf (N : Nat) (p0 : Aa) (r : Ac × Int) (h : Eb N p0 = some r) : Ao zA0 59 [.e (.agg (Ah p0))] [(1, r.1.fd.map Ak), (1, r.1.fb.map Ak), (1, r.1.fe.map D4)] (.tup [.agg [.own 0, .own 1, .own 2], .one (iC r.2)]) := by
 unfold Eb at h
 refine cw (n := 68) (rs := [.cell 2 49, .tmp 3]) Tryz.func59 fun w0 S0 => ?_
 refine wq rfl (qb rfl (qz EG rfl (qa rfl (Ab (wp rfl (qL CU BY rfl ?_))))))
 refine BP h fun v1 a1 h => Ax [] (Dr N p0 v1 a1) WZ rfl (qa rfl (Ab (wq rfl (qm rfl (Bp rfl (Ab ?_))))))
 refine A8 h (fun h => ?_) fun h => ?_
 ·refine wq rfl (Bg EG Jm rfl (qm rfl (qs A3 rfl (qe rfl ?_))))
  obtain rfl := sj h
  refine Ae ((Aq 2 0 2001 1 _ rfl rfl rfl rfl).trans ((Aq 2 1 2002 1 _ rfl rfl rfl rfl).trans ((Aq 2 2 2003 1 _ rfl rfl rfl rfl).trans (sm [(1000, 2001), (1001, 2002), (1002, 2003)] [(2, oD (.ptr 2 0)), (3, iD v1)] [(2, .box [.own 1000, .own 1001, .own 1002]), (1000, .vec 1 ((([] : List Int)).map Ak)), (1001, .vec 1 ((([] : List Int)).map Ak)), (1002, .vec 1 ((([] : List Int)).map D4))] rfl rfl)))) (Ar ?_)
  exact ⟨⟨[_, _], ⟨.cellN _ _ _ _ _ _ _ rfl rfl BZ A3 rfl rfl (Jo rfl), tm⟩, rfl⟩, ⟨rfl, rfl, rfl, tv⟩⟩
 ·refine Ai (wq rfl (qz EG rfl (Ab (wp rfl (qe rfl ?_)))))
  refine AE (L := Ci N p0) h (fun v3 => mk [(1, oD (.ptr 1 0)), (2, oD (.ptr 2 0)), (5, oD (.ptr 5 0)), (6, iD v3.2.2)] [(1, .box (Ah p0)), (2, .box [.pure (.nil0), .pure (.nil0), .pure (.nil0)]), (5, .box [.own 2004, .own 2005, .pure (.nil0)]), (2004, .vec 1 (v3.1.map Ak)), (2005, .vec 1 (v3.2.1.map Ak))]) (fun v4 => mk [(1, oD (.ptr 1 0)), (2, oD (.ptr 2 0)), (5, oD (.ptr 5 0))] [(1, .box (Ah p0)), (2, .box [.pure (.nil0), .pure (.nil0), .pure (.nil0)]), (5, .box [.own 2006, .own 2007, .pure (.nil0)]), (2006, .vec 1 (v4.1.map Ak)), (2007, .vec 1 (v4.2.map Ak))]) (fun _ _ => rfl) ((Aq 5 0 2008 1 _ rfl rfl rfl rfl).trans ((Aq 5 1 2009 1 _ rfl rfl rfl rfl).trans (sm [(2004, 2008), (2005, 2009)] _ _ rfl rfl))) (fun j3 n3 v3 h => ?_) (fun v4 s h hs => ?_)
  ·unfold Ci at h
   refine wp rfl (qm rfl (qf A6 rfl (ql A1 rfl (AJ As rfl (AV rfl (Ab ?_))))))
   refine A8 h (fun h => ?_) fun h => ?_
   ·refine Ai (AN (AH (wq rfl (qf C4 rfl (ql A1 rfl (qf FA rfl (ql A1 rfl (qm rfl ?_))))))))
    refine BD h fun v6 a6 b6 h => qi As Cy a6 (Af b6) rfl (qk BV rfl (Di As Cy I3 rfl ?_))
    refine FI h fun c7 h => Ck (f := Ak) As As Cy J8 I3 c7 rfl (qf C4 rfl (qs GZ rfl (AL (by kernel_rfl) (Ag Av rfl (qf BI rfl (ql A1 rfl (Di As Cy I3 rfl ?_)))))))
    refine FI h fun c8 h => Ck (f := Ak) As As Cy J8 I3 c8 rfl (qf BI rfl (qs GZ rfl (Ab (Ag Av rfl (qm rfl (AX rfl (qe rfl ?_)))))))
    exact sn [(2004, 30), (2005, 35)] h
   ·refine AS ?_
    exact sn [(2006, 2004), (2007, 2005)] h
  ·refine Ae hs (wp rfl (qe rfl ?_))
   refine AE (L := Bm N p0) h (fun v9 => mk [(1, oD (.ptr 1 0)), (2, oD (.ptr 2 0)), (5, oD (.ptr 5 0)), (7, iD v9.2)] [(1, .box (Ah p0)), (2, .box [.pure (.nil0), .pure (.nil0), .pure (.nil0)]), (5, .box [.own 2010, .own 2011, .own 2012]), (2010, .vec 1 (v4.1.map Ak)), (2011, .vec 1 (v4.2.map Ak)), (2012, .vec 1 (v9.1.map D4))]) (fun v10 => mk [(2, oD (.ptr 2 0)), (5, oD (.ptr 5 0))] [(2, .box [.pure (.nil0), .pure (.nil0), .pure (.nil0)]), (5, .box [.own 2013, .own 2014, .own 2015]), (2013, .vec 1 (v4.1.map Ak)), (2014, .vec 1 (v4.2.map Ak)), (2015, .vec 1 (v10.map D4))]) (fun _ _ => rfl) ((Aq 5 2 2019 1 _ rfl rfl rfl rfl).trans (sm [(2010, 2006), (2011, 2007), (2012, 2019)] _ _ rfl rfl)) (fun j9 n9 v9 h => ?_) (fun v10 s h hs => ?_)
   ·unfold Bm at h
    refine wp rfl (qm rfl (qf Cc rfl (ql Hj rfl (AJ Dt rfl (AV rfl (Ab ?_))))))
    refine A8 h (fun h => ?_) fun h => ?_
    ·refine Ai (AN (AH (wq rfl (qe rfl ?_))))
     refine AR h (fun v12 => mk [(1, oD (.ptr 1 0)), (2, oD (.ptr 2 0)), (5, oD (.ptr 5 0)), (7, iD v9.2), (8, pD (.val (.int .u8 v12)))] [(1, .box (Ah p0)), (2, .box [.pure (.nil0), .pure (.nil0), .pure (.nil0)]), (5, .box [.own 2016, .own 2017, .own 2018]), (2016, .vec 1 (v4.1.map Ak)), (2017, .vec 1 (v4.2.map Ak)), (2018, .vec 1 (v9.1.map D4))]) (fun j12 h => ?_) (fun v12 h => ?_)
     ·refine wq rfl (qf Cc rfl (ql Hj rfl (qm rfl ?_)))
      refine BD h fun v13 a13 b13 h => qi Dt Dl a13 (Af b13) rfl (qK G1 Dl rfl ?_)
      refine BP h fun v14 a14 h => Ax [] (Co N v13 v14 a14) RC rfl (Ab ?_)
      refine A8 h (fun h => ?_) fun h => ?_
      ·refine Ag Av rfl (qf FA rfl (ql A1 rfl (qf Cc rfl (ql Hj rfl (qm rfl ?_)))))
       refine BD h fun v16 a16 b16 h => qi Dt Dl a16 (Af b16) rfl (qg Dd rfl (qk BV rfl ?_))
       refine BD h fun v17 a17 b17 h => qi As Cy a17 (Af b17) rfl (qk BV rfl ?_)
       refine FI h fun c18 h => Jj rfl c18 (qa rfl (AL (by kernel_rfl) ?_))
       exact sn [(2016, 2010), (2017, 2011), (2018, 2012)] h
      ·refine Ai ?_
       exact sn [(2016, 2010), (2017, 2011), (2018, 2012)] h
     ·refine Ag Av rfl (qf C6 rfl (ql H7 rfl (qm rfl (Di D9 EQ NI rfl ?_))))
      refine FI h fun c19 h => Ck (f := D4) D9 D9 EQ PT NI c19 rfl (qf C6 rfl (qs dn rfl (Ab (Ag Av rfl (qm rfl (AX rfl (qe rfl ?_)))))))
      exact sn [(2010, 2016), (2011, 2017), (2012, 65)] h
    ·refine AS ?_
     exact sn [(2013, 2010), (2014, 2011), (2015, 2012)] h
   ·refine Ae hs (wq rfl (qL BZ A3 rfl (qs A3 rfl (qe rfl ?_))))
    obtain rfl := sj h
    refine Ae (sm [(1000, 2013), (1001, 2014), (1002, 2015)] [(2, oD (.ptr 2 0)), (3, iD 0)] [(2, .box [.own 1000, .own 1001, .own 1002]), (1000, .vec 1 (v4.1.map Ak)), (1001, .vec 1 (v4.2.map Ak)), (1002, .vec 1 (v10.map D4))] rfl rfl) (Ar ?_)
    exact ⟨⟨[_, _], ⟨.cellN _ _ _ _ _ _ _ rfl rfl BZ A3 rfl rfl (Jo rfl), tm⟩, rfl⟩, ⟨rfl, rfl, rfl, tv⟩⟩
theorem LK (N : Nat) (p0 : Ac) (r : Ac) (h : ED N p0 = some r) : Ao zA0 131 [.e (.agg (AI p0))] [(1, r.fd.map Ak), (1, r.fb.map Ak), (1, r.fe.map D4)] (.e (.agg [.own 0, .own 1, .own 2])) := by
 unfold ED at h
 refine cw (n := 16) (rs := [.cell 2 49]) Tryz.func131 fun w0 S0 => ?_
 refine wq rfl (qb rfl (qz EG rfl (Ab (wq rfl (Di As Cy I3 rfl (qf C4 rfl (ql A1 rfl ?_)))))))
 refine FI h fun c1 h => I4 (f := Ak) As As Cy J8 I3 (fun _ => rfl) c1 rfl (Di As Cy I3 rfl (qf BI rfl (ql A1 rfl ?_)))
 refine FI h fun c2 h => I4 (f := Ak) As As Cy J8 I3 (fun _ => rfl) c2 rfl (Di D9 EQ NI rfl (qf C6 rfl (ql H7 rfl ?_)))
 refine FI h fun c3 h => I4 (f := D4) D9 D9 EQ PT NI (fun _ => rfl) c3 rfl (Bg EG Jm rfl (qs A3 rfl (AL (by kernel_rfl) ?_)))
 obtain rfl := sj h
 refine Ae (sm [(1000, 6), (1001, 10), (1002, 14)] [(2, oD (.ptr 2 0))] [(2, .box [.own 1000, .own 1001, .own 1002]), (1000, .vec 1 (((([] : List Int)) ++ p0.fd).map Ak)), (1001, .vec 1 (((([] : List Int)) ++ p0.fb).map Ak)), (1002, .vec 1 (((([] : List Int)) ++ p0.fe).map D4))] rfl rfl) (Ar ?_)
 exact ⟨⟨[_], ⟨.cellN _ _ _ _ _ _ _ rfl rfl BZ A3 rfl rfl (Jo rfl), tv⟩, rfl⟩, ⟨rfl, rfl, rfl, tv⟩⟩
theorem Ns (N : Nat) (p0 : Ac) (r : (List Ac)) (h : EM N p0 = some r) : Ao zA0 93 [.e (.agg (AI p0))] [(3, r.map Fc)] (oD (.own 0)) := by
 unfold EM at h
 refine cw (n := 62) (rs := [.tmp 2]) Tryz.func93 fun w0 S0 => ?_
 refine wq rfl (qb rfl (qa rfl (Ab (wq rfl (qa rfl (Ab (wp rfl (qe rfl ?_))))))))
 refine AE (L := CG N p0) h (fun v1 => mk [(1, oD (.ptr 1 0)), (3, iD v1.1), (4, iD v1.2)] [(1, .box (AI p0))]) (fun v2 => mk [(1, oD (.ptr 1 0)), (3, iD v2)] [(1, .box (AI p0))]) (fun _ _ => rfl) (sm [] _ _ rfl rfl) (fun j1 n1 v1 h => ?_) (fun v2 s h hs => ?_)
 ·unfold CG at h
  refine wp rfl (qm rfl (qf BI rfl (ql A1 rfl (AJ As rfl (AV rfl (Ab ?_))))))
  refine A8 h (fun h => ?_) fun h => ?_
  ·refine Ai ?_
   refine AR h (fun v4 => mk [(1, oD (.ptr 1 0)), (3, iD v4), (4, iD v1.2)] [(1, .box (AI p0))]) (fun j4 h => ?_) (fun v4 h => ?_)
   ·refine AH (wq rfl (qf BI rfl (ql A1 rfl (qm rfl ?_))))
    refine BD h fun v5 a5 b5 h => qi As Cy a5 (Af b5) rfl (qk BV rfl (EE rfl (Ab ?_)))
    refine A8 h (fun h => ?_) fun h => ?_
    ·refine Ag Av rfl (qm rfl (AX rfl (qe rfl ?_)))
     exact sn [] h
    ·refine Ai ?_
     exact sn [] h
   ·refine Ag Av rfl (qm rfl (AX rfl (qe rfl ?_)))
    exact sn [] h
  ·refine AS ?_
   exact sn [] h
 ·refine Ae hs (wq rfl (qa rfl (Ab (wp rfl (qe rfl ?_)))))
  refine AE (L := BB N p0 v2) h (fun v7 => mk [(1, oD (.ptr 1 0)), (3, iD v2), (5, oD (.own 2001)), (6, iD v7.2)] [(1, .box (AI p0)), (2001, .vec 3 (v7.1.map Fc))]) (fun v8 => mk [(5, oD (.own 2002))] [(2002, .vec 3 (v8.map Fc))]) (fun _ _ => rfl) ((AU 5 2022 3 rfl rfl rfl).trans (sm [(2001, 2022)] _ _ rfl rfl)) (fun j7 n7 v7 h => ?_) (fun v8 s h hs => ?_)
  ·unfold BB at h
   refine wp rfl (qw 2 rfl ?_)
   refine FI h fun c9 h => Jj rfl c9 (AV rfl (Ab ?_))
   refine A8 h (fun h => ?_) fun h => ?_
   ·refine Ai (AN (AH (wq rfl (qL BZ A3 rfl ?_))))
    refine BP h fun v11 a11 h => Ax [2003, 2004, 2005] (LK N p0 v11 a11) bL rfl (qz EG rfl (qs A3 rfl (Ab (wq rfl (qa rfl (Ab (wp rfl (qe rfl ?_))))))))
    refine AE (L := B3 N p0 v7) h (fun v12 => mk [(1, oD (.ptr 1 0)), (3, iD v2), (5, oD (.own 2009)), (6, iD v7.2), (7, oD (.ptr 7 0)), (8, iD v12.2.1), (9, iD v12.2.2)] [(1, .box (AI p0)), (7, .box [.own 2006, .own 2007, .own 2008]), (2006, .vec 1 (v11.fd.map Ak)), (2007, .vec 1 (v12.1.map Ak)), (2008, .vec 1 (v11.fe.map D4)), (2009, .vec 3 (v7.1.map Fc))]) (fun v13 => mk [(1, oD (.ptr 1 0)), (3, iD v2), (5, oD (.own 2013)), (6, iD v7.2), (7, oD (.ptr 7 0))] [(1, .box (AI p0)), (7, .box [.own 2010, .own 2011, .own 2012]), (2010, .vec 1 (v11.fd.map Ak)), (2011, .vec 1 (v13.map Ak)), (2012, .vec 1 (v11.fe.map D4)), (2013, .vec 3 (v7.1.map Fc))]) (fun _ _ => rfl) (sm [(2006, 2003), (2007, 2004), (2008, 2005), (2009, 2001)] _ _ rfl rfl) (fun j12 n12 v12 h => ?_) (fun v13 s h hs => ?_)
    ·unfold B3 at h
     refine wp rfl (qm rfl (qf BI rfl (ql A1 rfl (AJ As rfl (AV rfl (Ab ?_))))))
     refine A8 h (fun h => ?_) fun h => ?_
     ·refine Ai ?_
      refine AR h (fun v15 => mk [(1, oD (.ptr 1 0)), (3, iD v2), (5, oD (.own 2017)), (6, iD v7.2), (7, oD (.ptr 7 0)), (8, iD v15.2), (9, iD v12.2.2)] [(1, .box (AI p0)), (7, .box [.own 2014, .own 2015, .own 2016]), (2014, .vec 1 (v11.fd.map Ak)), (2015, .vec 1 (v15.1.map Ak)), (2016, .vec 1 (v11.fe.map D4)), (2017, .vec 3 (v7.1.map Fc))]) (fun j15 h => ?_) (fun v15 h => ?_)
      ·refine AH (wp rfl (qf BI rfl (ql A1 rfl (qm rfl ?_))))
       refine BD h fun v16 a16 b16 h => qi As Cy a16 (Af b16) rfl (qk BV rfl (AV rfl (Ab ?_)))
       refine A8 h (fun h => ?_) fun h => ?_
       ·refine AS ?_
        exact sn [(2014, 2006), (2015, 2007), (2016, 2008), (2017, 2009)] h
       ·refine Ai ?_
        refine AR h (fun v18 => mk [(1, oD (.ptr 1 0)), (3, iD v2), (5, oD (.own 2021)), (6, iD v7.2), (7, oD (.ptr 7 0)), (8, iD v12.2.1), (9, iD v12.2.2)] [(1, .box (AI p0)), (7, .box [.own 2018, .own 2019, .own 2020]), (2018, .vec 1 (v11.fd.map Ak)), (2019, .vec 1 (v18.map Ak)), (2020, .vec 1 (v11.fe.map D4)), (2021, .vec 3 (v7.1.map Fc))]) (fun j18 h => ?_) (fun v18 h => ?_)
        ·refine wq rfl (qw 2 rfl ?_)
         refine FI h fun c19 h => GU rfl c19 (Mw rfl (by decide) (Cf rfl (Ab ?_)))
         refine A8 h (fun h => ?_) fun h => ?_
         ·refine Ag Av rfl (qf BI rfl (ql A1 rfl (qm rfl ?_)))
          refine BD h fun v21 a21 b21 h => qI As Cy a21 (Af b21) rfl ?_
          refine DG rfl rfl rfl rfl (Af b21) rfl Cy rfl (Jc rfl) (Dy Ak v12.1 _ ((-1))) ?_
          refine Ab ?_
          exact sn [(2018, 2006), (2019, 2007), (2020, 2008), (2021, 2009)] h
         ·refine Ai ?_
          exact sn [(2018, 2006), (2019, 2007), (2020, 2008), (2021, 2009)] h
        ·refine Ag Av rfl (qm rfl (AX rfl (qe rfl ?_)))
         exact sn [(2014, 2018), (2015, 2019), (2016, 2020), (2017, 2021)] h
      ·refine Ag Av rfl (qm rfl (AX rfl (qe rfl ?_)))
       exact sn [(2006, 2014), (2007, 2015), (2008, 2016), (2009, 2017)] h
     ·refine AS ?_
      exact sn [(2010, 2006), (2011, 2007), (2012, 2008), (2013, 2009)] h
    ·refine Ae hs (Ag Av rfl (qm rfl (qL BZ A3 rfl (CY (A9 2010 _ _ rfl rfl) (CY (A9 2011 _ _ rfl rfl) (CY (A9 2012 _ _ rfl rfl) (Di Mz A3 EG rfl ?_)))))))
     refine FI h fun c22 h => Ck (f := Fc) Mz Mz A3 Zn EG c22 rfl (qa rfl (Ab (Ag Av rfl (qm rfl (AX rfl (qe rfl ?_))))))
     exact sn [(2001, 60)] h
   ·refine AS ?_
    exact sn [(2002, 2001)] h
  ·refine Ae hs (wq rfl (qm rfl (qe rfl ?_)))
   obtain rfl := sj h
   refine Ae (sm [(1000, 2002)] [(2, oD (.own 1000))] [(1000, .vec 3 (v8.map Fc))] rfl rfl) (Ar ?_)
   exact ⟨⟨[_], tm, rfl⟩, ⟨rfl, tv⟩⟩
theorem EA (N : Nat) (p0 : Ac) (p1 : Int) (r : Int) (h : B2 N p0 p1 = some r) : Ao zA0 96 [.e (.agg (AI p0)), iD p1] [] (pD (.val (.int .u8 r))) := by
 unfold B2 at h
 refine cw (n := 27) (rs := [.tmp 4]) Tryz.func96 fun w0 S0 => ?_
 refine wq rfl (qb rfl (qa rfl (Ab (wq rfl (qf C4 rfl (ql A1 rfl (qm rfl ?_)))))))
 refine BD h fun v1 a1 b1 h => qi As Cy a1 (Af b1) rfl (qk BV rfl ?_)
 refine FI h fun c2 h => Jj rfl c2 (qe rfl ?_)
 refine AR h (fun v3 => mk [(5, pD (.val (.int .u8 v3)))] []) (fun j3 h => ?_) (fun v3 h => ?_)
 ·refine wq rfl (qf BI rfl (ql A1 rfl (qm rfl ?_)))
  refine BD h fun v4 a4 b4 h => qi As Cy a4 (Af b4) rfl (qk BV rfl (EE rfl (Ab ?_)))
  refine A8 h (fun h => ?_) fun h => ?_
  ·refine Ag Av rfl (qm rfl (qf BI rfl (ql A1 rfl (qm rfl ?_))))
   refine BD h fun v6 a6 b6 h => qi As Cy a6 (Af b6) rfl (qk BV rfl ?_)
   refine FI h fun c7 h => Jj rfl c7 (WM rfl (qe rfl ?_))
   exact sn [] h
  ·refine Ai ?_
   exact sn [] h
 ·refine wq rfl (qm rfl (qe rfl ?_))
  obtain rfl := sj h
  refine Ae (sm [] [(4, pD (.val (.int .u8 v3)))] [] rfl rfl) (Ar ?_)
  exact ⟨⟨[_], tm, rfl⟩, tv⟩
theorem GT (N : Nat) (p0 : Int) (p1 : Int) (r : Bool) (h : Cz N p0 p1 = some r) : Ao zA0 97 [pD (.val (.int .u8 p0)), iD p1] [] (bD r) := by
 unfold Cz at h
 refine cw (n := 10) (rs := [.tmp 4]) Tryz.func97 fun w0 S0 => ?_
 refine wq rfl (qa rfl (Ab (wq rfl (qw 2 rfl ?_))))
 refine FI h fun c1 h => GU rfl c1 (Iu rfl (Cf rfl (qe rfl ?_)))
 obtain rfl := sj h
 refine Ae (sm [] [(4, bD (((AK .u8 ((AZ .u8 p0 p1)) 1) == 1)))] [] rfl rfl) (Ar ?_)
 exact ⟨⟨[_], tm, rfl⟩, tv⟩
theorem Mo (N : Nat) (p0 : Aa) (p1 : Ac) (r : (List Ap)) (h : E2 N p0 p1 = some r) : Ao zA0 132 [.e (.agg (Ah p0)), .e (.agg (AI p1))] [(3, r.map A2)] (oD (.own 0)) := by
 unfold E2 at h
 refine cw (n := 111) (rs := [.tmp 4]) Tryz.func132 fun w0 S0 => ?_
 refine wq rfl (qb rfl (qb rfl (qa rfl (Ab (wq rfl (qa rfl (Ab (wp rfl (qe rfl ?_)))))))))
 refine AE (L := CL N p0 p1) h (fun v1 => mk [(2, oD (.ptr 2 0)), (3, oD (.ptr 3 0)), (5, oD (.own 2001)), (6, iD v1.2)] [(2, .box (Ah p0)), (3, .box (AI p1)), (2001, .vec 3 (v1.1.map A2))]) (fun v2 => mk [(5, oD (.own 2002))] [(2002, .vec 3 (v2.map A2))]) (fun _ _ => rfl) ((AU 5 2013 3 rfl rfl rfl).trans (sm [(2001, 2013)] _ _ rfl rfl)) (fun j1 n1 v1 h => ?_) (fun v2 s h hs => ?_)
 ·unfold CL at h
  refine wp rfl (qm rfl (qf Cc rfl (ql Hj rfl (AJ Dt rfl (AV rfl (Ab ?_))))))
  refine A8 h (fun h => ?_) fun h => ?_
  ·refine Ai (AN (AH (wq rfl (qf Cc rfl (ql Hj rfl (qm rfl ?_))))))
   refine BD h fun v4 a4 b4 h => qi Dt Dl a4 (Af b4) rfl (qK G1 Dl rfl (qz I7 rfl (qs Dl rfl (Ab (wq rfl (qL BZ A3 rfl (qf Dd rfl (ql BV rfl ?_))))))))
   refine BP h fun v5 a5 h => Ax [] (EA N p1 v4.fg v5 a5) Xq rfl (qe rfl ?_)
   refine AR h (fun v6 => mk [(2, oD (.ptr 2 0)), (3, oD (.ptr 3 0)), (5, oD (.own 2003)), (6, iD v1.2), (7, oD (.ptr 7 0)), (8, pD (.val (.int .u8 v6)))] [(2, .box (Ah p0)), (3, .box (AI p1)), (7, .box (Ba v4)), (2003, .vec 3 (v1.1.map A2))]) (fun j6 h => ?_) (fun v6 h => ?_)
   ·refine wq rfl (qL G1 Dl rfl ?_)
    refine BP h fun v7 a7 h => Ax [] (Co N v4 v7 a7) RC rfl (Ab ?_)
    refine A8 h (fun h => ?_) fun h => ?_
    ·refine Ag Av rfl (qf C6 rfl (ql H7 rfl (qm rfl ?_)))
     refine BD h fun v9 a9 b9 h => qi D9 EQ a9 (Af b9) rfl (qk I1 rfl (qe rfl ?_))
     exact sn [(2003, 2001)] h
    ·refine Ai ?_
     exact sn [(2003, 2001)] h
   ·refine wq rfl (qe rfl ?_)
    refine AE (L := BH N p0 p1 v1 v4 v6) h (fun v10 => mk [(2, oD (.ptr 2 0)), (3, oD (.ptr 3 0)), (5, oD (.own 2004)), (6, iD v1.2), (7, oD (.ptr 7 0)), (8, pD (.val (.int .u8 v6))), (9, iD v10.2)] [(2, .box (Ah p0)), (3, .box (AI p1)), (7, .box (Ba v4)), (2004, .vec 3 (v10.1.map A2))]) (fun v11 => mk [(2, oD (.ptr 2 0)), (3, oD (.ptr 3 0)), (5, oD (.own 2005)), (6, iD v1.2)] [(2, .box (Ah p0)), (3, .box (AI p1)), (2005, .vec 3 (v11.map A2))]) (fun _ _ => rfl) (sm [(2004, 2003)] _ _ rfl rfl) (fun j10 n10 v10 h => ?_) (fun v11 s h hs => ?_)
    ·unfold BH at h
     refine wp rfl (qm rfl (qf A6 rfl (ql A1 rfl (qf Dd rfl (ql BV rfl ?_)))))
     refine BD h fun v12 a12 b12 h => qi As Cy a12 (Af b12) rfl (qk BV rfl (AV rfl (Ab ?_)))
     refine A8 h (fun h => ?_) fun h => ?_
     ·refine Ai ?_
      refine AR h (fun v14 => mk [(2, oD (.ptr 2 0)), (3, oD (.ptr 3 0)), (5, oD (.own 2006)), (6, iD v1.2), (7, oD (.ptr 7 0)), (8, pD (.val (.int .u8 v6))), (9, iD v10.2)] [(2, .box (Ah p0)), (3, .box (AI p1)), (7, .box (Ba v4)), (2006, .vec 3 (v14.map A2))]) (fun j14 h => ?_) (fun v14 h => ?_)
      ·refine AH (wp rfl (qw 2 rfl ?_))
       refine BP h fun v15 a15 h => Ax [] (GT N v6 v10.2 v15 a15) YX rfl (Cm rfl (Ab ?_))
       refine A8 h (fun h => ?_) fun h => ?_
       ·refine AS ?_
        exact sn [(2006, 2004)] h
       ·refine Ai (wq rfl (qa rfl (Ab (wp rfl (qe rfl ?_)))))
        refine AE (L := Bq N p0 p1 v1 v4 v10) h (fun v17 => mk [(2, oD (.ptr 2 0)), (3, oD (.ptr 3 0)), (5, oD (.own 2007)), (6, iD v1.2), (7, oD (.ptr 7 0)), (8, pD (.val (.int .u8 v6))), (9, iD v10.2), (10, bD v17.2.1), (11, iD v17.2.2)] [(2, .box (Ah p0)), (3, .box (AI p1)), (7, .box (Ba v4)), (2007, .vec 3 (v17.1.map A2))]) (fun v18 => mk [(2, oD (.ptr 2 0)), (3, oD (.ptr 3 0)), (5, oD (.own 2008)), (6, iD v1.2), (7, oD (.ptr 7 0)), (8, pD (.val (.int .u8 v6))), (9, iD v10.2), (10, bD v18.2)] [(2, .box (Ah p0)), (3, .box (AI p1)), (7, .box (Ba v4)), (2008, .vec 3 (v18.1.map A2))]) (fun _ _ => rfl) (sm [(2007, 2004)] _ _ rfl rfl) (fun j17 n17 v17 h => ?_) (fun v18 s h hs => ?_)
        ·unfold Bq at h
         refine wp rfl (qm rfl (qf A6 rfl (ql A1 rfl (qf HK rfl (ql BV rfl ?_)))))
         refine BD h fun v19 a19 b19 h => qi As Cy a19 (Af b19) rfl (qk BV rfl (AV rfl (Ab ?_)))
         refine A8 h (fun h => ?_) fun h => ?_
         ·refine Ai ?_
          refine AR h (fun v21 => mk [(2, oD (.ptr 2 0)), (3, oD (.ptr 3 0)), (5, oD (.own 2009)), (6, iD v1.2), (7, oD (.ptr 7 0)), (8, pD (.val (.int .u8 v6))), (9, iD v10.2), (10, bD v21.2), (11, iD v17.2.2)] [(2, .box (Ah p0)), (3, .box (AI p1)), (7, .box (Ba v4)), (2009, .vec 3 (v21.1.map A2))]) (fun j21 h => ?_) (fun v21 h => ?_)
          ·refine AH (wp rfl (qL BZ A3 rfl (qf HK rfl (ql BV rfl ?_))))
           refine BP h fun v22 a22 h => Ax [] (EA N p1 v4.fj v22 a22) Xq rfl (qm rfl ?_)
           refine BP h fun v23 a23 h => Ax [] (GT N v22 v17.2.2 v23 a23) YX rfl (Cm rfl (Ab ?_))
           refine A8 h (fun h => ?_) fun h => ?_
           ·refine AS ?_
            exact sn [(2009, 2007)] h
           ·refine Ai ?_
            refine AR h (fun v25 => mk [(2, oD (.ptr 2 0)), (3, oD (.ptr 3 0)), (5, oD (.own 2010)), (6, iD v1.2), (7, oD (.ptr 7 0)), (8, pD (.val (.int .u8 v6))), (9, iD v10.2), (10, bD v25), (11, iD v17.2.2)] [(2, .box (Ah p0)), (3, .box (AI p1)), (7, .box (Ba v4)), (2010, .vec 3 (v17.1.map A2))]) (fun j25 h => ?_) (fun v25 h => ?_)
            ·refine Ag Av rfl (qw 2 rfl ?_)
             refine Ey 67 h rfl (fun h => ?_) fun h => ?_
             ·refine qw 8 rfl (qp rfl (qe rfl ?_))
              exact sn [(2010, 2007)] h
             ·refine qf Hl rfl (ql IG rfl (qm rfl ?_))
              refine BD h fun v27 a27 b27 h => qi EC JJ a27 (Af b27) rfl (qk OI rfl (qm rfl ?_))
              refine BD h fun v28 a28 b28 h => qi EN N7 a28 (Af b28) rfl (qk Sf rfl (qp rfl (qe rfl ?_)))
              exact sn [(2010, 2007)] h
            ·refine AR h (fun v29 => mk [(2, oD (.ptr 2 0)), (3, oD (.ptr 3 0)), (5, oD (.own 2011)), (6, iD v1.2), (7, oD (.ptr 7 0)), (8, pD (.val (.int .u8 v6))), (9, iD v10.2), (10, bD v25), (11, iD v17.2.2), (90, bD v29)] [(2, .box (Ah p0)), (3, .box (AI p1)), (7, .box (Ba v4)), (2011, .vec 3 (v17.1.map A2))]) (fun j29 h => ?_) (fun v29 h => ?_)
             ·refine Ag Av rfl (qf JB rfl (ql Sf rfl (Cm rfl (qm rfl ?_))))
              refine Ey 80 h rfl (fun h => ?_) fun h => ?_
              ·refine qf Hl rfl (ql IG rfl (qm rfl ?_))
               refine BD h fun v31 a31 b31 h => qi EC JJ a31 (Af b31) rfl (qk OI rfl (qm rfl ?_))
               refine BD h fun v32 a32 b32 h => qi EN N7 a32 (Af b32) rfl (qk Sf rfl (Cm rfl (qp rfl (Ab ?_))))
               exact sn [(2011, 2010)] h
              ·refine qw 9 rfl (qp rfl (Ab ?_))
               exact sn [(2011, 2010)] h
             ·refine A8 h (fun h => ?_) fun h => ?_
              ·refine Ag Av rfl (qw 4 rfl (Bg Ji QV rfl (Di HS IY Ji rfl ?_)))
               refine FI h fun c34 h => Ck (f := A2) HS HS IY Rl Ji c34 rfl (qe rfl ?_)
               exact sn [(2009, 97)] h
              ·refine Ai ?_
               exact sn [(2009, 2011)] h
          ·refine Ag Av rfl (qm rfl (AX rfl (qe rfl ?_)))
           exact sn [(2007, 2009)] h
         ·refine AS ?_
          exact sn [(2008, 2007)] h
        ·refine Ae hs ?_
         refine AR h (fun v35 => mk [(2, oD (.ptr 2 0)), (3, oD (.ptr 3 0)), (5, oD (.own 2012)), (6, iD v1.2), (7, oD (.ptr 7 0)), (8, pD (.val (.int .u8 v6))), (9, iD v10.2), (103, bD v35)] [(2, .box (Ah p0)), (3, .box (AI p1)), (7, .box (Ba v4)), (2012, .vec 3 (v18.1.map A2))]) (fun j35 h => ?_) (fun v35 h => ?_)
         ·refine Ag Av rfl (qf JB rfl (ql Sf rfl (qm rfl ?_)))
          refine Ey 100 h rfl (fun h => ?_) fun h => ?_
          ·refine qm rfl (Cm rfl (qp rfl (Ab ?_)))
           exact sn [(2012, 2008)] h
          ·refine qw 2 rfl (qp rfl (Ab ?_))
           exact sn [(2012, 2008)] h
         ·refine A8 h (fun h => ?_) fun h => ?_
          ·refine Ag Av rfl (qw 3 rfl (Bg Ji QV rfl (Di HS IY Ji rfl ?_)))
           refine FI h fun c38 h => Ck (f := A2) HS HS IY Rl Ji c38 rfl (qe rfl ?_)
           exact sn [(2006, 109)] h
          ·refine Ai ?_
           exact sn [(2006, 2012)] h
      ·refine Ag Av rfl (qm rfl (AX rfl (qe rfl ?_)))
       exact sn [(2004, 2006)] h
     ·refine AS ?_
      exact sn [(2005, 2004)] h
    ·refine Ae hs (Ag Av rfl (qm rfl (AX rfl (qe rfl ?_))))
     exact sn [(2001, 2005)] h
  ·refine AS ?_
   exact sn [(2002, 2001)] h
 ·refine Ae hs (wq rfl (qm rfl (qe rfl ?_)))
  obtain rfl := sj h
  refine Ae (sm [(1000, 2002)] [(4, oD (.own 1000))] [(1000, .vec 3 (v2.map A2))] rfl rfl) (Ar ?_)
  exact ⟨⟨[_], tm, rfl⟩, ⟨rfl, tv⟩⟩
theorem Lx (N : Nat) (p0 : Aa) (p1 : Ac) (r : Bool) (h : EF N p0 p1 = some r) : Ao zA0 94 [.e (.agg (Ah p0)), .e (.agg (AI p1))] [] (bD r) := by
 unfold EF at h
 refine cw (n := 10) (rs := [.tmp 4]) Tryz.func94 fun w0 S0 => ?_
 refine wq rfl (qb rfl (qb rfl (qa rfl (Ab (wq rfl (qL CU BY rfl (qL BZ A3 rfl ?_)))))))
 refine BP h fun v1 a1 h => Ax [2001] (Mo N p0 p1 v1 a1) bF rfl (EL HS rfl (Cf rfl (qe rfl ?_)))
 obtain rfl := sj h
 refine Ae (sm [] [(4, bD (((v1.length : Int) == 0)))] [] rfl rfl) (Ar ?_)
 exact ⟨⟨[_], tm, rfl⟩, tv⟩
theorem Gy (N : Nat) (p0 : Aa) (p1 : Ac) (r : Bool) (h : CS N p0 p1 = some r) : Ao zA0 60 [.e (.agg (Ah p0)), .e (.agg (AI p1))] [] (bD r) := by
 unfold CS at h
 refine cw (n := 22) (rs := [.tmp 4]) Tryz.func60 fun w0 S0 => ?_
 refine wq rfl (qb rfl (qb rfl (qa rfl (Ab (wq rfl (qL BZ A3 rfl ?_))))))
 refine BP h fun v1 a1 h => Ax [2001] (Ns N p1 v1 a1) dJ rfl (qa rfl (Ab (wp rfl (qe rfl ?_))))
 refine AE (L := B9 N p0 v1) h (fun v2 => mk [(2, oD (.ptr 2 0)), (5, oD (.own 2002)), (6, iD v2)] [(2, .box (Ah p0)), (2002, .vec 3 (v1.map Fc))]) (fun v3 => mk [] []) (fun _ _ => rfl) (sm [(2002, 2001)] _ _ rfl rfl) (fun j2 n2 v2 h => ?_) (fun v3 s h hs => ?_)
 ·unfold B9 at h
  refine wp rfl (qw 2 rfl (EL Mz rfl (AV rfl (Ab ?_))))
  refine A8 h (fun h => ?_) fun h => ?_
  ·refine Ai (AN (AH (wq rfl (qL CU BY rfl (qw 2 rfl ?_)))))
   refine BD h fun v5 a5 b5 h => qI Mz A3 a5 (Af b5) rfl (qJ BZ A3 (Af b5) rfl ?_)
   refine BP h fun v6 a6 h => Ax [] (Lx N p0 v5 v6 a6) dS rfl (Cm rfl (AL (by kernel_rfl) ?_))
   refine A8 h (fun h => ?_) fun h => ?_
   ·refine wq rfl (qe rfl ?_)
    obtain rfl := sj h
    refine Ae (sm [] [(4, bD false)] [] rfl rfl) (Ar ?_)
    exact ⟨⟨[_], tm, rfl⟩, tv⟩
   ·refine Ai (Ag Av rfl (qm rfl (AX rfl (qe rfl ?_))))
    exact sn [] h
  ·refine AS ?_
   exact sn [] h
 ·refine Ae hs (wq rfl (qe rfl ?_))
  obtain rfl := sj h
  refine Ae (sm [] [(4, bD true)] [] rfl rfl) (Ar ?_)
  exact ⟨⟨[_], tm, rfl⟩, tv⟩
theorem Hn (N : Nat) (p0 : Aa) (p1 : Ac) (r : Int) (h : Dq N p0 p1 = some r) : Ao zA0 90 [.e (.agg (Ah p0)), .e (.agg (AI p1))] [] (iD r) := by
 unfold Dq at h
 refine cw (n := 154) (rs := [.tmp 4]) Tryz.func90 fun w0 S0 => ?_
 refine wq rfl (qb rfl (qb rfl (qa rfl (Ab (wp rfl (qL CU BY rfl ?_))))))
 refine BP h fun v1 a1 h => Ax [] (Dr N p0 v1 a1) WZ rfl (qa rfl (Ab (wq rfl (qm rfl (Bp rfl (Ab ?_))))))
 refine A8 h (fun h => ?_) fun h => ?_
 ·refine wq rfl (qm rfl (qe rfl ?_))
  obtain rfl := sj h
  refine Ae (sm [] [(4, iD v1)] [] rfl rfl) (Ar ?_)
  exact ⟨⟨[_], tm, rfl⟩, tv⟩
 ·refine Ai (wq rfl (qf A6 rfl (ql A1 rfl (AJ As rfl (qa rfl (Ab (AN ?_)))))))
  refine AR h (fun v3 => mk [(2, oD (.ptr 2 0)), (3, oD (.ptr 3 0)), (6, iD ((p0.fa.length : Int))), (39, bD v3)] [(2, .box (Ah p0)), (3, .box (AI p1))]) (fun j3 h => ?_) (fun v3 h => ?_)
  ·refine Ag Av rfl (qf C4 rfl (ql A1 rfl (AJ As rfl (qm rfl (Bp rfl (qm rfl ?_))))))
   refine Ey 24 h rfl (fun h => ?_) fun h => ?_
   ·refine qw 5 rfl (qp rfl (qw 8 rfl (qp rfl (Ab ?_))))
    exact sn [] h
   ·refine qf BI rfl (ql A1 rfl (AJ As rfl (qm rfl (Bp rfl (qp rfl (qm rfl ?_))))))
    refine Ey 31 h rfl (fun h => ?_) fun h => ?_
    ·refine qw 7 rfl (qp rfl (Ab ?_))
     exact sn [] h
    ·refine qf C6 rfl (ql H7 rfl (AJ D9 rfl (qf Cc rfl (ql Hj rfl (AJ Dt rfl (Bp rfl (qp rfl (Ab ?_))))))))
     exact sn [] h
  ·refine A8 h (fun h => ?_) fun h => ?_
   ·refine wq rfl (qe rfl ?_)
    obtain rfl := sj h
    refine Ae (sm [] [(4, iD 6)] [] rfl rfl) (Ar ?_)
    exact ⟨⟨[_], tm, rfl⟩, tv⟩
   ·refine Ai (wp rfl (qe rfl ?_))
    refine AE (L := Ch N p0 p1) h (fun v7 => mk [(2, oD (.ptr 2 0)), (3, oD (.ptr 3 0)), (6, iD ((p0.fa.length : Int))), (7, iD v7)] [(2, .box (Ah p0)), (3, .box (AI p1))]) (fun v8 => mk [(2, oD (.ptr 2 0)), (3, oD (.ptr 3 0))] [(2, .box (Ah p0)), (3, .box (AI p1))]) (fun _ _ => rfl) (sm [] _ _ rfl rfl) (fun j7 n7 v7 h => ?_) (fun v8 s h hs => ?_)
    ·unfold Ch at h
     refine wp rfl (qw 2 rfl (AV rfl (Ab ?_)))
     refine A8 h (fun h => ?_) fun h => ?_
     ·refine Ai (AN (AH (AN ?_)))
      refine AR h (fun v10 => mk [(2, oD (.ptr 2 0)), (3, oD (.ptr 3 0)), (6, iD ((p0.fa.length : Int))), (7, iD v7), (84, bD v10)] [(2, .box (Ah p0)), (3, .box (AI p1))]) (fun j10 h => ?_) (fun v10 h => ?_)
      ·refine Ag Av rfl (qf C4 rfl (ql A1 rfl (qm rfl ?_)))
       refine BD h fun v11 a11 b11 h => qi As Cy a11 (Af b11) rfl (qk BV rfl (AV rfl (qm rfl ?_)))
       refine Ey 51 h rfl (fun h => ?_) fun h => ?_
       ·refine qw 11 rfl (qp rfl (qw 7 rfl (qp rfl (qw 12 rfl (qp rfl (AL (by kernel_rfl) ?_))))))
        exact sn [] h
       ·refine qf C4 rfl (ql A1 rfl (qm rfl ?_))
        refine BD h fun v13 a13 b13 h => qi As Cy a13 (Af b13) rfl (qk BV rfl (qf A6 rfl (ql A1 rfl (qm rfl ?_))))
        refine BD h fun v14 a14 b14 h => qi As Cy a14 (Af b14) rfl (qk BV rfl (EE rfl (qp rfl (qm rfl ?_))))
        refine Ey 64 h rfl (fun h => ?_) fun h => ?_
        ·refine qw 6 rfl (qp rfl (qw 12 rfl (qp rfl (AL (by kernel_rfl) ?_))))
         exact sn [] h
        ·refine qf BI rfl (ql A1 rfl (qm rfl ?_))
         refine BD h fun v16 a16 b16 h => qi As Cy a16 (Af b16) rfl (qk BV rfl (AV rfl (qp rfl (qm rfl ?_))))
         refine Ey 72 h rfl (fun h => ?_) fun h => ?_
         ·refine qw 11 rfl (qp rfl (AL (by kernel_rfl) ?_))
          exact sn [] h
         ·refine qf BI rfl (ql A1 rfl (qm rfl ?_))
          refine BD h fun v18 a18 b18 h => qi As Cy a18 (Af b18) rfl (qk BV rfl (qf A6 rfl (ql A1 rfl (qm rfl ?_))))
          refine BD h fun v19 a19 b19 h => qi As Cy a19 (Af b19) rfl (qk BV rfl (EE rfl (qp rfl (AL (by kernel_rfl) ?_))))
          exact sn [] h
      ·refine A8 h (fun h => ?_) fun h => ?_
       ·refine wq rfl (qe rfl ?_)
        obtain rfl := sj h
        refine Ae (sm [] [(4, iD 7)] [] rfl rfl) (Ar ?_)
        exact ⟨⟨[_], tm, rfl⟩, tv⟩
       ·refine Ai (wq rfl (qf C4 rfl (ql A1 rfl (qm rfl ?_))))
        refine BD h fun v21 a21 b21 h => qi As Cy a21 (Af b21) rfl (qk BV rfl (qf BI rfl (ql A1 rfl (qm rfl ?_))))
        refine BD h fun v22 a22 b22 h => qi As Cy a22 (Af b22) rfl (qk BV rfl (Cf rfl (AL (by kernel_rfl) ?_)))
        refine A8 h (fun h => ?_) fun h => ?_
        ·refine wq rfl (qe rfl ?_)
         obtain rfl := sj h
         refine Ae (sm [] [(4, iD 1)] [] rfl rfl) (Ar ?_)
         exact ⟨⟨[_], tm, rfl⟩, tv⟩
        ·refine Ai (Ag Av rfl (qm rfl (AX rfl (qe rfl ?_))))
         exact sn [] h
     ·refine AS ?_
      exact sn [] h
    ·refine Ae hs (wp rfl (qe rfl ?_))
     refine AE (L := B4 N p0 p1) h (fun v24 => mk [(2, oD (.ptr 2 0)), (3, oD (.ptr 3 0)), (8, iD v24)] [(2, .box (Ah p0)), (3, .box (AI p1))]) (fun v25 => mk [] []) (fun _ _ => rfl) (sm [] _ _ rfl rfl) (fun j24 n24 v24 h => ?_) (fun v25 s h hs => ?_)
     ·unfold B4 at h
      refine wp rfl (qm rfl (qf Cc rfl (ql Hj rfl (AJ Dt rfl (AV rfl (Ab ?_))))))
      refine A8 h (fun h => ?_) fun h => ?_
      ·refine Ai (AN (AH (wq rfl (qf Cc rfl (ql Hj rfl (qm rfl ?_))))))
       refine BD h fun v27 a27 b27 h => qi Dt Dl a27 (Af b27) rfl (qK G1 Dl rfl (qz I7 rfl (qs Dl rfl (Ab (wq rfl (qf A6 rfl (ql A1 rfl (qf Dd rfl (ql BV rfl ?_)))))))))
       refine BD h fun v28 a28 b28 h => qi As Cy a28 (Af b28) rfl (qk BV rfl ?_)
       refine FI h fun c29 h => Jj rfl c29 (Kh rfl (qe rfl ?_))
       refine AR h (fun v30 => mk [(2, oD (.ptr 2 0)), (3, oD (.ptr 3 0)), (8, iD v24), (153, bD v30)] [(2, .box (Ah p0)), (3, .box (AI p1))]) (fun j30 h => ?_) (fun v30 h => ?_)
       ·refine Ag Av rfl (qL G1 Dl rfl ?_)
        refine BP h fun v31 a31 h => Ax [] (Co N v27 v31 a31) RC rfl (Cm rfl (qm rfl ?_))
        refine Ey 119 h rfl (fun h => ?_) fun h => ?_
        ·refine qf C6 rfl (ql H7 rfl (qm rfl ?_))
         refine BD h fun v33 a33 b33 h => qi D9 EQ a33 (Af b33) rfl (qk I1 rfl (Bp rfl (qp rfl (qm rfl ?_))))
         refine Ey 127 h rfl (fun h => ?_) fun h => ?_
         ·refine qw 3 rfl (qu rfl (qu rfl (qu rfl (qu rfl (qu rfl (qu rfl (qu rfl (qu rfl (qu rfl (qu rfl (qu rfl (qu rfl (qu rfl (qu rfl (qu rfl (qu rfl (qu rfl (qu rfl (qu rfl (qu rfl (qu rfl (qn rfl (qp rfl (AL (by kernel_rfl) ?_))))))))))))))))))))))))
          exact sn [] h
         ·refine qL G1 Dl rfl ?_
          refine BP h fun v35 a35 h => Ax [] (Co N v27 v35 a35) RC rfl (qm rfl ?_)
          refine Ey 130 h rfl (fun h => ?_) fun h => ?_
          ·refine qf C6 rfl (ql H7 rfl (qm rfl ?_))
           refine BD h fun v37 a37 b37 h => qi D9 EQ a37 (Af b37) rfl (qk I1 rfl (qm rfl (Io rfl (Bp rfl (qm rfl ?_)))))
           refine Ey 139 h rfl (fun h => ?_) fun h => ?_
           ·refine qw 11 rfl (qp rfl (qp rfl (qp rfl (AL (by kernel_rfl) ?_))))
            exact sn [] h
           ·refine qL BZ A3 rfl (qf Dd rfl (ql BV rfl ?_))
            refine BP h fun v39 a39 h => Ax [] (EA N p1 v27.fg v39 a39) Xq rfl (qf C6 rfl (ql H7 rfl (qm rfl ?_)))
            refine BD h fun v40 a40 b40 h => qi D9 EQ a40 (Af b40) rfl (qk I1 rfl (Io rfl (Bp rfl (qp rfl (qp rfl (qp rfl (AL (by kernel_rfl) ?_)))))))
            exact sn [] h
          ·refine qw 9 rfl (qu rfl (qu rfl (qu rfl (qu rfl (qu rfl (qu rfl (qu rfl (qu rfl (qu rfl (qu rfl (qu rfl (qn rfl (qp rfl (qp rfl (AL (by kernel_rfl) ?_)))))))))))))))
           exact sn [] h
        ·refine qw 6 rfl (qp rfl (qm rfl (qL G1 Dl rfl ?_)))
         refine BP h fun v41 a41 h => Ax [] (Co N v27 v41 a41) RC rfl (qm rfl ?_)
         refine Ey 130 h rfl (fun h => ?_) fun h => ?_
         ·refine qf C6 rfl (ql H7 rfl (qm rfl ?_))
          refine BD h fun v43 a43 b43 h => qi D9 EQ a43 (Af b43) rfl (qk I1 rfl (qm rfl (Io rfl (Bp rfl (qm rfl ?_)))))
          refine Ey 139 h rfl (fun h => ?_) fun h => ?_
          ·refine qw 11 rfl (qp rfl (qp rfl (qp rfl (AL (by kernel_rfl) ?_))))
           exact sn [] h
          ·refine qL BZ A3 rfl (qf Dd rfl (ql BV rfl ?_))
           refine BP h fun v45 a45 h => Ax [] (EA N p1 v27.fg v45 a45) Xq rfl (qf C6 rfl (ql H7 rfl (qm rfl ?_)))
           refine BD h fun v46 a46 b46 h => qi D9 EQ a46 (Af b46) rfl (qk I1 rfl (Io rfl (Bp rfl (qp rfl (qp rfl (qp rfl (AL (by kernel_rfl) ?_)))))))
           exact sn [] h
         ·refine qw 9 rfl (qu rfl (qu rfl (qu rfl (qu rfl (qu rfl (qu rfl (qu rfl (qu rfl (qu rfl (qu rfl (qu rfl (qn rfl (qp rfl (qp rfl (AL (by kernel_rfl) ?_)))))))))))))))
          exact sn [] h
       ·refine A8 h (fun h => ?_) fun h => ?_
        ·refine wq rfl (qe rfl ?_)
         obtain rfl := sj h
         refine Ae (sm [] [(4, iD 1)] [] rfl rfl) (Ar ?_)
         exact ⟨⟨[_], tm, rfl⟩, tv⟩
        ·refine Ai (Ag Av rfl (qm rfl (AX rfl (qe rfl ?_))))
         exact sn [] h
      ·refine AS ?_
       exact sn [] h
     ·refine Ae hs (wq rfl (qe rfl ?_))
      obtain rfl := sj h
      refine Ae (sm [] [(4, iD 0)] [] rfl rfl) (Ar ?_)
      exact ⟨⟨[_], tm, rfl⟩, tv⟩
theorem Mp (N : Nat) (p0 : Ad) (r : Bool) (h : E3 N p0 = some r) : Ao zA0 133 [.e (.agg (Dv p0))] [] (bD r) := by
 unfold E3 at h
 refine cw (n := 31) (rs := [.tmp 2]) Tryz.func133 fun w0 S0 => ?_
 refine wq rfl (qb rfl (qe rfl ?_))
 refine AR h (fun v1 => mk [(2, bD v1)] []) (fun j1 h => ?_) (fun v1 h => ?_)
 ·refine Ag Av rfl (qf Gv rfl (ql BV rfl (EE rfl (qm rfl ?_))))
  refine Ey 6 h rfl (fun h => ?_) fun h => ?_
  ·refine qf Gv rfl (ql BV rfl (UW rfl (qp rfl (qm rfl ?_))))
   refine Ey 11 h rfl (fun h => ?_) fun h => ?_
   ·refine qf FB rfl (ql BV rfl (EE rfl (qp rfl (qm rfl ?_))))
    refine Ey 16 h rfl (fun h => ?_) fun h => ?_
    ·refine qf HL rfl (ql BV rfl (EE rfl (qp rfl (qm rfl ?_))))
     refine Ey 21 h rfl (fun h => ?_) fun h => ?_
     ·refine qf Gv rfl (ql BV rfl (Cf rfl (qm rfl ?_)))
      refine Ey 25 h rfl (fun h => ?_) fun h => ?_
      ·refine qw 3 rfl (qp rfl (qp rfl (qe rfl ?_)))
       exact sn [] h
      ·refine qf HL rfl (ql BV rfl (Cf rfl (qp rfl (qp rfl (qe rfl ?_)))))
       exact sn [] h
     ·refine qw 4 rfl (qu rfl (qu rfl (qu rfl (qn rfl (qp rfl (qe rfl ?_))))))
      exact sn [] h
    ·refine qw 3 rfl (qp rfl (qw 5 rfl (qu rfl (qu rfl (qu rfl (qn rfl (qp rfl (qe rfl ?_))))))))
     exact sn [] h
   ·refine qw 3 rfl (qp rfl (qw 4 rfl (qp rfl (qw 5 rfl (qu rfl (qu rfl (qu rfl (qn rfl (qp rfl (qe rfl ?_))))))))))
    exact sn [] h
  ·refine qw 3 rfl (qp rfl (qw 4 rfl (qp rfl (qw 4 rfl (qp rfl (qw 5 rfl (qu rfl (qu rfl (qu rfl (qn rfl (qp rfl (qe rfl ?_))))))))))))
   exact sn [] h
 ·obtain rfl := sj h
  refine Ae (sm [] [(2, bD v1)] [] rfl rfl) (Ar ?_)
  exact ⟨⟨[_], tm, rfl⟩, tv⟩
theorem Jd (N : Nat) (p0 : Aa) (p1 : Ac) (p2 : Ad) (r : Ac × Bool) (h : CX N p0 p1 p2 = some r) : Ao zA0 62 [.e (.agg (Ah p0)), .e (.agg (AI p1)), .e (.agg (Dv p2))] [(1, r.1.fd.map Ak), (1, r.1.fb.map Ak), (1, r.1.fe.map D4)] (.tup [.agg [.own 0, .own 1, .own 2], .one (.pure (.val (.bool r.2)))]) := by
 unfold CX at h
 refine cw (n := 201) (rs := [.cell 6 49, .tmp 7]) Tryz.func62 fun w0 S0 => ?_
 refine wq rfl (qb rfl (qb rfl (qb rfl (qz EG rfl (qa rfl (Ab (wq rfl (Di As Cy I3 rfl (qf C4 rfl (ql A1 rfl ?_))))))))))
 refine FI h fun c1 h => I4 (f := Ak) As As Cy J8 I3 (fun _ => rfl) c1 rfl (Di As Cy I3 rfl (qf BI rfl (ql A1 rfl ?_)))
 refine FI h fun c2 h => I4 (f := Ak) As As Cy J8 I3 (fun _ => rfl) c2 rfl (Di D9 EQ NI rfl (qf C6 rfl (ql H7 rfl ?_)))
 refine FI h fun c3 h => I4 (f := D4) D9 D9 EQ PT NI (fun _ => rfl) c3 rfl (Bg EG Jm rfl (qz EG rfl (qs A3 rfl (AL (by kernel_rfl) (wq rfl (qf FB rfl (ql BV rfl (qe rfl ?_))))))))
 refine AR h (fun v4 => mk [(6, oD (.ptr 6 0)), (8, oD (.ptr 8 0))] [(6, .box [.pure (.nil0), .pure (.nil0), .pure (.nil0)]), (8, .box [.own 2001, .own 2002, .own 2003]), (2001, .vec 1 (v4.1.map Ak)), (2002, .vec 1 (v4.2.1.map Ak)), (2003, .vec 1 (v4.2.2.map D4))]) (fun j4 h => ?_) (fun v4 h => ?_)
 ·refine wq rfl (qf Gv rfl (ql BV rfl (Ab (AH (wq rfl (Cf rfl (qe rfl ?_)))))))
  refine A8 h (fun h => ?_) fun h => ?_
  ·refine AN ?_
   refine AR h (fun v6 => mk [(3, oD (.ptr 3 0)), (5, oD (.ptr 5 0)), (6, oD (.ptr 6 0)), (8, oD (.ptr 8 0)), (9, iD p2.fh), (60, bD v6)] [(3, .box (Ah p0)), (5, .box (Dv p2)), (6, .box [.pure (.nil0), .pure (.nil0), .pure (.nil0)]), (8, .box [.own 2004, .own 2005, .own 2006]), (2004, .vec 1 (((([] : List Int)) ++ p1.fd).map Ak)), (2005, .vec 1 (((([] : List Int)) ++ p1.fb).map Ak)), (2006, .vec 1 (((([] : List Int)) ++ p1.fe).map D4))]) (fun j6 h => ?_) (fun v6 h => ?_)
   ·refine Ag Av rfl (qf BI rfl (ql A1 rfl (qm rfl ?_)))
    refine BD h fun v7 a7 b7 h => qi As Cy a7 (Af b7) rfl (qk BV rfl (EE rfl (qm rfl ?_)))
    refine Ey 51 h rfl (fun h => ?_) fun h => ?_
    ·refine qw 8 rfl (qp rfl (AL (by kernel_rfl) ?_))
     exact sn [(2004, 18), (2005, 22), (2006, 26)] h
    ·refine qf HL rfl (ql BV rfl (qf C4 rfl (ql A1 rfl (qm rfl ?_))))
     refine BD h fun v9 a9 b9 h => qi As Cy a9 (Af b9) rfl (qk BV rfl (Cf rfl (qp rfl (AL (by kernel_rfl) ?_))))
     exact sn [(2004, 18), (2005, 22), (2006, 26)] h
   ·refine A8 h (fun h => ?_) fun h => ?_
    ·refine wq rfl (Bg EG Jm rfl (qs A3 rfl (qe rfl ?_)))
     obtain rfl := sj h
     refine Ae ((Aq 6 0 2007 1 _ rfl rfl rfl rfl).trans ((Aq 6 1 2008 1 _ rfl rfl rfl rfl).trans ((Aq 6 2 2009 1 _ rfl rfl rfl rfl).trans (sm [(1000, 2007), (1001, 2008), (1002, 2009)] [(6, oD (.ptr 6 0)), (7, bD false)] [(6, .box [.own 1000, .own 1001, .own 1002]), (1000, .vec 1 ((([] : List Int)).map Ak)), (1001, .vec 1 ((([] : List Int)).map Ak)), (1002, .vec 1 ((([] : List Int)).map D4))] rfl rfl)))) (Ar ?_)
     exact ⟨⟨[_, _], ⟨.cellN _ _ _ _ _ _ _ rfl rfl BZ A3 rfl rfl (Jo rfl), tm⟩, rfl⟩, ⟨rfl, rfl, rfl, tv⟩⟩
    ·refine Ai (wq rfl (qf BI rfl (ql A1 rfl (qm rfl (qf HL rfl (ql BV rfl ?_))))))
     refine BD h fun v11 a11 b11 h => qI As Cy a11 (Af b11) rfl ?_
     refine DG rfl rfl rfl rfl (Af b11) rfl Cy rfl (Jc rfl) (Dy Ak ((([] : List Int)) ++ p1.fb) _ p2.fo) ?_
     refine Ab (wq rfl (qe rfl ?_))
     refine AE (L := B8 N p0 p2) h (fun v12 => mk [(3, oD (.ptr 3 0)), (5, oD (.ptr 5 0)), (6, oD (.ptr 6 0)), (8, oD (.ptr 8 0)), (9, iD p2.fh), (10, iD v12.2)] [(3, .box (Ah p0)), (5, .box (Dv p2)), (6, .box [.pure (.nil0), .pure (.nil0), .pure (.nil0)]), (8, .box [.own 2010, .own 2011, .own 2012]), (2010, .vec 1 (((([] : List Int)) ++ p1.fd).map Ak)), (2011, .vec 1 ((((([] : List Int)) ++ p1.fb).set ((p2.fh).toNat) p2.fo).map Ak)), (2012, .vec 1 (v12.1.map D4))]) (fun v13 => mk [(6, oD (.ptr 6 0)), (8, oD (.ptr 8 0))] [(6, .box [.pure (.nil0), .pure (.nil0), .pure (.nil0)]), (8, .box [.own 2013, .own 2014, .own 2015]), (2013, .vec 1 (((([] : List Int)) ++ p1.fd).map Ak)), (2014, .vec 1 ((((([] : List Int)) ++ p1.fb).set ((p2.fh).toNat) p2.fo).map Ak)), (2015, .vec 1 (v13.map D4))]) (fun _ _ => rfl) (sm [(2010, 2004), (2011, 2005), (2012, 2006)] _ _ rfl rfl) (fun j12 n12 v12 h => ?_) (fun v13 s h hs => ?_)
     ·unfold B8 at h
      refine wp rfl (qm rfl (qf Cc rfl (ql Hj rfl (AJ Dt rfl (AV rfl (Ab ?_))))))
      refine A8 h (fun h => ?_) fun h => ?_
      ·refine Ai ?_
       refine AR h (fun v15 => mk [(3, oD (.ptr 3 0)), (5, oD (.ptr 5 0)), (6, oD (.ptr 6 0)), (8, oD (.ptr 8 0)), (9, iD p2.fh), (10, iD v12.2)] [(3, .box (Ah p0)), (5, .box (Dv p2)), (6, .box [.pure (.nil0), .pure (.nil0), .pure (.nil0)]), (8, .box [.own 2016, .own 2017, .own 2018]), (2016, .vec 1 (((([] : List Int)) ++ p1.fd).map Ak)), (2017, .vec 1 ((((([] : List Int)) ++ p1.fb).set ((p2.fh).toNat) p2.fo).map Ak)), (2018, .vec 1 (v15.map D4))]) (fun j15 h => ?_) (fun v15 h => ?_)
       ·refine AH ?_
        refine AR h (fun v16 => mk [(3, oD (.ptr 3 0)), (5, oD (.ptr 5 0)), (6, oD (.ptr 6 0)), (8, oD (.ptr 8 0)), (9, iD p2.fh), (10, iD v12.2), (90, bD v16)] [(3, .box (Ah p0)), (5, .box (Dv p2)), (6, .box [.pure (.nil0), .pure (.nil0), .pure (.nil0)]), (8, .box [.own 2019, .own 2020, .own 2021]), (2019, .vec 1 (((([] : List Int)) ++ p1.fd).map Ak)), (2020, .vec 1 ((((([] : List Int)) ++ p1.fb).set ((p2.fh).toNat) p2.fo).map Ak)), (2021, .vec 1 (v12.1.map D4))]) (fun j16 h => ?_) (fun v16 h => ?_)
        ·refine Ag Av rfl (qf Cc rfl (ql Hj rfl (qm rfl ?_)))
         refine BD h fun v17 a17 b17 h => qi Dt Dl a17 (Af b17) rfl (qg Dd rfl (qk BV rfl (qm rfl (Cf rfl (qm rfl ?_)))))
         refine Ey 83 h rfl (fun h => ?_) fun h => ?_
         ·refine qf Cc rfl (ql Hj rfl (qm rfl ?_))
          refine BD h fun v19 a19 b19 h => qi Dt Dl a19 (Af b19) rfl (qK G1 Dl rfl ?_)
          refine BP h fun v20 a20 h => Ax [] (Co N v19 v20 a20) RC rfl (qp rfl (Ab ?_))
          exact sn [(2019, 2010), (2020, 2011), (2021, 2012)] h
         ·refine qw 6 rfl (qp rfl (Ab ?_))
          exact sn [(2019, 2010), (2020, 2011), (2021, 2012)] h
        ·refine A8 h (fun h => ?_) fun h => ?_
         ·refine Ag Av rfl (qf C6 rfl (ql H7 rfl (qm rfl (qf C6 rfl (ql H7 rfl (qm rfl ?_))))))
          refine BD h fun v22 a22 b22 h => qI D9 EQ a22 (Af b22) rfl (qj I1 (Af b22) rfl (qf HL rfl (ql BV rfl ?_)))
          refine FI h fun c23 h => Jj rfl c23 (WM rfl ?_)
          refine BD h fun v24 a24 b24 h => qI D9 EQ a24 (Af b24) rfl ?_
          refine DG rfl rfl rfl rfl (Af b24) rfl EQ rfl (Jc rfl) (Dy D4 v12.1 _ ((P0 .u8 v22 ((DX .u8 1 p2.fo))))) ?_
          refine AL (by kernel_rfl) ?_
          exact sn [(2016, 2019), (2017, 2020), (2018, 2021)] h
         ·refine Ai ?_
          exact sn [(2016, 2019), (2017, 2020), (2018, 2021)] h
       ·refine Ag Av rfl (qm rfl (AX rfl (qe rfl ?_)))
        exact sn [(2010, 2016), (2011, 2017), (2012, 2018)] h
      ·refine AS ?_
       exact sn [(2013, 2010), (2014, 2011), (2015, 2012)] h
     ·exact aq _ h (hs.trans (sm [(2001, 2013), (2002, 2014), (2003, 2015)] _ _ rfl rfl))
  ·refine wq rfl (Cf rfl (qe rfl ?_))
   refine A8 h (fun h => ?_) fun h => ?_
   ·refine wp rfl (qf BI rfl (ql A1 rfl (qm rfl ?_)))
    refine BD h fun v26 a26 b26 h => qi As Cy a26 (Af b26) rfl (qk BV rfl (AV rfl (Ab ?_)))
    refine A8 h (fun h => ?_) fun h => ?_
    ·refine wq rfl (Bg EG Jm rfl (qs A3 rfl (qe rfl ?_)))
     obtain rfl := sj h
     refine Ae ((Aq 6 0 2022 1 _ rfl rfl rfl rfl).trans ((Aq 6 1 2023 1 _ rfl rfl rfl rfl).trans ((Aq 6 2 2024 1 _ rfl rfl rfl rfl).trans (sm [(1000, 2022), (1001, 2023), (1002, 2024)] [(6, oD (.ptr 6 0)), (7, bD false)] [(6, .box [.own 1000, .own 1001, .own 1002]), (1000, .vec 1 ((([] : List Int)).map Ak)), (1001, .vec 1 ((([] : List Int)).map Ak)), (1002, .vec 1 ((([] : List Int)).map D4))] rfl rfl)))) (Ar ?_)
     exact ⟨⟨[_, _], ⟨.cellN _ _ _ _ _ _ _ rfl rfl BZ A3 rfl rfl (Jo rfl), tm⟩, rfl⟩, ⟨rfl, rfl, rfl, tv⟩⟩
    ·refine Ai (Ag Av rfl (qf C4 rfl (ql A1 rfl (qm rfl (qf BI rfl (ql A1 rfl (qm rfl (qf BI rfl (ql A1 rfl (qm rfl ?_))))))))))
     refine BD h fun v28 a28 b28 h => qi As Cy a28 (Af b28) rfl (qk BV rfl ?_)
     refine BD h fun v29 a29 b29 h => qI As Cy a29 (Af b29) rfl ?_
     refine DG rfl rfl rfl rfl (Af b29) rfl Cy rfl (Jc rfl) (Dy Ak ((([] : List Int)) ++ p1.fd) _ v28) ?_
     refine BD h fun v30 a30 b30 h => qI As Cy a30 (Af b30) rfl ?_
     refine DG rfl rfl rfl rfl (Af b30) rfl Cy rfl (Jc rfl) (Dy Ak ((([] : List Int)) ++ p1.fb) _ ((-1))) ?_
     refine AL (by kernel_rfl) ?_
     exact sn [(2001, 18), (2002, 22), (2003, 26)] h
   ·refine wq rfl (Cf rfl (qe rfl ?_))
    refine A8 h (fun h => ?_) fun h => ?_
    ·refine wq rfl (qf Cc rfl (ql Hj rfl (qm rfl ?_)))
     refine BD h fun v32 a32 b32 h => qi Dt Dl a32 (Af b32) rfl (qK G1 Dl rfl (qz I7 rfl (qs Dl rfl (Ab (wp rfl (qL G1 Dl rfl ?_))))))
     refine BP h fun v33 a33 h => Ax [] (Co N v32 v33 a33) RC rfl (Cm rfl (Ab ?_))
     refine A8 h (fun h => ?_) fun h => ?_
     ·refine wq rfl (Bg EG Jm rfl (qs A3 rfl (qe rfl ?_)))
      obtain rfl := sj h
      refine Ae ((Aq 6 0 2025 1 _ rfl rfl rfl rfl).trans ((Aq 6 1 2026 1 _ rfl rfl rfl rfl).trans ((Aq 6 2 2027 1 _ rfl rfl rfl rfl).trans (sm [(1000, 2025), (1001, 2026), (1002, 2027)] [(6, oD (.ptr 6 0)), (7, bD false)] [(6, .box [.own 1000, .own 1001, .own 1002]), (1000, .vec 1 ((([] : List Int)).map Ak)), (1001, .vec 1 ((([] : List Int)).map Ak)), (1002, .vec 1 ((([] : List Int)).map D4))] rfl rfl)))) (Ar ?_)
      exact ⟨⟨[_, _], ⟨.cellN _ _ _ _ _ _ _ rfl rfl BZ A3 rfl rfl (Jo rfl), tm⟩, rfl⟩, ⟨rfl, rfl, rfl, tv⟩⟩
     ·refine Ai (wq rfl (qL BZ A3 rfl (qf Dd rfl (ql BV rfl ?_))))
      refine BP h fun v35 a35 h => Ax [] (EA N p1 v32.fg v35 a35) Xq rfl (qa rfl (Ab (wp rfl (qf C6 rfl (ql H7 rfl (qm rfl ?_))))))
      refine BD h fun v36 a36 b36 h => qi D9 EQ a36 (Af b36) rfl (qk I1 rfl (qm rfl (Cf rfl (Ab ?_))))
      refine A8 h (fun h => ?_) fun h => ?_
      ·refine wq rfl (Bg EG Jm rfl (qs A3 rfl (qe rfl ?_)))
       obtain rfl := sj h
       refine Ae ((Aq 6 0 2028 1 _ rfl rfl rfl rfl).trans ((Aq 6 1 2029 1 _ rfl rfl rfl rfl).trans ((Aq 6 2 2030 1 _ rfl rfl rfl rfl).trans (sm [(1000, 2028), (1001, 2029), (1002, 2030)] [(6, oD (.ptr 6 0)), (7, bD false)] [(6, .box [.own 1000, .own 1001, .own 1002]), (1000, .vec 1 ((([] : List Int)).map Ak)), (1001, .vec 1 ((([] : List Int)).map Ak)), (1002, .vec 1 ((([] : List Int)).map D4))] rfl rfl)))) (Ar ?_)
       exact ⟨⟨[_, _], ⟨.cellN _ _ _ _ _ _ _ rfl rfl BZ A3 rfl rfl (Jo rfl), tm⟩, rfl⟩, ⟨rfl, rfl, rfl, tv⟩⟩
      ·refine Ai (wp rfl (qe rfl ?_))
       refine AE (L := BJ N p0 p1 p2 v32 v35) h (fun v38 => mk [(3, oD (.ptr 3 0)), (4, oD (.ptr 4 0)), (6, oD (.ptr 6 0)), (8, oD (.ptr 8 0)), (9, iD p2.fh), (11, oD (.ptr 11 0)), (12, pD (.val (.int .u8 v35))), (13, iD v38)] [(3, .box (Ah p0)), (4, .box (AI p1)), (6, .box [.pure (.nil0), .pure (.nil0), .pure (.nil0)]), (8, .box [.own 2031, .own 2032, .own 2033]), (11, .box (Ba v32)), (2031, .vec 1 (((([] : List Int)) ++ p1.fd).map Ak)), (2032, .vec 1 (((([] : List Int)) ++ p1.fb).map Ak)), (2033, .vec 1 (((([] : List Int)) ++ p1.fe).map D4))]) (fun v39 => mk [(6, oD (.ptr 6 0)), (8, oD (.ptr 8 0)), (9, iD p2.fh), (12, pD (.val (.int .u8 v35)))] [(6, .box [.pure (.nil0), .pure (.nil0), .pure (.nil0)]), (8, .box [.own 2034, .own 2035, .own 2036]), (2034, .vec 1 (((([] : List Int)) ++ p1.fd).map Ak)), (2035, .vec 1 (((([] : List Int)) ++ p1.fb).map Ak)), (2036, .vec 1 (((([] : List Int)) ++ p1.fe).map D4))]) (fun _ _ => rfl) (sm [(2031, 18), (2032, 22), (2033, 26)] _ _ rfl rfl) (fun j38 n38 v38 h => ?_) (fun v39 s h hs => ?_)
       ·unfold BJ at h
        refine wp rfl (qm rfl (qf A6 rfl (ql A1 rfl (qf Dd rfl (ql BV rfl ?_)))))
        refine BD h fun v40 a40 b40 h => qi As Cy a40 (Af b40) rfl (qk BV rfl (AV rfl (Ab ?_)))
        refine A8 h (fun h => ?_) fun h => ?_
        ·refine Ai (AN (AH ?_))
         refine AR h (fun v42 => mk [(3, oD (.ptr 3 0)), (4, oD (.ptr 4 0)), (6, oD (.ptr 6 0)), (8, oD (.ptr 8 0)), (9, iD p2.fh), (11, oD (.ptr 11 0)), (12, pD (.val (.int .u8 v35))), (13, iD v38), (14, bD v42)] [(3, .box (Ah p0)), (4, .box (AI p1)), (6, .box [.pure (.nil0), .pure (.nil0), .pure (.nil0)]), (8, .box [.own 2037, .own 2038, .own 2039]), (11, .box (Ba v32)), (2037, .vec 1 (((([] : List Int)) ++ p1.fd).map Ak)), (2038, .vec 1 (((([] : List Int)) ++ p1.fb).map Ak)), (2039, .vec 1 (((([] : List Int)) ++ p1.fe).map D4))]) (fun j42 h => ?_) (fun v42 h => ?_)
         ·refine Ag Av rfl (qf C6 rfl (ql H7 rfl (qm rfl ?_)))
          refine BD h fun v43 a43 b43 h => qi D9 EQ a43 (Af b43) rfl (qk I1 rfl (qm rfl ?_))
          refine BP h fun v44 a44 h => Ax [] (GT N v43 v38 v44 a44) YX rfl (qm rfl ?_)
          refine Ey 166 h rfl (fun h => ?_) fun h => ?_
          ·refine qw 2 rfl ?_
           refine BP h fun v46 a46 h => Ax [] (GT N v35 v38 v46 a46) YX rfl (Cm rfl (qp rfl (qe rfl ?_)))
           exact sn [(2037, 2031), (2038, 2032), (2039, 2033)] h
          ·refine qw 4 rfl (qp rfl (qe rfl ?_))
           exact sn [(2037, 2031), (2038, 2032), (2039, 2033)] h
         ·refine AR h (fun v47 => mk [(3, oD (.ptr 3 0)), (4, oD (.ptr 4 0)), (6, oD (.ptr 6 0)), (8, oD (.ptr 8 0)), (9, iD p2.fh), (11, oD (.ptr 11 0)), (12, pD (.val (.int .u8 v35))), (13, iD v38), (193, bD v47)] [(3, .box (Ah p0)), (4, .box (AI p1)), (6, .box [.pure (.nil0), .pure (.nil0), .pure (.nil0)]), (8, .box [.own 2040, .own 2041, .own 2042]), (11, .box (Ba v32)), (2040, .vec 1 (((([] : List Int)) ++ p1.fd).map Ak)), (2041, .vec 1 (((([] : List Int)) ++ p1.fb).map Ak)), (2042, .vec 1 (((([] : List Int)) ++ p1.fe).map D4))]) (fun j47 h => ?_) (fun v47 h => ?_)
          ·refine Ag Av rfl (qw 2 rfl ?_)
           refine Ey 173 h rfl (fun h => ?_) fun h => ?_
           ·refine qf Gu rfl (ql BV rfl (Cf rfl (qp rfl (qm rfl ?_))))
            refine Ey 178 h rfl (fun h => ?_) fun h => ?_
            ·refine qf FD rfl (ql IG rfl (qm rfl ?_))
             refine BD h fun v50 a50 b50 h => qi EC JJ a50 (Af b50) rfl (qk OI rfl (qf C4 rfl (ql A1 rfl (qf Dd rfl (ql BV rfl ?_)))))
             refine BD h fun v51 a51 b51 h => qi As Cy a51 (Af b51) rfl (qk BV rfl ?_)
             refine BD h fun v52 a52 b52 h => qi EN N7 a52 (Af b52) rfl (qk Sf rfl (Cm rfl (qp rfl (AL (by kernel_rfl) ?_))))
             exact sn [(2040, 2037), (2041, 2038), (2042, 2039)] h
            ·refine qw 14 rfl (qp rfl (AL (by kernel_rfl) ?_))
             exact sn [(2040, 2037), (2041, 2038), (2042, 2039)] h
           ·refine qw 3 rfl (qp rfl (qw 15 rfl (qp rfl (AL (by kernel_rfl) ?_))))
            exact sn [(2040, 2037), (2041, 2038), (2042, 2039)] h
          ·refine A8 h (fun h => ?_) fun h => ?_
           ·refine wq rfl (Bg EG Jm rfl (qs A3 rfl (qe rfl ?_)))
            obtain rfl := sj h
            refine Ae ((Aq 6 0 2043 1 _ rfl rfl rfl rfl).trans ((Aq 6 1 2044 1 _ rfl rfl rfl rfl).trans ((Aq 6 2 2045 1 _ rfl rfl rfl rfl).trans (sm [(1000, 2043), (1001, 2044), (1002, 2045)] [(6, oD (.ptr 6 0)), (7, bD false)] [(6, .box [.own 1000, .own 1001, .own 1002]), (1000, .vec 1 ((([] : List Int)).map Ak)), (1001, .vec 1 ((([] : List Int)).map Ak)), (1002, .vec 1 ((([] : List Int)).map D4))] rfl rfl)))) (Ar ?_)
            exact ⟨⟨[_, _], ⟨.cellN _ _ _ _ _ _ _ rfl rfl BZ A3 rfl rfl (Jo rfl), tm⟩, rfl⟩, ⟨rfl, rfl, rfl, tv⟩⟩
           ·refine Ai (Ag Av rfl (qm rfl (AX rfl (qe rfl ?_))))
            exact sn [(2031, 2040), (2032, 2041), (2033, 2042)] h
        ·refine AS ?_
         exact sn [(2034, 2031), (2035, 2032), (2036, 2033)] h
       ·refine Ae hs (Ag Av rfl (qf C6 rfl (ql H7 rfl (qw 2 rfl ?_))))
        refine BD h fun v54 a54 b54 h => qI D9 EQ a54 (Af b54) rfl ?_
        refine DG rfl rfl rfl rfl (Af b54) rfl EQ rfl (Jc rfl) (Dy D4 ((([] : List Int)) ++ p1.fe) _ v35) ?_
        refine Ab ?_
        exact sn [(2001, 2034), (2002, 2035), (2003, 2036)] h
    ·refine wp rfl (qf BI rfl (ql A1 rfl (qm rfl ?_)))
     refine BD h fun v55 a55 b55 h => qi As Cy a55 (Af b55) rfl (qk BV rfl (AV rfl (Ab ?_)))
     refine A8 h (fun h => ?_) fun h => ?_
     ·refine wq rfl (Bg EG Jm rfl (qs A3 rfl (qe rfl ?_)))
      obtain rfl := sj h
      refine Ae ((Aq 6 0 2046 1 _ rfl rfl rfl rfl).trans ((Aq 6 1 2047 1 _ rfl rfl rfl rfl).trans ((Aq 6 2 2048 1 _ rfl rfl rfl rfl).trans (sm [(1000, 2046), (1001, 2047), (1002, 2048)] [(6, oD (.ptr 6 0)), (7, bD false)] [(6, .box [.own 1000, .own 1001, .own 1002]), (1000, .vec 1 ((([] : List Int)).map Ak)), (1001, .vec 1 ((([] : List Int)).map Ak)), (1002, .vec 1 ((([] : List Int)).map D4))] rfl rfl)))) (Ar ?_)
      exact ⟨⟨[_, _], ⟨.cellN _ _ _ _ _ _ _ rfl rfl BZ A3 rfl rfl (Jo rfl), tm⟩, rfl⟩, ⟨rfl, rfl, rfl, tv⟩⟩
     ·refine Ai (Ag Av rfl (qf BI rfl (ql A1 rfl (qm rfl ?_))))
      refine BD h fun v57 a57 b57 h => qI As Cy a57 (Af b57) rfl ?_
      refine DG rfl rfl rfl rfl (Af b57) rfl Cy rfl (Jc rfl) (Dy Ak ((([] : List Int)) ++ p1.fb) _ ((-1))) ?_
      refine Ab ?_
      exact sn [(2001, 18), (2002, 22), (2003, 26)] h
 ·refine wq rfl (qL BZ A3 rfl (qs A3 rfl (qe rfl ?_)))
  obtain rfl := sj h
  refine Ae (sm [(1000, 2001), (1001, 2002), (1002, 2003)] [(6, oD (.ptr 6 0)), (7, bD true)] [(6, .box [.own 1000, .own 1001, .own 1002]), (1000, .vec 1 (v4.1.map Ak)), (1001, .vec 1 (v4.2.1.map Ak)), (1002, .vec 1 (v4.2.2.map D4))] rfl rfl) (Ar ?_)
  exact ⟨⟨[_, _], ⟨.cellN _ _ _ _ _ _ _ rfl rfl BZ A3 rfl rfl (Jo rfl), tm⟩, rfl⟩, ⟨rfl, rfl, rfl, tv⟩⟩
theorem Mk (N : Nat) (p0 : Aa) (p1 : Ac) (p2 : Ad) (r : Ac × Int) (h : E7 N p0 p1 p2 = some r) : Ao zA0 95 [.e (.agg (Ah p0)), .e (.agg (AI p1)), .e (.agg (Dv p2))] [(1, r.1.fd.map Ak), (1, r.1.fb.map Ak), (1, r.1.fe.map D4)] (.tup [.agg [.own 0, .own 1, .own 2], .one (iC r.2)]) := by
 unfold E7 at h
 refine cw (n := 73) (rs := [.cell 6 49, .tmp 7]) Tryz.func95 fun w0 S0 => ?_
 refine wq rfl (qb rfl (qb rfl (qb rfl (qz EG rfl (qa rfl (Ab (wp rfl (qL CU BY rfl (qL BZ A3 rfl ?_)))))))))
 refine BP h fun v1 a1 h => Ax [] (Hn N p0 p1 v1 a1) ZI rfl (qa rfl (Ab (wq rfl (qm rfl (Bp rfl (Ab ?_))))))
 refine A8 h (fun h => ?_) fun h => ?_
 ·refine wq rfl (Bg EG Jm rfl (qm rfl (qs A3 rfl (qe rfl ?_))))
  obtain rfl := sj h
  refine Ae ((Aq 6 0 2001 1 _ rfl rfl rfl rfl).trans ((Aq 6 1 2002 1 _ rfl rfl rfl rfl).trans ((Aq 6 2 2003 1 _ rfl rfl rfl rfl).trans (sm [(1000, 2001), (1001, 2002), (1002, 2003)] [(6, oD (.ptr 6 0)), (7, iD v1)] [(6, .box [.own 1000, .own 1001, .own 1002]), (1000, .vec 1 ((([] : List Int)).map Ak)), (1001, .vec 1 ((([] : List Int)).map Ak)), (1002, .vec 1 ((([] : List Int)).map D4))] rfl rfl)))) (Ar ?_)
  exact ⟨⟨[_, _], ⟨.cellN _ _ _ _ _ _ _ rfl rfl BZ A3 rfl rfl (Jo rfl), tm⟩, rfl⟩, ⟨rfl, rfl, rfl, tv⟩⟩
 ·refine Ai (wp rfl (qL J4 EZ rfl ?_))
  refine BP h fun v3 a3 h => Ax [] (Mp N p2 v3 a3) cJ rfl (Cm rfl (Ab ?_))
  refine A8 h (fun h => ?_) fun h => ?_
  ·refine wq rfl (Bg EG Jm rfl (qs A3 rfl (qe rfl ?_)))
   obtain rfl := sj h
   refine Ae ((Aq 6 0 2004 1 _ rfl rfl rfl rfl).trans ((Aq 6 1 2005 1 _ rfl rfl rfl rfl).trans ((Aq 6 2 2006 1 _ rfl rfl rfl rfl).trans (sm [(1000, 2004), (1001, 2005), (1002, 2006)] [(6, oD (.ptr 6 0)), (7, iD 1)] [(6, .box [.own 1000, .own 1001, .own 1002]), (1000, .vec 1 ((([] : List Int)).map Ak)), (1001, .vec 1 ((([] : List Int)).map Ak)), (1002, .vec 1 ((([] : List Int)).map D4))] rfl rfl)))) (Ar ?_)
   exact ⟨⟨[_, _], ⟨.cellN _ _ _ _ _ _ _ rfl rfl BZ A3 rfl rfl (Jo rfl), tm⟩, rfl⟩, ⟨rfl, rfl, rfl, tv⟩⟩
  ·refine Ai (AN ?_)
   refine AR h (fun v5 => mk [(3, oD (.ptr 3 0)), (4, oD (.ptr 4 0)), (5, oD (.ptr 5 0)), (6, oD (.ptr 6 0)), (45, bD v5)] [(3, .box (Ah p0)), (4, .box (AI p1)), (5, .box (Dv p2)), (6, .box [.pure (.nil0), .pure (.nil0), .pure (.nil0)])]) (fun j5 h => ?_) (fun v5 h => ?_)
   ·refine Ag Av rfl (qf Gv rfl (ql BV rfl (Cf rfl (qm rfl ?_))))
    refine Ey 25 h rfl (fun h => ?_) fun h => ?_
    ·refine qf FB rfl (ql BV rfl (qf Cc rfl (ql Hj rfl (AJ Dt rfl (EE rfl (qp rfl (qm rfl ?_)))))))
     refine Ey 33 h rfl (fun h => ?_) fun h => ?_
     ·refine qw 4 rfl (qu rfl (qu rfl (qu rfl (qu rfl (qu rfl (qu rfl (qn rfl (qp rfl (Ab ?_)))))))))
      exact sn [] h
     ·refine qf Gv rfl (ql BV rfl (Bp rfl (qm rfl ?_)))
      refine Ey 37 h rfl (fun h => ?_) fun h => ?_
      ·refine qf FB rfl (ql BV rfl (qf A6 rfl (ql A1 rfl (AJ As rfl (EE rfl (qp rfl (qp rfl (Ab ?_))))))))
       exact sn [] h
      ·refine qw 6 rfl (qp rfl (qp rfl (Ab ?_)))
       exact sn [] h
    ·refine qw 6 rfl (qp rfl (qm rfl (qf Gv rfl (ql BV rfl (Bp rfl (qm rfl ?_))))))
     refine Ey 37 h rfl (fun h => ?_) fun h => ?_
     ·refine qf FB rfl (ql BV rfl (qf A6 rfl (ql A1 rfl (AJ As rfl (EE rfl (qp rfl (qp rfl (Ab ?_))))))))
      exact sn [] h
     ·refine qw 6 rfl (qp rfl (qp rfl (Ab ?_)))
      exact sn [] h
   ·refine A8 h (fun h => ?_) fun h => ?_
    ·refine wq rfl (Bg EG Jm rfl (qs A3 rfl (qe rfl ?_)))
     obtain rfl := sj h
     refine Ae ((Aq 6 0 2007 1 _ rfl rfl rfl rfl).trans ((Aq 6 1 2008 1 _ rfl rfl rfl rfl).trans ((Aq 6 2 2009 1 _ rfl rfl rfl rfl).trans (sm [(1000, 2007), (1001, 2008), (1002, 2009)] [(6, oD (.ptr 6 0)), (7, iD 4)] [(6, .box [.own 1000, .own 1001, .own 1002]), (1000, .vec 1 ((([] : List Int)).map Ak)), (1001, .vec 1 ((([] : List Int)).map Ak)), (1002, .vec 1 ((([] : List Int)).map D4))] rfl rfl)))) (Ar ?_)
     exact ⟨⟨[_, _], ⟨.cellN _ _ _ _ _ _ _ rfl rfl BZ A3 rfl rfl (Jo rfl), tm⟩, rfl⟩, ⟨rfl, rfl, rfl, tv⟩⟩
    ·refine Ai (AN ?_)
     refine AR h (fun v11 => mk [(3, oD (.ptr 3 0)), (4, oD (.ptr 4 0)), (5, oD (.ptr 5 0)), (6, oD (.ptr 6 0)), (60, bD v11)] [(3, .box (Ah p0)), (4, .box (AI p1)), (5, .box (Dv p2)), (6, .box [.pure (.nil0), .pure (.nil0), .pure (.nil0)])]) (fun j11 h => ?_) (fun v11 h => ?_)
     ·refine Ag Av rfl (qf Gv rfl (ql BV rfl (Cf rfl (qm rfl ?_))))
      refine Ey 50 h rfl (fun h => ?_) fun h => ?_
      ·refine qf HL rfl (ql BV rfl (qf A6 rfl (ql A1 rfl (qf FB rfl (ql BV rfl ?_)))))
       refine BD h fun v13 a13 b13 h => qi As Cy a13 (Af b13) rfl (qk BV rfl (EE rfl (qp rfl (AL (by kernel_rfl) ?_))))
       exact sn [] h
      ·refine qw 9 rfl (qp rfl (AL (by kernel_rfl) ?_))
       exact sn [] h
     ·refine A8 h (fun h => ?_) fun h => ?_
      ·refine wq rfl (Bg EG Jm rfl (qs A3 rfl (qe rfl ?_)))
       obtain rfl := sj h
       refine Ae ((Aq 6 0 2010 1 _ rfl rfl rfl rfl).trans ((Aq 6 1 2011 1 _ rfl rfl rfl rfl).trans ((Aq 6 2 2012 1 _ rfl rfl rfl rfl).trans (sm [(1000, 2010), (1001, 2011), (1002, 2012)] [(6, oD (.ptr 6 0)), (7, iD 4)] [(6, .box [.own 1000, .own 1001, .own 1002]), (1000, .vec 1 ((([] : List Int)).map Ak)), (1001, .vec 1 ((([] : List Int)).map Ak)), (1002, .vec 1 ((([] : List Int)).map D4))] rfl rfl)))) (Ar ?_)
       exact ⟨⟨[_, _], ⟨.cellN _ _ _ _ _ _ _ rfl rfl BZ A3 rfl rfl (Jo rfl), tm⟩, rfl⟩, ⟨rfl, rfl, rfl, tv⟩⟩
      ·refine Ai (wq rfl (qL CU BY rfl (qL BZ A3 rfl (qL J4 EZ rfl ?_))))
       refine BP h fun v15 a15 h => Ax [2013, 2014, 2015] (Jd N p0 p1 p2 v15 a15) ck rfl (qm rfl (qx rfl (qx rfl (qz EG rfl (qs A3 rfl (qa rfl (Ab (wp rfl (qm rfl (Cm rfl (Ab ?_)))))))))))
       refine A8 h (fun h => ?_) fun h => ?_
       ·refine wq rfl (Bg EG Jm rfl (qs A3 rfl (qe rfl ?_)))
        obtain rfl := sj h
        refine Ae ((Aq 6 0 2016 1 _ rfl rfl rfl rfl).trans ((Aq 6 1 2017 1 _ rfl rfl rfl rfl).trans ((Aq 6 2 2018 1 _ rfl rfl rfl rfl).trans (sm [(1000, 2016), (1001, 2017), (1002, 2018)] [(6, oD (.ptr 6 0)), (7, iD 11)] [(6, .box [.own 1000, .own 1001, .own 1002]), (1000, .vec 1 ((([] : List Int)).map Ak)), (1001, .vec 1 ((([] : List Int)).map Ak)), (1002, .vec 1 ((([] : List Int)).map D4))] rfl rfl)))) (Ar ?_)
        exact ⟨⟨[_, _], ⟨.cellN _ _ _ _ _ _ _ rfl rfl BZ A3 rfl rfl (Jo rfl), tm⟩, rfl⟩, ⟨rfl, rfl, rfl, tv⟩⟩
       ·refine Ai (wq rfl (qL BZ A3 rfl (qs A3 rfl (qe rfl ?_))))
        obtain rfl := sj h
        refine Ae (sm [(1000, 2013), (1001, 2014), (1002, 2015)] [(6, oD (.ptr 6 0)), (7, iD 0)] [(6, .box [.own 1000, .own 1001, .own 1002]), (1000, .vec 1 (v15.1.fd.map Ak)), (1001, .vec 1 (v15.1.fb.map Ak)), (1002, .vec 1 (v15.1.fe.map D4))] rfl rfl) (Ar ?_)
        exact ⟨⟨[_, _], ⟨.cellN _ _ _ _ _ _ _ rfl rfl BZ A3 rfl rfl (Jo rfl), tm⟩, rfl⟩, ⟨rfl, rfl, rfl, tv⟩⟩
theorem Md (N : Nat) (p0 : Aa) (p1 : Ac) (r : (List Ad)) (h : E8 N p0 p1 = some r) : Ao zA0 61 [.e (.agg (Ah p0)), .e (.agg (AI p1))] [(3, r.map AA)] (oD (.own 0)) := by
 unfold E8 at h
 refine cw (n := 49) (rs := [.tmp 4]) Tryz.func61 fun w0 S0 => ?_
 refine wq rfl (qb rfl (qb rfl (qa rfl (Ab (wq rfl (qa rfl (Ab (wp rfl (qe rfl ?_)))))))))
 refine AE (L := By N p0 p1) h (fun v1 => mk [(2, oD (.ptr 2 0)), (3, oD (.ptr 3 0)), (5, oD (.own 2001)), (6, iD v1.2)] [(2, .box (Ah p0)), (3, .box (AI p1)), (2001, .vec 3 (v1.1.map AA))]) (fun v2 => mk [(5, oD (.own 2002))] [(2002, .vec 3 (v2.map AA))]) (fun _ _ => rfl) ((AU 5 2011 3 rfl rfl rfl).trans (sm [(2001, 2011)] _ _ rfl rfl)) (fun j1 n1 v1 h => ?_) (fun v2 s h hs => ?_)
 ·unfold By at h
  refine wp rfl (qm rfl (UW rfl (Ab ?_)))
  refine A8 h (fun h => ?_) fun h => ?_
  ·refine Ai (AN (AH (wq rfl (qe rfl ?_))))
   refine AE (L := Ce N p0 p1 v1) h (fun v4 => mk [(2, oD (.ptr 2 0)), (3, oD (.ptr 3 0)), (5, oD (.own 2003)), (6, iD v1.2), (7, iD v4.2)] [(2, .box (Ah p0)), (3, .box (AI p1)), (2003, .vec 3 (v4.1.map AA))]) (fun v5 => mk [(2, oD (.ptr 2 0)), (3, oD (.ptr 3 0)), (5, oD (.own 2004)), (6, iD v1.2)] [(2, .box (Ah p0)), (3, .box (AI p1)), (2004, .vec 3 (v5.map AA))]) (fun _ _ => rfl) (sm [(2003, 2001)] _ _ rfl rfl) (fun j4 n4 v4 h => ?_) (fun v5 s h hs => ?_)
   ·unfold Ce at h
    refine wp rfl (qm rfl (qf A6 rfl (ql A1 rfl (AJ As rfl (qf Cc rfl (ql Hj rfl (AJ Dt rfl ?_)))))))
    refine cd (.p rfl) rfl rfl ?_
    refine AV rfl (Ab ?_)
    refine A8 h (fun h => ?_) fun h => ?_
    ·refine Ai (AN (AH (wq rfl (qe rfl ?_))))
     refine AE (L := Cg N p0 p1 v1 v4) h (fun v7 => mk [(2, oD (.ptr 2 0)), (3, oD (.ptr 3 0)), (5, oD (.own 2005)), (6, iD v1.2), (7, iD v4.2), (8, iD v7.2)] [(2, .box (Ah p0)), (3, .box (AI p1)), (2005, .vec 3 (v7.1.map AA))]) (fun v8 => mk [(2, oD (.ptr 2 0)), (3, oD (.ptr 3 0)), (5, oD (.own 2006)), (6, iD v1.2), (7, iD v4.2)] [(2, .box (Ah p0)), (3, .box (AI p1)), (2006, .vec 3 (v8.map AA))]) (fun _ _ => rfl) (sm [(2005, 2003)] _ _ rfl rfl) (fun j7 n7 v7 h => ?_) (fun v8 s h hs => ?_)
     ·unfold Cg at h
      refine wp rfl (qm rfl (AV rfl (Ab ?_)))
      refine A8 h (fun h => ?_) fun h => ?_
      ·refine Ai ?_
       refine AR h (fun v10 => mk [(2, oD (.ptr 2 0)), (3, oD (.ptr 3 0)), (5, oD (.own 2007)), (6, iD v1.2), (7, iD v4.2), (8, iD v7.2)] [(2, .box (Ah p0)), (3, .box (AI p1)), (2007, .vec 3 (v10.map AA))]) (fun j10 h => ?_) (fun v10 h => ?_)
       ·refine AH (wq rfl (qw 3 rfl (Bg Ky YT rfl (qz Ky rfl (qs EZ rfl (Ab (wq rfl (qL CU BY rfl (qL BZ A3 rfl (qL J4 EZ rfl ?_))))))))))
        refine BP h fun v11 a11 h => Ax [2008, 2009, 2010] (Mk N p0 p1 ((Ad.mk v1.2 v4.2 v7.2)) v11 a11) dP rfl (qm rfl (qx rfl (qx rfl (qz EG rfl (qs A3 rfl (qa rfl (Ab (wq rfl (qm rfl (Cf rfl (Ab ?_)))))))))))
        refine A8 h (fun h => ?_) fun h => ?_
        ·refine Ag Av rfl (qm rfl (qL J4 EZ rfl (Di EO EZ Ky rfl ?_)))
         refine FI h fun c13 h => Ck (f := AA) EO EO EZ Qy Ky c13 rfl (qe rfl ?_)
         exact sn [(2007, 47)] h
        ·refine Ai ?_
         exact sn [(2007, 2005)] h
       ·refine Ag Av rfl (qm rfl (AX rfl (qe rfl ?_)))
        exact sn [(2005, 2007)] h
      ·refine AS ?_
       exact sn [(2006, 2005)] h
     ·refine Ae hs (Ag Av rfl (qm rfl (AX rfl (qe rfl ?_))))
      exact sn [(2003, 2006)] h
    ·refine AS ?_
     exact sn [(2004, 2003)] h
   ·refine Ae hs (Ag Av rfl (qm rfl (AX rfl (qe rfl ?_))))
    exact sn [(2001, 2004)] h
  ·refine AS ?_
   exact sn [(2002, 2001)] h
 ·refine Ae hs (wq rfl (qm rfl (qe rfl ?_)))
  obtain rfl := sj h
  refine Ae (sm [(1000, 2002)] [(4, oD (.own 1000))] [(1000, .vec 3 (v2.map AA))] rfl rfl) (Ar ?_)
  exact ⟨⟨[_], tm, rfl⟩, ⟨rfl, tv⟩⟩
theorem HV (N : Nat) (p0 : List Int) (p1 : List Int) (r : Int) (h : DJ N p0 p1 = some r) : Ao zA0 129 [pD (.sl (p0.map Ak)), pD (.sl (p1.map Ak))] [] (iD r) := by
 unfold DJ at h
 refine cw (n := 46) (rs := [.tmp 4]) Tryz.func129 fun w0 S0 => ?_
 refine wq rfl (qa rfl (Ab (wp rfl (qe rfl ?_))))
 refine AE (L := DB N p0 p1) h (fun v1 => mk [(0, pD (.sl (p0.map Ak))), (1, pD (.sl (p1.map Ak))), (5, iD v1)] []) (fun v2 => mk [(0, pD (.sl (p0.map Ak))), (1, pD (.sl (p1.map Ak)))] []) (fun _ _ => rfl) (sm [] _ _ rfl rfl) (fun j1 n1 v1 h => ?_) (fun v2 s h hs => ?_)
 ·unfold DB at h
  refine AN ?_
  refine AR h (fun v3 => mk [(0, pD (.sl (p0.map Ak))), (1, pD (.sl (p1.map Ak))), (5, iD v1), (15, bD v3)] []) (fun j3 h => ?_) (fun v3 h => ?_)
  ·refine Ag Av rfl (qw 2 rfl (AJ As rfl (AV rfl (qm rfl ?_))))
   refine Ey 10 h rfl (fun h => ?_) fun h => ?_
   ·refine qw 2 rfl (AJ As rfl (AV rfl (qp rfl (Ab ?_))))
    exact sn [] h
   ·refine qw 4 rfl (qp rfl (Ab ?_))
    exact sn [] h
  ·refine A8 h (fun h => ?_) fun h => ?_
   ·refine Ai (AN (AH (wp rfl (qw 2 rfl ?_))))
    refine BD h fun v6 a6 b6 h => qi As Cy a6 (Af b6) rfl (qk BV rfl (qw 2 rfl ?_))
    refine BD h fun v7 a7 b7 h => qi As Cy a7 (Af b7) rfl (qk BV rfl (AV rfl (AL (by kernel_rfl) ?_)))
    refine A8 h (fun h => ?_) fun h => ?_
    ·refine wq rfl (qe rfl ?_)
     obtain rfl := sj h
     refine Ae (sm [] [(4, iD ((-1)))] [] rfl rfl) (Ar ?_)
     exact ⟨⟨[_], tm, rfl⟩, tv⟩
    ·refine Ai (wq rfl (qw 2 rfl ?_))
     refine BD h fun v9 a9 b9 h => qi As Cy a9 (Af b9) rfl (qk BV rfl (qw 2 rfl ?_))
     refine BD h fun v10 a10 b10 h => qi As Cy a10 (Af b10) rfl (qk BV rfl (GM rfl (AL (by kernel_rfl) ?_)))
     refine A8 h (fun h => ?_) fun h => ?_
     ·refine wq rfl (qe rfl ?_)
      obtain rfl := sj h
      refine Ae (sm [] [(4, iD 1)] [] rfl rfl) (Ar ?_)
      exact ⟨⟨[_], tm, rfl⟩, tv⟩
     ·refine Ai (Ag Av rfl (qm rfl (AX rfl (qe rfl ?_))))
      exact sn [] h
   ·refine AS ?_
    exact sn [] h
 ·refine Ae hs (wp rfl (qm rfl (AJ As rfl (qm rfl (AJ As rfl (AV rfl (Ab ?_)))))))
  refine A8 h (fun h => ?_) fun h => ?_
  ·refine wq rfl (qe rfl ?_)
   obtain rfl := sj h
   refine Ae (sm [] [(4, iD ((-1)))] [] rfl rfl) (Ar ?_)
   exact ⟨⟨[_], tm, rfl⟩, tv⟩
  ·refine Ai (wp rfl (qm rfl (AJ As rfl (qm rfl (AJ As rfl (GM rfl (Ab ?_)))))))
   refine A8 h (fun h => ?_) fun h => ?_
   ·refine wq rfl (qe rfl ?_)
    obtain rfl := sj h
    refine Ae (sm [] [(4, iD 1)] [] rfl rfl) (Ar ?_)
    exact ⟨⟨[_], tm, rfl⟩, tv⟩
   ·refine Ai (wq rfl (qe rfl ?_))
    obtain rfl := sj h
    refine Ae (sm [] [(4, iD 0)] [] rfl rfl) (Ar ?_)
    exact ⟨⟨[_], tm, rfl⟩, tv⟩
theorem Iw (N : Nat) (p0 : List Int) (r : (List Int)) (h : DD N p0 = some r) : Ao zA0 130 [pD (.sl (p0.map D4))] [(1, r.map Ak)] (oD (.own 0)) := by
 unfold DD at h
 refine cw (n := 20) (rs := [.tmp 2]) Tryz.func130 fun w0 S0 => ?_
 refine wq rfl (qa rfl (Ab (wq rfl (qa rfl (Ab (wp rfl (qe rfl ?_)))))))
 refine AE (L := C2 N p0) h (fun v1 => mk [(0, pD (.sl (p0.map D4))), (3, oD (.own 2001)), (4, iD v1.2)] [(2001, .vec 1 (v1.1.map Ak))]) (fun v2 => mk [(3, oD (.own 2002))] [(2002, .vec 1 (v2.map Ak))]) (fun _ _ => rfl) ((AU 3 2003 1 rfl rfl rfl).trans (sm [(2001, 2003)] _ _ rfl rfl)) (fun j1 n1 v1 h => ?_) (fun v2 s h hs => ?_)
 ·unfold C2 at h
  refine wp rfl (qw 2 rfl (AJ D9 rfl (AV rfl (Ab ?_))))
  refine A8 h (fun h => ?_) fun h => ?_
  ·refine Ai (AN (AH (Ag Av rfl (qw 3 rfl ?_))))
   refine BD h fun v4 a4 b4 h => qi D9 EQ a4 (Af b4) rfl (qk I1 rfl (JP de XX rfl (Di As Cy I3 rfl ?_)))
   refine FI h fun c5 h => Ck (f := Ak) As As Cy J8 I3 c5 rfl (qa rfl (Ab (Ag Av rfl (qm rfl (AX rfl (qe rfl ?_))))))
   exact sn [(2001, 18)] h
  ·refine AS ?_
   exact sn [(2002, 2001)] h
 ·refine Ae hs (wq rfl (qm rfl (qe rfl ?_)))
  obtain rfl := sj h
  refine Ae (sm [(1000, 2002)] [(2, oD (.own 1000))] [(1000, .vec 1 (v2.map Ak))] rfl rfl) (Ar ?_)
  exact ⟨⟨[_], tm, rfl⟩, ⟨rfl, tv⟩⟩
theorem Lp (N : Nat) (p0 : Ac) (p1 : Ac) (r : Int) (h : Ek N p0 p1 = some r) : Ao zA0 89 [.e (.agg (AI p0)), .e (.agg (AI p1))] [] (iD r) := by
 unfold Ek at h
 refine cw (n := 30) (rs := [.tmp 4]) Tryz.func89 fun w0 S0 => ?_
 refine wq rfl (qb rfl (qb rfl (qa rfl (Ab (wp rfl (qf C4 rfl (ql A1 rfl (qf C4 rfl (ql A1 rfl ?_)))))))))
 refine BP h fun v1 a1 h => Ax [] (HV N p0.fd p1.fd v1 a1) WP rfl (qa rfl (Ab (wq rfl (qm rfl (Bp rfl (Ab ?_))))))
 refine A8 h (fun h => ?_) fun h => ?_
 ·refine wq rfl (qm rfl (qe rfl ?_))
  obtain rfl := sj h
  refine Ae (sm [] [(4, iD v1)] [] rfl rfl) (Ar ?_)
  exact ⟨⟨[_], tm, rfl⟩, tv⟩
 ·refine Ai (wp rfl (qf BI rfl (ql A1 rfl (qf BI rfl (ql A1 rfl ?_)))))
  refine BP h fun v3 a3 h => Ax [] (HV N p0.fb p1.fb v3 a3) WP rfl (qa rfl (Ab (wq rfl (qm rfl (Bp rfl (Ab ?_))))))
  refine A8 h (fun h => ?_) fun h => ?_
  ·refine wq rfl (qm rfl (qe rfl ?_))
   obtain rfl := sj h
   refine Ae (sm [] [(4, iD v3)] [] rfl rfl) (Ar ?_)
   exact ⟨⟨[_], tm, rfl⟩, tv⟩
  ·refine Ai (wq rfl (qf C6 rfl (ql H7 rfl ?_)))
   refine BP h fun v5 a5 h => Ax [2001] (Iw N p0.fe v5 a5) ZB rfl (qf C6 rfl (ql H7 rfl ?_))
   refine BP h fun v6 a6 h => Ax [2002] (Iw N p1.fe v6 a6) ZB rfl ?_
   refine BP h fun v7 a7 h => D0 [] [2001, 2002] (HV N v5 v6 v7 a7) WP Cn rfl (qa rfl (AL (by kernel_rfl) ?_))
   obtain rfl := sj h
   refine Ae (sm [] [(4, iD v7)] [] rfl rfl) (Ar ?_)
   exact ⟨⟨[_], tm, rfl⟩, tv⟩
theorem Mj (N : Nat) (p0 : Ac) (p1 : Ac) (r : Bool) (h : EX N p0 p1 = some r) : Ao zA0 164 [.e (.agg (AI p0)), .e (.agg (AI p1))] [] (bD r) := by
 unfold EX at h
 refine cw (n := 9) (rs := [.tmp 4]) Tryz.func164 fun w0 S0 => ?_
 refine wq rfl (qb rfl (qb rfl (qa rfl (Ab (wq rfl (qL BZ A3 rfl (qL BZ A3 rfl ?_)))))))
 refine BP h fun v1 a1 h => Ax [] (Lp N p0 p1 v1 a1) d6 rfl (Cf rfl (qe rfl ?_))
 obtain rfl := sj h
 refine Ae (sm [] [(4, bD ((v1 == 0)))] [] rfl rfl) (Ar ?_)
 exact ⟨⟨[_], tm, rfl⟩, tv⟩
theorem MJ (N : Nat) (p0 : List AC) (p1 : Ac) (r : Int) (h : Et N p0 p1 = some r) : Ao zA0 134 [pD (.sl (p0.map BF)), .e (.agg (AI p1))] [] (iD r) := by
 unfold Et at h
 refine cw (n := 20) (rs := [.tmp 4]) Tryz.func134 fun w0 S0 => ?_
 refine wq rfl (qb rfl (qa rfl (Ab (wp rfl (qe rfl ?_)))))
 refine AE (L := Cp N p0 p1) h (fun v1 => mk [(0, pD (.sl (p0.map BF))), (3, oD (.ptr 3 0)), (5, iD v1)] [(3, .box (AI p1))]) (fun v2 => mk [] []) (fun _ _ => rfl) (sm [] _ _ rfl rfl) (fun j1 n1 v1 h => ?_) (fun v2 s h hs => ?_)
 ·unfold Cp at h
  refine wp rfl (qw 2 rfl (AJ HP rfl (AV rfl (Ab ?_))))
  refine A8 h (fun h => ?_) fun h => ?_
  ·refine Ai (AN (AH (wq rfl (qw 2 rfl ?_))))
   refine BD h fun v4 a4 b4 h => qi HP Mq a4 (Af b4) rfl (qg Nz rfl (qK BZ A3 rfl (qL BZ A3 rfl ?_)))
   refine BP h fun v5 a5 h => Ax [] (Mj N ((Ac.mk v4.fu.fd v4.fu.fb v4.fu.fe)) p1 v5 a5) aQ rfl (AL (by kernel_rfl) ?_)
   refine A8 h (fun h => ?_) fun h => ?_
   ·refine wq rfl (qm rfl (qe rfl ?_))
    obtain rfl := sj h
    refine Ae (sm [] [(4, iD v1)] [] rfl rfl) (Ar ?_)
    exact ⟨⟨[_], tm, rfl⟩, tv⟩
   ·refine Ai (Ag Av rfl (qm rfl (AX rfl (qe rfl ?_))))
    exact sn [] h
  ·refine AS ?_
   exact sn [] h
 ·refine Ae hs (wq rfl (qe rfl ?_))
  obtain rfl := sj h
  refine Ae (sm [] [(4, iD ((-1)))] [] rfl rfl) (Ar ?_)
  exact ⟨⟨[_], tm, rfl⟩, tv⟩
theorem Je (N : Nat) (p0 : Aa) (p1 : Ac) (p2 : Int) (r : (List AC) × Bool) (h : CZ N p0 p1 p2 = some r) : Ao zA0 99 [.e (.agg (Ah p0)), .e (.agg (AI p1)), iD p2] [(7, r.1.map BF)] (.tup [.one (.own 0), .one (.pure (.val (.bool r.2)))]) := by
 unfold CZ at h
 refine cw (n := 74) (rs := [.tmp 6, .tmp 7]) Tryz.func99 fun w0 S0 => ?_
 refine wq rfl (qb rfl (qb rfl (qa rfl (qa rfl (Ab (wq rfl (qL BZ A3 rfl (Bg Sk Zd rfl (Di HP Mq Sk rfl (qa rfl (Ab (wp rfl (qe rfl ?_)))))))))))))
 refine AE (L := BS N p0 p2) h (fun v1 => mk [(2, iD p2), (3, oD (.ptr 3 0)), (8, oD (.own 2001)), (9, iD v1.2)] [(3, .box (Ah p0)), (2001, .vec 7 (v1.1.map BF))]) (fun v2 => mk [(8, oD (.own 2002))] [(2002, .vec 7 (v2.map BF))]) (fun _ _ => rfl) (sm [(2001, 16)] _ _ rfl rfl) (fun j1 n1 v1 h => ?_) (fun v2 s h hs => ?_)
 ·unfold BS at h
  refine wp rfl (qw 2 rfl (EL HP rfl (AV rfl (Ab ?_))))
  refine A8 h (fun h => ?_) fun h => ?_
  ·refine Ai (AN (AH (wq rfl (qL CU BY rfl (qw 2 rfl ?_)))))
   refine BD h fun v4 a4 b4 h => qI HP Mq a4 (Af b4) rfl (qh Nz rfl ?_)
   refine Pv (.p rfl) rfl BZ A3 rfl (Af b4) rfl rfl (by decide) ?_
   refine BP h fun v5 a5 h => Ax [2003] (Md N p0 ((Ac.mk v4.fu.fd v4.fu.fb v4.fu.fe)) v5 a5) et rfl (qa rfl (AL (by kernel_rfl) (wq rfl (qe rfl ?_))))
   refine AE (L := BR N p0 p2 v1 v5) h (fun v6 => mk [(2, iD p2), (3, oD (.ptr 3 0)), (8, oD (.own 2004)), (9, iD v1.2), (10, oD (.own 2005)), (11, iD v6.2)] [(3, .box (Ah p0)), (2004, .vec 7 (v6.1.map BF)), (2005, .vec 3 (v5.map AA))]) (fun v7 => mk [(2, iD p2), (3, oD (.ptr 3 0)), (8, oD (.own 2006)), (9, iD v1.2)] [(3, .box (Ah p0)), (2006, .vec 7 (v7.map BF))]) (fun _ _ => rfl) (sm [(2004, 2001), (2005, 2003)] _ _ rfl rfl) (fun j6 n6 v6 h => ?_) (fun v7 s h hs => ?_)
   ·unfold BR at h
    refine wp rfl (qw 2 rfl (EL EO rfl (AV rfl (Ab ?_))))
    refine A8 h (fun h => ?_) fun h => ?_
    ·refine Ai (AN (AH (wq rfl (qL CU BY rfl (qw 2 rfl ?_)))))
     refine BD h fun v9 a9 b9 h => qI HP Mq a9 (Af b9) rfl (qh Nz rfl ?_)
     refine Pv (.p rfl) rfl BZ A3 rfl (Af b9) rfl rfl (by decide) ?_
     refine qw 2 rfl ?_
     refine BD h fun v10 a10 b10 h => qI EO EZ a10 (Af b10) rfl (qJ J4 EZ (Af b10) rfl ?_)
     refine BP h fun v11 a11 h => Ax [2007, 2008, 2009] (Jd N p0 ((Ac.mk v9.fu.fd v9.fu.fb v9.fu.fe)) v10 v11 a11) ck rfl (qm rfl (qx rfl (qx rfl (qz EG rfl (qs A3 rfl (qa rfl (AL (by kernel_rfl) ?_)))))))
     refine AR h (fun v12 => mk [(2, iD p2), (3, oD (.ptr 3 0)), (8, oD (.own 2010)), (9, iD v1.2), (10, oD (.own 2011)), (11, iD v6.2)] [(3, .box (Ah p0)), (2010, .vec 7 (v12.map BF)), (2011, .vec 3 (v5.map AA))]) (fun j12 h => ?_) (fun v12 h => ?_)
     ·refine AR h (fun v13 => mk [(2, iD p2), (3, oD (.ptr 3 0)), (8, oD (.own 2015)), (9, iD v1.2), (10, oD (.own 2016)), (11, iD v6.2), (12, oD (.ptr 12 0)), (58, bD v13)] [(3, .box (Ah p0)), (12, .box [.own 2012, .own 2013, .own 2014]), (2012, .vec 1 (v11.1.fd.map Ak)), (2013, .vec 1 (v11.1.fb.map Ak)), (2014, .vec 1 (v11.1.fe.map D4)), (2015, .vec 7 (v6.1.map BF)), (2016, .vec 3 (v5.map AA))]) (fun j13 h => ?_) (fun v13 h => ?_)
      ·refine Ag Av rfl (qL CU BY rfl (qL BZ A3 rfl ?_))
       refine BP h fun v14 a14 h => D0 [] [2007, 2008, 2009] (Gy N p0 v11.1 v14 a14) aE Cn rfl (qm rfl ?_)
       refine Ey 53 h rfl (fun h => ?_) fun h => ?_
       ·refine qm rfl (qL BZ A3 rfl ?_)
        refine BP h fun v16 a16 h => D0 [] [2004, 2007, 2008, 2009] (MJ N v6.1 v11.1 v16 a16) aU Cn rfl (AV rfl (qp rfl (Ab ?_)))
        exact sn [(2012, 2007), (2013, 2008), (2014, 2009), (2015, 2004), (2016, 2005)] h
       ·refine qw 4 rfl (qp rfl (Ab ?_))
        exact sn [(2012, 2007), (2013, 2008), (2014, 2009), (2015, 2004), (2016, 2005)] h
      ·refine A8 h (fun h => ?_) fun h => ?_
       ·refine Ae (A9 2012 _ _ rfl rfl) (Ae (A9 2013 _ _ rfl rfl) (Ae (A9 2014 _ _ rfl rfl) (Ag Av rfl (qm rfl (qL BZ A3 rfl (qw 3 rfl ?_))))))
        refine BD h fun v18 a18 b18 h => qI EO EZ a18 (Af b18) rfl (qJ J4 EZ (Af b18) rfl (Bg Sk Zd rfl (Di HP Mq Sk rfl ?_)))
        refine FI h fun c19 h => Ck (f := BF) HP HP Mq ZO Sk c19 rfl (qa rfl (AL (by kernel_rfl) ?_))
        exact sn [(2010, 68), (2011, 2016)] h
       ·refine Ai ?_
        exact sn [(2010, 2015), (2011, 2016)] h
     ·refine wq rfl (qm rfl (EL HP rfl (qm rfl (GM rfl (Ab ?_)))))
      refine A8 h (fun h => ?_) fun h => ?_
      ·refine wq rfl (qa rfl (qe rfl ?_))
       obtain rfl := sj h
       refine Ae ((AU 6 2017 7 rfl rfl rfl).trans (sm [(1000, 2017)] [(6, oD (.own 1000)), (7, bD false)] [(1000, .vec 7 ((([] : List AC)).map BF))] rfl rfl)) (Ar ?_)
       exact ⟨⟨[_, _], ⟨.tmp _ _ rfl, tm⟩, rfl⟩, ⟨rfl, tv⟩⟩
      ·refine Ai (Ag Av rfl (qm rfl (AX rfl (qe rfl ?_))))
       exact sn [(2004, 2010), (2005, 2011)] h
    ·refine AS ?_
     exact sn [(2006, 2004)] h
   ·refine Ae hs (Ag Av rfl (qm rfl (AX rfl (qe rfl ?_))))
    exact sn [(2001, 2006)] h
  ·refine AS ?_
   exact sn [(2002, 2001)] h
 ·refine Ae hs (wq rfl (qm rfl (qa rfl (qe rfl ?_))))
  obtain rfl := sj h
  refine Ae (sm [(1000, 2002)] [(6, oD (.own 1000)), (7, bD true)] [(1000, .vec 7 (v2.map BF))] rfl rfl) (Ar ?_)
  exact ⟨⟨[_, _], ⟨.tmp _ _ rfl, tm⟩, rfl⟩, ⟨rfl, tv⟩⟩
theorem Mn (N : Nat) (p0 : Aa) (p1 : Int) (r : Bool) (h : EW N p0 p1 = some r) : Ao zA0 68 [.e (.agg (Ah p0)), iD p1] [] (bD r) := by
 unfold EW at h
 refine cw (n := 30) (rs := [.tmp 4]) Tryz.func68 fun w0 S0 => ?_
 refine wq rfl (qb rfl (qa rfl (Ab (wq rfl (qL CU BY rfl ?_)))))
 refine BP h fun v1 a1 h => Ax [2001, 2002, 2003] (Jf N p0 v1 a1) dg rfl (qm rfl (qx rfl (qx rfl (qz EG rfl (qs A3 rfl (qa rfl (Ab (AN ?_))))))))
 refine AR h (fun v2 => mk [(1, iD p1), (2, oD (.ptr 2 0)), (5, oD (.ptr 5 0)), (21, bD v2)] [(2, .box (Ah p0)), (5, .box [.own 2004, .own 2005, .own 2006]), (2004, .vec 1 (v1.1.fd.map Ak)), (2005, .vec 1 (v1.1.fb.map Ak)), (2006, .vec 1 (v1.1.fe.map D4))]) (fun j2 h => ?_) (fun v2 h => ?_)
 ·refine Ag Av rfl (qm rfl (Bp rfl (qm rfl ?_)))
  refine Ey 16 h rfl (fun h => ?_) fun h => ?_
  ·refine qw 4 rfl (qp rfl (Ab ?_))
   exact sn [(2004, 2001), (2005, 2002), (2006, 2003)] h
  ·refine qL CU BY rfl (qL BZ A3 rfl ?_)
   refine BP h fun v4 a4 h => D0 [] [2001, 2002, 2003] (Gy N p0 v1.1 v4 a4) aE Cn rfl (Cm rfl (qp rfl (Ab ?_)))
   exact sn [(2004, 2001), (2005, 2002), (2006, 2003)] h
 ·refine A8 h (fun h => ?_) fun h => ?_
  ·refine wq rfl (qe rfl ?_)
   obtain rfl := sj h
   refine Ae (sm [] [(4, bD true)] [] rfl rfl) (Ar ?_)
   exact ⟨⟨[_], tm, rfl⟩, tv⟩
  ·refine Ai (wq rfl (qL CU BY rfl (qL BZ A3 rfl (qm rfl (CY (A9 2004 _ _ rfl rfl) (CY (A9 2005 _ _ rfl rfl) (CY (A9 2006 _ _ rfl rfl) ?_)))))))
   refine BP h fun v6 a6 h => Ax [2007] (Je N p0 v1.1 p1 v6 a6) aR rfl (qm rfl (qx rfl (qx rfl (qa rfl (qa rfl (Ab (wq rfl (qm rfl (qe rfl ?_)))))))))
   obtain rfl := sj h
   refine Ae (sm [] [(4, bD v6.2)] [] rfl rfl) (Ar ?_)
   exact ⟨⟨[_], tm, rfl⟩, tv⟩
theorem Mm (N : Nat) (p0 : Aa) (r : Bool) (h : FQ N p0 = some r) : Ao zA0 36 [.e (.agg (Ah p0))] [] (bD r) := by
 unfold FQ at h
 refine cw (n := 40) (rs := [.tmp 2]) Tryz.func36 fun w0 S0 => ?_
 refine wq rfl (qb rfl (qa rfl (Ab (wp rfl (qL CU BY rfl ?_)))))
 refine BP h fun v1 a1 h => Ax [] (Dr N p0 v1 a1) WZ rfl (Bp rfl (Ab ?_))
 refine A8 h (fun h => ?_) fun h => ?_
 ·refine wq rfl (qe rfl ?_)
  obtain rfl := sj h
  refine Ae (sm [] [(2, bD true)] [] rfl rfl) (Ar ?_)
  exact ⟨⟨[_], tm, rfl⟩, tv⟩
 ·refine Ai (wp rfl (qf A6 rfl (ql A1 rfl (AJ As rfl (GM rfl (Ab ?_))))))
  refine A8 h (fun h => ?_) fun h => ?_
  ·refine wq rfl (qe rfl ?_)
   obtain rfl := sj h
   refine Ae (sm [] [(2, bD false)] [] rfl rfl) (Ar ?_)
   exact ⟨⟨[_], tm, rfl⟩, tv⟩
  ·refine Ai (wq rfl (qf A6 rfl (ql A1 rfl (AJ As rfl ?_))))
   refine BP h fun v4 a4 h => Ax [2001] (J5 N ((p0.fa.length : Int)) v4 a4) cD rfl (qa rfl (Ab (wp rfl (qe rfl ?_))))
   refine AE (L := CR N p0 v4) h (fun v5 => mk [(1, oD (.ptr 1 0)), (3, oD (.own 2002)), (4, iD v5)] [(1, .box (Ah p0)), (2002, .vec 1 (v4.map (EP Ak)))]) (fun v6 => mk [] []) (fun _ _ => rfl) (sm [(2002, 2001)] _ _ rfl rfl) (fun j5 n5 v5 h => ?_) (fun v6 s h hs => ?_)
   ·unfold CR at h
    refine wp rfl (qw 2 rfl (EL Fq rfl (AV rfl (Ab ?_))))
    refine A8 h (fun h => ?_) fun h => ?_
    ·refine Ai (AN (AH (wq rfl (qL CU BY rfl (qw 2 rfl ?_)))))
     refine BD h fun v8 a8 b8 h => qI Fq GZ a8 (Af b8) rfl (qj A1 (Af b8) rfl ?_)
     refine BP h fun v9 a9 h => Ax [2003, 2004, 2005, 2006] (Ip N p0 v8 v9 a9) cO rfl (qm rfl (qx rfl (qx rfl (qz Km rfl (qs BY rfl (qa rfl (AL (by kernel_rfl) ?_)))))))
     refine AR h (fun v10 => mk [(1, oD (.ptr 1 0)), (3, oD (.own 2007)), (4, iD v5), (39, bD v10)] [(1, .box (Ah p0)), (2007, .vec 1 (v4.map (EP Ak)))]) (fun j10 h => ?_) (fun v10 h => ?_)
     ·refine Ag Av rfl (qm rfl (Bp rfl (qm rfl ?_)))
      refine Ey 35 h rfl (fun h => ?_) fun h => ?_
      ·refine qw 3 rfl (qp rfl (Ab ?_))
       exact sn [(2007, 2002)] h
      ·refine qL CU BY rfl ?_
       refine BP h fun v12 a12 h => D0 [] [2003, 2004, 2005, 2006] (Mn N v9.1 120 v12 a12) eE Cn rfl (Cm rfl (qp rfl (Ab ?_)))
       exact sn [(2007, 2002)] h
     ·refine A8 h (fun h => ?_) fun h => ?_
      ·refine wq rfl (qe rfl ?_)
       obtain rfl := sj h
       refine Ae (sm [] [(2, bD false)] [] rfl rfl) (Ar ?_)
       exact ⟨⟨[_], tm, rfl⟩, tv⟩
      ·refine Ai (Ag Av rfl (qm rfl (AX rfl (qe rfl ?_))))
       exact sn [(2002, 2007)] h
    ·refine AS ?_
     exact sn [] h
   ·refine Ae hs (wq rfl (qe rfl ?_))
    obtain rfl := sj h
    refine Ae (sm [] [(2, bD true)] [] rfl rfl) (Ar ?_)
    exact ⟨⟨[_], tm, rfl⟩, tv⟩
theorem Ob (N : Nat) (p0 : BG) (r : Aa × Bool) (h : FR N p0 = some r) : Ao zA0 10 [.e (.agg (CW p0))] [(1, r.1.fa.map Ak), (1, r.1.fi.map Ak), (1, r.1.fm.map Ak), (6, r.1.fc.map AM)] (.tup [.agg [.own 0, .own 1, .own 2, .own 3], .one (.pure (.val (.bool r.2)))]) := by
 unfold FR at h
 refine cw (n := 17) (rs := [.cell 2 29, .tmp 3]) Tryz.func10 fun w0 S0 => ?_
 refine wq rfl (qb rfl (qz Km rfl (qa rfl (Ab (wq rfl (qL bN cY rfl ?_))))))
 refine BP h fun v1 a1 h => Ax [2001, 2002, 2003, 2004] (N4 N p0 v1 a1) eG rfl (qm rfl (qx rfl (qx rfl (qz Km rfl (qs BY rfl (qe rfl ?_))))))
 refine AR h (fun v2 => mk [(2, oD (.ptr 2 0)), (3, bD v2)] [(2, .box [.own 2005, .own 2006, .own 2007, .own 2008]), (2005, .vec 1 (v1.1.fa.map Ak)), (2006, .vec 1 (v1.1.fi.map Ak)), (2007, .vec 1 (v1.1.fm.map Ak)), (2008, .vec 6 (v1.1.fc.map AM))]) (fun j2 h => ?_) (fun v2 h => ?_)
 ·refine Ag Av rfl (qL CU BY rfl (qw 2 rfl ?_))
  refine Ey 13 h rfl (fun h => ?_) fun h => ?_
  ·refine qL CU BY rfl ?_
   refine BP h fun v4 a4 h => D0 [] [2001, 2002, 2003, 2004] (Mm N v1.1 v4 a4) eM Cn rfl (qp rfl (qs BY rfl (qa rfl (AL (by kernel_rfl) ?_))))
   exact sn [(2005, 2001), (2006, 2002), (2007, 2003), (2008, 2004)] h
  ·refine qw 2 rfl (qp rfl (qs BY rfl (qa rfl (AL (by kernel_rfl) ?_))))
   exact sn [(2005, 2001), (2006, 2002), (2007, 2003), (2008, 2004)] h
 ·obtain rfl := sj h
  refine Ae (sm [(1000, 2005), (1001, 2006), (1002, 2007), (1003, 2008)] [(2, oD (.ptr 2 0)), (3, bD v2)] [(2, .box [.own 1000, .own 1001, .own 1002, .own 1003]), (1000, .vec 1 (v1.1.fa.map Ak)), (1001, .vec 1 (v1.1.fi.map Ak)), (1002, .vec 1 (v1.1.fm.map Ak)), (1003, .vec 6 (v1.1.fc.map AM))] rfl rfl) (Ar ?_)
  exact ⟨⟨[_, _], ⟨.cellN _ _ _ _ _ _ _ rfl rfl CU BY rfl rfl (Jo rfl), tm⟩, rfl⟩, ⟨rfl, rfl, rfl, rfl, tv⟩⟩
theorem HX (N : Nat) (r : (List (List Bool))) (h : EV N = some r) : Ao zA0 69 [] [(1, r.map (EP eB))] (oD (.own 0)) := by
 unfold EV at h
 refine cw (n := 4) (rs := [.tmp 0]) Tryz.func69 fun w0 S0 => ?_
 refine wq rfl (qa rfl (Ab (wq rfl (Di EN N7 Sd rfl (Di EN N7 Sd rfl (CY (A9 1 _ _ rfl rfl) (CY (A9 2 _ _ rfl rfl) (Di EC JJ Uh rfl (qe rfl ?_)))))))))
 obtain rfl := sj h
 refine Ae (sm [(1000, 3)] [(0, oD (.own 1000))] [(1000, .vec 1 ((([([true, false] : List Bool), ([false, true] : List Bool)] : List (List Bool))).map (EP eB)))] rfl rfl) (Ar ?_)
 exact ⟨⟨[_], tm, rfl⟩, ⟨rfl, tv⟩⟩
theorem GS (N : Nat) (p0 : Bool) (r : Aa) (h : En N p0 = some r) : Ao zA0 37 [bD p0] [(1, r.fa.map Ak), (1, r.fi.map Ak), (1, r.fm.map Ak), (6, r.fc.map AM)] (.e (.agg [.own 0, .own 1, .own 2, .own 3])) := by
 unfold En at h
 refine cw (n := 17) (rs := [.cell 2 29]) Tryz.func37 fun w0 S0 => ?_
 refine wq rfl (qz Km rfl (Ab (wq rfl (qa rfl (Ab (wq rfl (Di As Cy I3 rfl (Di As Cy I3 rfl (Di As Cy I3 rfl (qw 2 rfl ?_))))))))))
 refine BP h fun v1 a1 h => Vl (ds0 := []) [2001] (HX N v1 a1) (.p rfl) rfl ct rfl tv rfl rfl rfl (Gp rfl) ⟨rfl, tv⟩ rfl ?_
 refine Bg I7 YP rfl (qw 2 rfl ?_)
 refine BP h fun v2 a2 h => Vl (ds0 := []) [2002] (HX N v2 a2) (.p rfl) rfl ct rfl tv rfl rfl rfl (Gp rfl) ⟨rfl, tv⟩ rfl ?_
 refine Bg I7 YP rfl (CY (A9 2001 _ _ rfl rfl) (CY (A9 2002 _ _ rfl rfl) (Di Dt Dl I7 rfl (Bg Km SS rfl (qs BY rfl (Ab ?_))))))
 obtain rfl := sj h
 refine Ae (sm [(1000, 4), (1001, 5), (1002, 6), (1003, 15)] [(2, oD (.ptr 2 0))] [(2, .box [.own 1000, .own 1001, .own 1002, .own 1003]), (1000, .vec 1 ((([2, 2, 2] : List Int)).map Ak)), (1001, .vec 1 ((([0, 0, 0] : List Int)).map Ak)), (1002, .vec 1 ((([1, 1, 1] : List Int)).map Ak)), (1003, .vec 6 ((([(An.mk 1 0 1 p0 v1 (([] : List (List Bool)))), (An.mk 1 1 0 p0 v2 (([] : List (List Bool))))] : List An)).map AM))] rfl rfl) (Ar ?_)
 exact ⟨⟨[_], ⟨.cellN _ _ _ _ _ _ _ rfl rfl CU BY rfl rfl (Jo rfl), tv⟩, rfl⟩, ⟨rfl, rfl, rfl, rfl, tv⟩⟩
theorem G4 (N : Nat) (p0 : Int) (p1 : Int) (r : Bool) (h : Dz N p0 p1 = some r) : Ao zA0 70 [iD p0, iD p1] [] (bD r) := by
 unfold Dz at h
 refine cw (n := 12) (rs := [.tmp 4]) Tryz.func70 fun w0 S0 => ?_
 refine wq rfl (qe rfl ?_)
 refine AR h (fun v1 => mk [(4, bD v1)] []) (fun j1 h => ?_) (fun v1 h => ?_)
 ·refine Ag Av rfl (qm rfl (EE rfl (qm rfl ?_)))
  refine Ey 7 h rfl (fun h => ?_) fun h => ?_
  ·refine qw 2 rfl (AV rfl (qp rfl (qe rfl ?_)))
   exact sn [] h
  ·refine qw 3 rfl (qp rfl (qe rfl ?_))
   exact sn [] h
 ·obtain rfl := sj h
  refine Ae (sm [] [(4, bD v1)] [] rfl rfl) (Ar ?_)
  exact ⟨⟨[_], tm, rfl⟩, tv⟩
theorem R7 (N : Nat) (p0 : Int) (p1 : Bool) (r : Bool) (h : HE N p0 p1 = some r) : Ao zA0 100 [iD p0, bD p1] [] (bD r) := by
 unfold HE at h
 refine cw (n := 23) (rs := [.tmp 4]) Tryz.func100 fun w0 S0 => ?_
 refine wq rfl (qe rfl ?_)
 refine AR h (fun v1 => mk [(4, bD v1)] []) (fun j1 h => ?_) (fun v1 h => ?_)
 ·refine Ag Av rfl (qm rfl (Cf rfl (qm rfl ?_)))
  refine Ey 7 h rfl (fun h => ?_) fun h => ?_
  ·refine qw 2 rfl (qp rfl (qw 4 rfl (qu rfl (qu rfl (qw 2 rfl (qu rfl (qu rfl (qn rfl (qp rfl (qe rfl ?_))))))))))
   exact sn [] h
  ·refine qm rfl (Cf rfl (qp rfl (qm rfl ?_)))
   refine Ey 11 h rfl (fun h => ?_) fun h => ?_
   ·refine qw 3 rfl (qu rfl (qu rfl (qw 2 rfl (qu rfl (qu rfl (qn rfl (qp rfl (qe rfl ?_))))))))
    exact sn [] h
   ·refine qm rfl (Cf rfl (qm rfl ?_))
    refine Ey 14 h rfl (fun h => ?_) fun h => ?_
    ·refine qw 2 rfl (qp rfl (qw 2 rfl (Cm rfl (qp rfl (qp rfl (qe rfl ?_))))))
     exact sn [] h
    ·refine qm rfl (Cf rfl (qp rfl (qm rfl ?_)))
     refine Ey 18 h rfl (fun h => ?_) fun h => ?_
     ·refine qm rfl (Cm rfl (qp rfl (qp rfl (qe rfl ?_))))
      exact sn [] h
     ·refine qw 2 rfl (qp rfl (qp rfl (qe rfl ?_)))
      exact sn [] h
 ·obtain rfl := sj h
  refine Ae (sm [] [(4, bD v1)] [] rfl rfl) (Ar ?_)
  exact ⟨⟨[_], tm, rfl⟩, tv⟩
theorem N6 (N : Nat) (p0 : List Bool) (p1 : Int) (r : Bool) (h : El N p0 p1 = some r) : Ao zA0 136 [pD (.sl (p0.map eB)), oD (.rop [.val (.int .i64 p1)])] [] (bD r) := by
 unfold El at h
 refine cw (n := 8) (rs := [.tmp 3]) Tryz.func136 fun w0 S0 => ?_
 refine wq rfl (qa rfl (Ab (wq rfl (qm rfl (AJ EN rfl (qk BV rfl (Bp rfl (qe rfl ?_))))))))
 obtain rfl := sj h
 refine Ae (sm [] [(3, bD (((p0.length : Int) != p1)))] [] rfl rfl) (Ar ?_)
 exact ⟨⟨[_], tm, rfl⟩, tv⟩
theorem I6 (N : Nat) (p0 : List (List Bool)) (p1 : (List Bool) → Option Bool) (r : Int) (h : DM N p0 p1 = some r) : Ao zA0 165 [pD (.sl (p0.map (EP eB))), oD (.clo (Hs (Lo false (EP eB)) tB p1))] [] (iD r) := by
 unfold DM at h
 refine cw (n := 19) (rs := [.tmp 4]) Tryz.func165 fun w0 S0 => ?_
 refine wq rfl (qa rfl (Ab (wp rfl (qm rfl (AJ EC rfl (qm rfl (Ab ?_)))))))
 refine AE (L := Bu N p0 p1) h (fun v1 => mk [(0, pD (.sl (p0.map (EP eB)))), (1, oD (.clo (Hs (Lo false (EP eB)) tB p1))), (7, iD ((p0.length : Int))), (8, iD v1)] []) (fun v2 => mk [] []) (fun _ _ => rfl) (sm [] _ _ rfl rfl) (fun j1 n1 v1 h => ?_) (fun v2 s h hs => ?_)
 ·unfold Bu at h
  refine wq rfl (AV rfl (Ab (AN ?_)))
  refine A8 h (fun h => ?_) fun h => ?_
  ·refine Ai (AN (AH (wq rfl (qm rfl (qa rfl (Ab (wq rfl (qw 3 rfl ?_))))))))
   refine BD h fun v4 a4 b4 h => qi EC JJ a4 (Af b4) rfl (qk OI rfl ?_)
   refine BP h fun v5 a5 h => KW (ds0 := [_]) (ar := (Lo false (EP eB)) v4) (.p rfl) rfl rfl ⟨rfl, tv⟩ rfl rfl rfl (Kk (K5 _ _ (da en)) a5) ?_
   refine Ab ?_
   refine A8 h (fun h => ?_) fun h => ?_
   ·refine wq rfl (qm rfl (qe rfl ?_))
    obtain rfl := sj h
    refine Ae (sm [] [(4, iD v1)] [] rfl rfl) (Ar ?_)
    exact ⟨⟨[_], tm, rfl⟩, tv⟩
   ·refine Ai (Ag Av rfl (AX rfl (qm rfl (Ab ?_))))
    exact sn [] h
  ·refine AS ?_
   exact sn [] h
 ·refine Ae hs (wq rfl (qe rfl ?_))
  obtain rfl := sj h
  refine Ae (sm [] [(4, iD ((-1)))] [] rfl rfl) (Ar ?_)
  exact ⟨⟨[_], tm, rfl⟩, tv⟩
theorem Is (N : Nat) (p0 : List (List Bool)) (p1 : (List Bool) → Option Bool) (r : Bool) (h : De N p0 p1 = some r) : Ao zA0 135 [pD (.sl (p0.map (EP eB))), oD (.clo (Hs (Lo false (EP eB)) tB p1))] [] (bD r) := by
 unfold De at h
 refine cw (n := 9) (rs := [.tmp 4]) Tryz.func135 fun w0 S0 => ?_
 refine wq rfl (qa rfl (Ab (wq rfl (qw 2 rfl ?_))))
 refine BP h fun v1 a1 h => Ax [] (I6 N p0 p1 v1 a1) aX rfl (EE rfl (qe rfl ?_))
 obtain rfl := sj h
 refine Ae (sm [] [(4, bD ((decide (0 ≤ v1))))] [] rfl rfl) (Ar ?_)
 exact ⟨⟨[_], tm, rfl⟩, tv⟩
theorem LE (N : Nat) (p0 : List (List Bool)) (p1 : Int) (p2 : Int) (r : Bool) (h : FL N p0 p1 p2 = some r) : Ao zA0 101 [pD (.sl (p0.map (EP eB))), iD p1, iD p2] [] (bD r) := by
 unfold FL at h
 refine cw (n := 17) (rs := [.tmp 6]) Tryz.func101 fun w0 S0 => ?_
 refine wq rfl (qb rfl (qe rfl ?_))
 refine AR h (fun v1 => mk [(6, bD v1)] []) (fun j1 h => ?_) (fun v1 h => ?_)
 ·refine Ag Av rfl (qm rfl (AJ EC rfl (qm rfl (Cf rfl (qm rfl ?_)))))
  refine Ey 11 h rfl (fun h => ?_) fun h => ?_
  ·refine qm rfl (CY (Il 5 [.val (.int .i64 p2)] rfl rfl) ?_)
   refine IC (capD := [_]) (Hs (Lo false (EP eB)) tB ((fun (x : List Bool) => El N x p2))) (.g rfl rfl) cz rfl ⟨rfl, tv⟩ rfl (fun ar t ht => by obtain ⟨x, r, rfl, hq, rfl⟩ := H3 ht; exact N6 N x p2 r hq) ?_
   refine BP h fun v3 a3 h => Ax [] (Is N p0 ((fun (x : List Bool) => El N x p2)) v3 a3) cE rfl (Cm rfl (qp rfl (qe rfl ?_)))
   exact sn [] h
  ·refine qw 4 rfl (qp rfl (qe rfl ?_))
   exact sn [] h
 ·obtain rfl := sj h
  refine Ae (sm [] [(6, bD v1)] [] rfl rfl) (Ar ?_)
  exact ⟨⟨[_], tm, rfl⟩, tv⟩
theorem P1 (N : Nat) (p0 : Aa) (p1 : An) (r : Int) (h : G5 N p0 p1 = some r) : Ao zA0 71 [.e (.agg (Ah p0)), .e (.agg (Ba p1))] [] (iD r) := by
 unfold G5 at h
 refine cw (n := 87) (rs := [.tmp 4]) Tryz.func71 fun w0 S0 => ?_
 refine wq rfl (qb rfl (qb rfl (qa rfl (Ab (wp rfl (qf Gu rfl (ql BV rfl (qf JB rfl (ql Sf rfl ?_)))))))))
 refine BP h fun v1 a1 h => Ax [] (R7 N p1.ff p1.fr v1 a1) co rfl (Cm rfl (Ab ?_))
 refine A8 h (fun h => ?_) fun h => ?_
 ·refine wq rfl (qe rfl ?_)
  obtain rfl := sj h
  refine Ae (sm [] [(4, iD 1)] [] rfl rfl) (Ar ?_)
  exact ⟨⟨[_], tm, rfl⟩, tv⟩
 ·refine Ai (AN ?_)
  refine AR h (fun v3 => mk [(2, oD (.ptr 2 0)), (3, oD (.ptr 3 0)), (29, bD v3)] [(2, .box (Ah p0)), (3, .box (Ba p1))]) (fun j3 h => ?_) (fun v3 h => ?_)
  ·refine Ag Av rfl (qf Dd rfl (ql BV rfl (qf A6 rfl (ql A1 rfl (AJ As rfl ?_)))))
   refine BP h fun v4 a4 h => Ax [] (G4 N p1.fg ((p0.fa.length : Int)) v4 a4) Xp rfl (Cm rfl (qm rfl ?_))
   refine Ey 21 h rfl (fun h => ?_) fun h => ?_
   ·refine qw 7 rfl (qp rfl (Ab ?_))
    exact sn [] h
   ·refine qf HK rfl (ql BV rfl (qf A6 rfl (ql A1 rfl (AJ As rfl ?_))))
    refine BP h fun v6 a6 h => Ax [] (G4 N p1.fj ((p0.fa.length : Int)) v6 a6) Xp rfl (Cm rfl (qp rfl (Ab ?_)))
    exact sn [] h
  ·refine A8 h (fun h => ?_) fun h => ?_
   ·refine wq rfl (qe rfl ?_)
    obtain rfl := sj h
    refine Ae (sm [] [(4, iD 4)] [] rfl rfl) (Ar ?_)
    exact ⟨⟨[_], tm, rfl⟩, tv⟩
   ·refine Ai (wq rfl (qf A6 rfl (ql A1 rfl (qf Dd rfl (ql BV rfl ?_)))))
    refine BD h fun v8 a8 b8 h => qi As Cy a8 (Af b8) rfl (qk BV rfl (qa rfl (Ab (wq rfl (qf Gu rfl (ql BV rfl (Cf rfl (qa rfl (Ab (AN ?_))))))))))
    refine AR h (fun v9 => mk [(3, oD (.ptr 3 0)), (70, bD v9)] [(3, .box (Ba p1))]) (fun j9 h => ?_) (fun v9 h => ?_)
    ·refine Ag Av rfl (qf Hl rfl (ql IG rfl (qm rfl (qf A6 rfl (ql A1 rfl (qf HK rfl (ql BV rfl ?_)))))))
     refine BD h fun v10 a10 b10 h => qi As Cy a10 (Af b10) rfl (qk BV rfl ?_)
     refine BP h fun v11 a11 h => Ax [] (LE N p1.fq v8 v10 v11 a11) Zv rfl (Cm rfl (qm rfl ?_))
     refine Ey 50 h rfl (fun h => ?_) fun h => ?_
     ·refine qw 2 rfl (qu rfl (qu rfl (qu rfl (qu rfl (qu rfl (qu rfl (qn rfl (qp rfl (qw 4 rfl (qu rfl (qu rfl (qu rfl (qu rfl (qn rfl (qp rfl (AL (by kernel_rfl) ?_))))))))))))))))
      exact sn [] h
     ·refine qw 2 rfl ?_
      refine Ey 52 h rfl (fun h => ?_) fun h => ?_
      ·refine qf FD rfl (ql IG rfl (qw 2 rfl ?_))
       refine BP h fun v14 a14 h => Ax [] (LE N p1.fk v8 v8 v14 a14) Zv rfl (Cm rfl (qp rfl (qp rfl (qm rfl ?_))))
       refine Ey 61 h rfl (fun h => ?_) fun h => ?_
       ·refine qw 3 rfl (qu rfl (qu rfl (qu rfl (qu rfl (qn rfl (qp rfl (AL (by kernel_rfl) ?_)))))))
        exact sn [] h
       ·refine qm rfl (Cm rfl (qm rfl ?_))
        refine Ey 64 h rfl (fun h => ?_) fun h => ?_
        ·refine qf FD rfl (ql IG rfl (AJ EC rfl (GM rfl (qp rfl (qp rfl (AL (by kernel_rfl) ?_))))))
         exact sn [] h
        ·refine qw 4 rfl (qp rfl (qp rfl (AL (by kernel_rfl) ?_)))
         exact sn [] h
      ·refine qw 6 rfl (qp rfl (qp rfl (qw 2 rfl (Cm rfl (qm rfl ?_)))))
       refine Ey 64 h rfl (fun h => ?_) fun h => ?_
       ·refine qf FD rfl (ql IG rfl (AJ EC rfl (GM rfl (qp rfl (qp rfl (AL (by kernel_rfl) ?_))))))
        exact sn [] h
       ·refine qw 4 rfl (qp rfl (qp rfl (AL (by kernel_rfl) ?_)))
        exact sn [] h
    ·refine A8 h (fun h => ?_) fun h => ?_
     ·refine wq rfl (qe rfl ?_)
      obtain rfl := sj h
      refine Ae (sm [] [(4, iD 6)] [] rfl rfl) (Ar ?_)
      exact ⟨⟨[_], tm, rfl⟩, tv⟩
     ·refine Ai (wp rfl (qf FD rfl (ql IG rfl (AJ EC rfl (qm rfl (Ab ?_))))))
      refine AE (L := Du N p1) h (fun v19 => mk [(3, oD (.ptr 3 0)), (73, iD ((p1.fk.length : Int))), (74, iD v19)] [(3, .box (Ba p1))]) (fun v20 => mk [] []) (fun _ _ => rfl) (sm [] _ _ rfl rfl) (fun j19 n19 v19 h => ?_) (fun v20 s h hs => ?_)
      ·unfold Du at h
       refine wq rfl (AV rfl (Ab (AN ?_)))
       refine A8 h (fun h => ?_) fun h => ?_
       ·refine Ai (AN (AH (wq rfl (qm rfl (qa rfl (Ab (wq rfl (qf FD rfl (ql IG rfl (qm rfl ?_))))))))))
        refine BD h fun v22 a22 b22 h => qi EC JJ a22 (Af b22) rfl (qk OI rfl (qm rfl ?_))
        refine BD h fun v23 a23 b23 h => qi EN N7 a23 (Af b23) rfl (qk Sf rfl (Cm rfl (Ab ?_)))
        refine A8 h (fun h => ?_) fun h => ?_
        ·refine wq rfl (qe rfl ?_)
         obtain rfl := sj h
         refine Ae (sm [] [(4, iD 1)] [] rfl rfl) (Ar ?_)
         exact ⟨⟨[_], tm, rfl⟩, tv⟩
        ·refine Ai (Ag Av rfl (AX rfl (qm rfl (Ab ?_))))
         exact sn [] h
       ·refine AS ?_
        exact sn [] h
      ·refine Ae hs (wq rfl (qe rfl ?_))
       obtain rfl := sj h
       refine Ae (sm [] [(4, iD 0)] [] rfl rfl) (Ar ?_)
       exact ⟨⟨[_], tm, rfl⟩, tv⟩
theorem E5 (N : Nat) (p0 : Aa) (r : Int) (h : Cb N p0 = some r) : Ao zA0 38 [.e (.agg (Ah p0))] [] (iD r) := by
 unfold Cb at h
 refine cw (n := 81) (rs := [.tmp 2]) Tryz.func38 fun w0 S0 => ?_
 refine wq rfl (qb rfl (qa rfl (Ab (wq rfl (qf A6 rfl (ql A1 rfl (AJ As rfl (qa rfl (Ab (AN ?_))))))))))
 refine AR h (fun v1 => mk [(1, oD (.ptr 1 0)), (3, iD ((p0.fa.length : Int))), (19, bD v1)] [(1, .box (Ah p0))]) (fun j1 h => ?_) (fun v1 h => ?_)
 ·refine Ag Av rfl (qm rfl (GM rfl (qm rfl ?_)))
  refine Ey 14 h rfl (fun h => ?_) fun h => ?_
  ·refine qw 4 rfl (qp rfl (Ab ?_))
   exact sn [] h
  ·refine qf Cc rfl (ql Hj rfl (AJ Dt rfl (GM rfl (qp rfl (Ab ?_)))))
   exact sn [] h
 ·refine A8 h (fun h => ?_) fun h => ?_
  ·refine wq rfl (qe rfl ?_)
   obtain rfl := sj h
   refine Ae (sm [] [(2, iD 3)] [] rfl rfl) (Ar ?_)
   exact ⟨⟨[_], tm, rfl⟩, tv⟩
  ·refine Ai (AN ?_)
   refine AR h (fun v4 => mk [(1, oD (.ptr 1 0)), (31, bD v4)] [(1, .box (Ah p0))]) (fun j4 h => ?_) (fun v4 h => ?_)
   ·refine Ag Av rfl (qf FA rfl (ql A1 rfl (AJ As rfl (qm rfl (Bp rfl (qm rfl ?_))))))
    refine Ey 25 h rfl (fun h => ?_) fun h => ?_
    ·refine qw 5 rfl (qp rfl (Ab ?_))
     exact sn [] h
    ·refine qf GB rfl (ql A1 rfl (AJ As rfl (qm rfl (Bp rfl (qp rfl (Ab ?_))))))
     exact sn [] h
   ·refine A8 h (fun h => ?_) fun h => ?_
    ·refine wq rfl (qe rfl ?_)
     obtain rfl := sj h
     refine Ae (sm [] [(2, iD 6)] [] rfl rfl) (Ar ?_)
     exact ⟨⟨[_], tm, rfl⟩, tv⟩
    ·refine Ai (wp rfl (qf A6 rfl (ql A1 rfl (AJ As rfl (qm rfl (Ab ?_))))))
     refine AE (L := B6 N p0) h (fun v7 => mk [(1, oD (.ptr 1 0)), (33, pD (.sl (p0.fa.map Ak))), (34, iD ((p0.fa.length : Int))), (35, iD v7)] [(1, .box (Ah p0))]) (fun v8 => mk [(1, oD (.ptr 1 0))] [(1, .box (Ah p0))]) (fun _ _ => rfl) (sm [] _ _ rfl rfl) (fun j7 n7 v7 h => ?_) (fun v8 s h hs => ?_)
     ·unfold B6 at h
      refine wq rfl (AV rfl (Ab (AN ?_)))
      refine A8 h (fun h => ?_) fun h => ?_
      ·refine Ai (AN (AH (wq rfl (qm rfl ?_))))
       refine BD h fun v10 a10 b10 h => qi As Cy a10 (Af b10) rfl (qk BV rfl (qa rfl (qe rfl ?_)))
       refine AR h (fun v11 => mk [(1, oD (.ptr 1 0)), (33, pD (.sl (p0.fa.map Ak))), (34, iD ((p0.fa.length : Int))), (35, iD v7), (65, bD v11)] [(1, .box (Ah p0))]) (fun j11 h => ?_) (fun v11 h => ?_)
       ·refine Ag Av rfl (qm rfl (AV rfl (qm rfl ?_)))
        refine Ey 42 h rfl (fun h => ?_) fun h => ?_
        ·refine qw 2 rfl (qp rfl (qw 9 rfl (qp rfl (qw 9 rfl (qp rfl (Ab ?_))))))
         exact sn [] h
        ·refine qm rfl (GM rfl (qp rfl (qm rfl ?_)))
         refine Ey 46 h rfl (fun h => ?_) fun h => ?_
         ·refine qw 8 rfl (qp rfl (qw 9 rfl (qp rfl (Ab ?_))))
          exact sn [] h
         ·refine qf FA rfl (ql A1 rfl (qm rfl ?_))
          refine BD h fun v14 a14 b14 h => qi As Cy a14 (Af b14) rfl (qk BV rfl (qm rfl ?_))
          refine BP h fun v15 a15 h => Ax [] (G4 N v14 v10 v15 a15) Xp rfl (Cm rfl (qp rfl (qm rfl ?_)))
          refine Ey 56 h rfl (fun h => ?_) fun h => ?_
          ·refine qw 8 rfl (qp rfl (Ab ?_))
           exact sn [] h
          ·refine qf GB rfl (ql A1 rfl (qm rfl ?_))
           refine BD h fun v17 a17 b17 h => qi As Cy a17 (Af b17) rfl (qk BV rfl (qm rfl ?_))
           refine BP h fun v18 a18 h => Ax [] (G4 N v17 v10 v18 a18) Xp rfl (Cm rfl (qp rfl (Ab ?_)))
           exact sn [] h
       ·refine A8 h (fun h => ?_) fun h => ?_
        ·refine wq rfl (qe rfl ?_)
         obtain rfl := sj h
         refine Ae (sm [] [(2, iD 7)] [] rfl rfl) (Ar ?_)
         exact ⟨⟨[_], tm, rfl⟩, tv⟩
        ·refine Ai (Ag Av rfl (AX rfl (qm rfl (Ab ?_))))
         exact sn [] h
      ·refine AS ?_
       exact sn [] h
     ·refine Ae hs (wp rfl (qf Cc rfl (ql Hj rfl (AJ Dt rfl (qm rfl (Ab ?_))))))
      refine AE (L := BW N p0) h (fun v20 => mk [(1, oD (.ptr 1 0)), (68, pD (.sl (p0.fc.map AM))), (69, iD ((p0.fc.length : Int))), (70, iD v20)] [(1, .box (Ah p0))]) (fun v21 => mk [] []) (fun _ _ => rfl) (sm [] _ _ rfl rfl) (fun j20 n20 v20 h => ?_) (fun v21 s h hs => ?_)
      ·unfold BW at h
       refine wq rfl (AV rfl (Ab (AN ?_)))
       refine A8 h (fun h => ?_) fun h => ?_
       ·refine Ai (AN (AH (wq rfl ?_)))
        refine BD h fun v23 a23 b23 h => qi Dt Dl a23 (Af b23) rfl (qK G1 Dl rfl (qz I7 rfl (qs Dl rfl (Ab (wq rfl (qL CU BY rfl (qL G1 Dl rfl ?_)))))))
        refine BP h fun v24 a24 h => Ax [] (P1 N p0 v23 v24 a24) eC rfl (qa rfl (Ab (wq rfl (qm rfl (Bp rfl (Ab ?_))))))
        refine A8 h (fun h => ?_) fun h => ?_
        ·refine wq rfl (qm rfl (qe rfl ?_))
         obtain rfl := sj h
         refine Ae (sm [] [(2, iD v24)] [] rfl rfl) (Ar ?_)
         exact ⟨⟨[_], tm, rfl⟩, tv⟩
        ·refine Ai (Ag Av rfl (AX rfl (qm rfl (Ab ?_))))
         exact sn [] h
       ·refine AS ?_
        exact sn [] h
      ·refine Ae hs (wq rfl (qe rfl ?_))
       obtain rfl := sj h
       refine Ae (sm [] [(2, iD 0)] [] rfl rfl) (Ar ?_)
       exact ⟨⟨[_], tm, rfl⟩, tv⟩
def Z5 : Go.Shelf.Ren := ⟨fun | 6 => 77 | 14 => 111 | 15 => 112 | 20 => 140 | 21 => 141 | 22 => 142 | 23 => 143 | 24 => 144 | 25 => 145 | 26 => 146 | 27 => 147 | 28 => 148 | 29 => 149 | 46 => 168 | 47 => 169 | 48 => 170 | 49 => 171 | 50 => 172 | 57 => 179 | n => n, fun | 0 => 0 | 3 => 3 | 4 => 4 | 5 => 5 | 9 => 9 | 22 => 66 | 24 => 71 | 25 => 110 | 39 => 71 | 45 => 173 | 46 => 174 | 50 => 95 | 53 => 145 | 55 => 147 | 66 => 197 | 70 => 201 | 76 => 206 | 77 => 207 | n => n, fun n => n⟩
theorem ZX : SlLaysF.n6 zA0 Z5 := { mixed := Av, f6 := ⟨Tryz.f77.name, by decide, Tryz.func77.trans (congrArg some (by kernel_rfl))⟩, f14 := ⟨Tryz.f111.name, by decide, Tryz.func111.trans (congrArg some (by kernel_rfl))⟩, f15 := Tryz.func112.trans (congrArg some (by kernel_rfl)), f20 := ⟨Tryz.f140.name, by decide, Tryz.func140.trans (congrArg some (by kernel_rfl))⟩, f21 := ⟨Tryz.f141.name, by decide, Tryz.func141.trans (congrArg some (by kernel_rfl))⟩, f22 := ⟨Tryz.f142.name, by decide, Tryz.func142.trans (congrArg some (by kernel_rfl))⟩, f23 := ⟨Tryz.f143.name, by decide, Tryz.func143.trans (congrArg some (by kernel_rfl))⟩, f24 := ⟨Tryz.f144.name, by decide, Tryz.func144.trans (congrArg some (by kernel_rfl))⟩, f25 := ⟨Tryz.f145.name, by decide, Tryz.func145.trans (congrArg some (by kernel_rfl))⟩, f26 := ⟨Tryz.f146.name, by decide, Tryz.func146.trans (congrArg some (by kernel_rfl))⟩, f27 := ⟨Tryz.f147.name, by decide, Tryz.func147.trans (congrArg some (by kernel_rfl))⟩, f28 := Tryz.func148.trans (congrArg some (by kernel_rfl)), f29 := Tryz.func149.trans (congrArg some (by kernel_rfl)), f46 := ⟨Tryz.f168.name, by decide, Tryz.func168.trans (congrArg some (by kernel_rfl))⟩, f47 := Tryz.func169.trans (congrArg some (by kernel_rfl)), f48 := Tryz.func170.trans (congrArg some (by kernel_rfl)), f49 := ⟨Tryz.f171.name, by decide, Tryz.func171.trans (congrArg some (by kernel_rfl))⟩, f50 := ⟨Tryz.f172.name, by decide, Tryz.func172.trans (congrArg some (by kernel_rfl))⟩, f57 := ⟨Tryz.f179.name, by decide, Tryz.func179.trans (congrArg some (by kernel_rfl))⟩, t0 := Tryz.underlying0, a0 := Tryz.isAgg0, z0 := Tryz.sizeOf0, v0 := Tryz.zeroValue0, t3 := Tryz.underlying3, a3 := Tryz.isAgg3, z3 := Tryz.sizeOf3, v3 := Tryz.zeroValue3, t4 := Tryz.underlying4, a4 := Tryz.isAgg4, z4 := Tryz.sizeOf4, v4 := Tryz.zeroValue4, t5 := Tryz.underlying5, a5 := Tryz.isAgg5, z5 := Tryz.sizeOf5, v5 := Tryz.zeroValue5, t9 := Tryz.underlying9, a9 := Tryz.isAgg9, z9 := Tryz.sizeOf9, v9 := Tryz.zeroValue9, t22 := Tryz.underlying66, a22 := Tryz.isAgg66, z22 := Tryz.sizeOf66, v22 := Tryz.zeroValue66, a24 := Tryz.isAgg71, z24 := Tryz.sizeOf71, t25 := Tryz.underlying110, a25 := Tryz.isAgg110, z25 := Tryz.sizeOf110, v25 := Tryz.zeroValue110, t39 := Tryz.underlying71, a39 := Tryz.isAgg71, z39 := Tryz.sizeOf71, v39 := Tryz.zeroValue71, t45 := Tryz.underlying173, a45 := Tryz.isAgg173, z45 := Tryz.sizeOf173, v45 := Tryz.zeroValue173, t46 := Tryz.underlying174, a46 := Tryz.isAgg174, z46 := Tryz.sizeOf174, v46 := Tryz.zeroValue174, t50 := Tryz.underlying95, a50 := Tryz.isAgg95, z50 := Tryz.sizeOf95, v50 := Tryz.zeroValue95, t53 := Tryz.underlying145, a53 := Tryz.isAgg145, z53 := Tryz.sizeOf145, v53 := Tryz.zeroValue145, t55 := Tryz.underlying147, a55 := Tryz.isAgg147, z55 := Tryz.sizeOf147, v55 := Tryz.zeroValue147, t66 := Tryz.underlying197, a66 := Tryz.isAgg197, z66 := Tryz.sizeOf197, v66 := Tryz.zeroValue197, t70 := Tryz.underlying201, a70 := Tryz.isAgg201, z70 := Tryz.sizeOf201, v70 := Tryz.zeroValue201, t76 := Tryz.underlying206, a76 := Tryz.isAgg206, z76 := Tryz.sizeOf206, v76 := Tryz.zeroValue206, t77 := Tryz.underlying207, a77 := Tryz.isAgg207, z77 := Tryz.sizeOf207, v77 := Tryz.zeroValue207 }
theorem JA (N : Nat) (p0 : List Int) (p1 : (Int × Int) → Option Int) (r : List Int) (h : Bv N p0 p1 = some r) : EK zA0 77 [oD (.own 90000), oD (.clo (Hs (aO false DI false DI) Ph p1))] [(.vec 1 (p0.map DI), .vec 1 (r.map DI))] [] (.tup []) := Wt ZX (t := fun n => .val (.int .u64 n)) (fun _ => rfl) Uo (fun _ _ hh => of_decide_eq_true hh) h
theorem KN (N : Nat) (p0 : Int) (r : Int) (h : FY N p0 = some r) : Ao zA0 150 [pD (.val (.int .u32 p0))] [] (iD r) := by
 unfold FY at h
 refine cw (n := 21) (rs := [.tmp 2]) Tryz.func150 fun w0 S0 => ?_
 refine wq rfl (qa rfl (Ab (wq rfl (qm rfl (GU rfl (by decide) ?_)))))
 refine BP h fun v1 a1 h => Kw (.p rfl) rfl rfl VH a1 ?_
 refine qm rfl (GU rfl (by decide) (Iu rfl ?_))
 refine BP h fun v2 a2 h => Kw (.p rfl) rfl rfl VH a2 ?_
 refine AX rfl (qm rfl (GU rfl (by decide) (Iu rfl ?_)))
 refine BP h fun v3 a3 h => Kw (.p rfl) rfl rfl VH a3 ?_
 refine AX rfl (qm rfl (Iu rfl ?_))
 refine BP h fun v4 a4 h => Kw (.p rfl) rfl rfl VH a4 ?_
 refine AX rfl (JP Z0 XX rfl (qa rfl (AL (by kernel_rfl) ?_)))
 obtain rfl := sj h
 refine Ae (sm [] [(2, iD ((wI .i64 ((wI .u8 ((wI .u8 ((wI .u8 (v1 + v2)) + v3)) + v4))))))] [] rfl rfl) (Ar ?_)
 exact ⟨⟨[_], tm, rfl⟩, tv⟩
end Go.Lift
