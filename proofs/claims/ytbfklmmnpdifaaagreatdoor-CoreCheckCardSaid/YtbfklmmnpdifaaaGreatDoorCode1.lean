/- Lemmas for CoreCheckCardSaid, which YtbfklmmnpdifaaaGreatDoorFinC7 proves. -/
import Derived.Test.YtbfklmmnpdifaaaGreatDoorTypes
import Derived.Test.YtbfklmmnpdifaaaGreatDoorProg
import Derived.KernelRfl
open Int renaming tmod → zZ
open List renaming append → yY, replicate → zH
open Nat renaming min → y9
open Go.Proofs.Tryz renaming prog → zA
namespace Go.Lift
open IntKind renaming wrap → wI
def EA (_ : Nat) (p0 : List Int) (p1 : Int) : Option Int :=
 AN ((decide (p1 < (p0.length : Int))))
  ((Bl p0 p1).bind fun v2 =>
  some ((wI .i64 v2)))
  (some 0)
def Be (_ : Nat) (p0 : An) : Option Bool :=
 Bc (fun (v1 : Bool) =>
  some v1)
 fun j1 =>
 AN ((p0.fP == 3))
  (j1 true)
  (j1 (p0.fP == 4))
def CI (N : Nat) (p1 : Int) (p2 : Int) (p3 : Bool) (v1 : (List (List Bool)) × Int) (j4 : ((List Bool)) → Option ((List (List Bool)))) : Nat → ((List Bool) × Int) → Option ((List (List Bool)))
 | 0, _ => none
 | n4 + 1, v4 =>
  AN ((decide (v4.2 < p1)))
   (Bc (fun (v7 : (List Bool)) =>
    CI N p1 p2 p3 v1 j4 n4 (v7, (wI .i64 (v4.2 + 1))))
   fun j7 =>
   AN p3
    (AN ((v1.2 == v4.2))
     ((D3 (v4.1.length + (([true] : List Bool)).length ≤ Dh)).bind fun _ =>
     j7 (v4.1 ++ (([true] : List Bool))))
     ((D3 (0 ≤ (wI .i64 ((wI .i64 (3 * v1.2)) + v4.2)))).bind fun _ =>
     (D3 (v4.1.length + (([((zZ ((A0 .u16 p2 ((wI .i64 ((wI .i64 (3 * v1.2)) + v4.2))))) 2) == 0)] : List Bool)).length ≤ Dh)).bind fun _ =>
     j7 (v4.1 ++ (([((zZ ((A0 .u16 p2 ((wI .i64 ((wI .i64 (3 * v1.2)) + v4.2))))) 2) == 0)] : List Bool)))))
    ((D3 (0 ≤ (wI .i64 ((wI .i64 (3 * v1.2)) + v4.2)))).bind fun _ =>
    (D3 (v4.1.length + (([((zZ ((A0 .u16 p2 ((wI .i64 ((wI .i64 (3 * v1.2)) + v4.2))))) 2) == 0)] : List Bool)).length ≤ Dh)).bind fun _ =>
    j7 (v4.1 ++ (([((zZ ((A0 .u16 p2 ((wI .i64 ((wI .i64 (3 * v1.2)) + v4.2))))) 2) == 0)] : List Bool)))))
   (j4 v4.1)
def Cz (N : Nat) (p0 : Int) (p1 : Int) (p2 : Int) (p3 : Bool) (j1 : ((List (List Bool))) → Option ((List (List Bool)))) : Nat → ((List (List Bool)) × Int) → Option ((List (List Bool)))
 | 0, _ => none
 | n1 + 1, v1 =>
  AN ((decide (v1.2 < p0)))
   (CI N p1 p2 p3 v1 (fun (v5 : (List Bool)) =>
    (D3 (v1.1.length + (([v5] : List (List Bool))).length ≤ Dh)).bind fun _ =>
    Cz N p0 p1 p2 p3 j1 n1 (v1.1 ++ (([v5] : List (List Bool))), (wI .i64 (v1.2 + 1)))) N (([] : List Bool), 0))
   (j1 v1.1)
def EC (N : Nat) (p0 : Int) (p1 : Int) (p2 : Int) (p3 : Bool) : Option ((List (List Bool))) :=
 Cz N p0 p1 p2 p3 (fun (v2 : (List (List Bool))) =>
  some v2) N (([] : List (List Bool)), 0)
def C6 (N : Nat) (p0 : BP) (j4 : ((List Int) × (List Int) × (List Int)) → Option (Aa × Bool)) : Nat → ((List Int) × (List Int) × (List Int) × Int) → Option (Aa × Bool)
 | 0, _ => none
 | n4 + 1, v4 =>
  AN ((decide (v4.2.2.2 < (p0.fJ.length : Int))))
   ((Bl p0.fJ v4.2.2.2).bind fun v7 =>
   (D3 (v4.1.length + (([(wI .i64 (1 + (wI .i64 ((zZ v7 3)))))] : List Int)).length ≤ Dh)).bind fun _ =>
   (EA N p0.fQ v4.2.2.2).bind fun v9 =>
   (D3 ((wI .i64 (1 + (wI .i64 ((zZ v7 3))))) ≠ 0)).bind fun _ =>
   (D3 (v4.2.1.length + (([(zZ v9 ((wI .i64 (1 + (wI .i64 ((zZ v7 3)))))))] : List Int)).length ≤ Dh)).bind fun _ =>
   (EA N p0.fU v4.2.2.2).bind fun v12 =>
   (D3 ((wI .i64 (1 + (wI .i64 ((zZ v7 3))))) ≠ 0)).bind fun _ =>
   (D3 (v4.2.2.1.length + (([(zZ v12 ((wI .i64 (1 + (wI .i64 ((zZ v7 3)))))))] : List Int)).length ≤ Dh)).bind fun _ =>
   C6 N p0 j4 n4 (v4.1 ++ (([(wI .i64 (1 + (wI .i64 ((zZ v7 3)))))] : List Int)), v4.2.1 ++ (([(zZ v9 ((wI .i64 (1 + (wI .i64 ((zZ v7 3)))))))] : List Int)), v4.2.2.1 ++ (([(zZ v12 ((wI .i64 (1 + (wI .i64 ((zZ v7 3)))))))] : List Int)), (wI .i64 (v4.2.2.2 + 1))))
   (j4 (v4.1, v4.2.1, v4.2.2.1))
def BL (N : Nat) (p0 : BP) (v5 : (List Int) × (List Int) × (List Int)) (j15 : ((List An)) → Option (Aa × Bool)) : Nat → ((List An) × Int) → Option (Aa × Bool)
 | 0, _ => none
 | n15 + 1, v15 =>
  Bc (fun (v17 : Bool) =>
   AN v17
    ((Bl p0.f8 v15.2).bind fun v20 =>
    (D3 ((v5.1.length : Int) ≠ 0)).bind fun _ =>
    (D3 ((v5.1.length : Int) ≠ 0)).bind fun _ =>
    Bc (fun (v23 : Bool) =>
     (Bl v5.1 ((zZ ((wI .i64 v20.fO)) ((v5.1.length : Int))))).bind fun v26 =>
     (Bl v5.1 ((zZ ((wI .i64 v20.fS)) ((v5.1.length : Int))))).bind fun v27 =>
     (EC N v26 v27 v20.f9 false).bind fun v28 =>
     Bc (fun (v29 : (List (List Bool))) =>
      (D3 (v15.1.length + (([(An.mk ((wI .i64 (1 + (wI .i64 ((zZ v20.fP 4)))))) ((zZ ((wI .i64 v20.fO)) ((v5.1.length : Int)))) ((zZ ((wI .i64 v20.fS)) ((v5.1.length : Int)))) v23 v28 v29)] : List An)).length ≤ Dh)).bind fun _ =>
      BL N p0 v5 j15 n15 (v15.1 ++ (([(An.mk ((wI .i64 (1 + (wI .i64 ((zZ v20.fP 4)))))) ((zZ ((wI .i64 v20.fO)) ((v5.1.length : Int)))) ((zZ ((wI .i64 v20.fS)) ((v5.1.length : Int)))) v23 v28 v29)] : List An)), (wI .i64 (v15.2 + 1))))
     fun j29 =>
     AN (((wI .i64 (1 + (wI .i64 ((zZ v20.fP 4))))) == 4))
      ((Bl v5.1 ((zZ ((wI .i64 v20.fO)) ((v5.1.length : Int))))).bind fun v31 =>
      (Bl v5.1 ((zZ ((wI .i64 v20.fO)) ((v5.1.length : Int))))).bind fun v32 =>
      (EC N v31 v32 v20.ga true).bind fun v33 =>
      j29 v33)
      (j29 ([] : List (List Bool))))
    fun j23 =>
    AN v20.fY
     ((Be N ((An.mk ((wI .i64 (1 + (wI .i64 ((zZ v20.fP 4)))))) ((zZ ((wI .i64 v20.fO)) ((v5.1.length : Int)))) ((zZ ((wI .i64 v20.fS)) ((v5.1.length : Int)))) false (([] : List (List Bool))) (([] : List (List Bool)))))).bind fun v25 =>
     j23 (!v25))
     (j23 false))
    (j15 v15.1))
  fun j17 =>
  AN ((decide (v15.2 < (p0.f8.length : Int))))
   (j17 (decide (0 < (v5.1.length : Int))))
   (j17 false)
def F1 (N : Nat) (p0 : BP) : Option (Aa × Bool) :=
 Bc (fun (v1 : Bool) =>
  AN v1
   (some ((Aa.mk (([] : List Int)) (([] : List Int)) (([] : List Int)) (([] : List An))), false))
   (C6 N p0 (fun (v5 : (List Int) × (List Int) × (List Int)) =>
    BL N p0 v5 (fun (v16 : (List An)) =>
     some ((Aa.mk v5.1 v5.2.1 v5.2.2 v16), true)) N (([] : List An), 0)) N (([] : List Int), ([] : List Int), ([] : List Int), 0)))
 fun j1 =>
 AN ((decide (3 < (p0.fJ.length : Int))))
  (j1 true)
  (j1 (decide (4 < (p0.f8.length : Int))))
def CO (N : Nat) (p0 : List (List Bool)) (p1 : Int) (p2 : Int) (j2 : Unit → Option Bool) : Nat → Int → Option Bool
 | 0, _ => none
 | n2 + 1, v2 =>
  AN ((decide (v2 < p1)))
   ((Bl p0 v2).bind fun v5 =>
   AN (((v5.length : Int) != p2))
    (some false)
    (CO N p0 p1 p2 j2 n2 (wI .i64 (v2 + 1))))
   (j2 ())
def DX (N : Nat) (p0 : List (List Bool)) (p1 : Int) (p2 : Int) : Option Bool :=
 AN (((p0.length : Int) != p1))
  (some false)
  (CO N p0 p1 p2 (fun (_ : Unit) =>
   some true) N 0)
def Cf (N : Nat) (p1 : An) (j22 : Unit → Option Int) : Nat → Int → Option Int
 | 0, _ => none
 | n22 + 1, v22 =>
  AN ((decide (v22 < (p1.fT.length : Int))))
   ((Bl p1.fT v22).bind fun v25 =>
   (Bl v25 v22).bind fun v26 =>
   AN ((!v26))
    (some 1)
    (Cf N p1 j22 n22 (wI .i64 (v22 + 1))))
   (j22 ())
def Fa (N : Nat) (p0 : Aa) (p1 : An) : Option Int :=
 Bc (fun (v1 : Bool) =>
  AN v1
   (some 1)
   (Bc (fun (v7 : Bool) =>
    AN v7
     (some 4)
     ((Bl p0.fJ p1.fO).bind fun v12 =>
     (Bl p0.fJ p1.fS).bind fun v13 =>
     (DX N p1.fX v12 v13).bind fun v14 =>
     AN ((!v14))
      (some 6)
      (AN ((p1.fP != 4))
       (AN (((p1.fT.length : Int) != 0))
        (some 6)
        (some 0))
       ((Bl p0.fJ p1.fO).bind fun v18 =>
       (Bl p0.fJ p1.fO).bind fun v19 =>
       (DX N p1.fT v18 v19).bind fun v20 =>
       AN ((!v20))
        (some 6)
        (Cf N p1 (fun (_ : Unit) =>
         some 0) N 0)))))
   fun j7 =>
   AN ((decide (p1.fO < 0)))
    (j7 true)
    (AN ((decide ((p0.fJ.length : Int) ≤ p1.fO)))
     (j7 true)
     (AN ((decide (p1.fS < 0)))
      (j7 true)
      (j7 (decide ((p0.fJ.length : Int) ≤ p1.fS)))))))
 fun j1 =>
 AN ((decide (p1.fP < 1)))
  (j1 true)
  (AN ((decide (4 < p1.fP)))
   (j1 true)
   (AN p1.fY
    ((Be N p1).bind fun v5 =>
    j1 v5)
    (j1 false)))
def Bs (N : Nat) (p0 : Aa) (j7 : Unit → Option Int) : Nat → Int → Option Int
 | 0, _ => none
 | n7 + 1, v7 =>
  AN ((decide (v7 < (p0.fJ.length : Int))))
   ((Bl p0.fJ v7).bind fun v10 =>
   Bc (fun (v11 : Bool) =>
    AN v11
     (some 7)
     (Bs N p0 j7 n7 (wI .i64 (v7 + 1))))
   fun j11 =>
   AN ((decide (v10 < 1)))
    (j11 true)
    (AN ((decide (6 < v10)))
     (j11 true)
     ((Bl p0.fQ v7).bind fun v14 =>
     AN ((decide (v14 < 0)))
      (j11 true)
      ((Bl p0.fQ v7).bind fun v16 =>
      AN ((decide (v10 ≤ v16)))
       (j11 true)
       ((Bl p0.fU v7).bind fun v18 =>
       AN ((decide (v18 < 0)))
        (j11 true)
        ((Bl p0.fU v7).bind fun v20 =>
        j11 (decide (v10 ≤ v20))))))))
   (j7 ())
def Bj (N : Nat) (p0 : Aa) (j22 : Unit → Option Int) : Nat → Int → Option Int
 | 0, _ => none
 | n22 + 1, v22 =>
  AN ((decide (v22 < (p0.fK.length : Int))))
   ((Bl p0.fK v22).bind fun v25 =>
   (Fa N p0 v25).bind fun v26 =>
   AN ((v26 != 0))
    (some v26)
    (Bj N p0 j22 n22 (wI .i64 (v22 + 1))))
   (j22 ())
def BN (N : Nat) (p0 : Aa) : Option Int :=
 Bc (fun (v1 : Bool) =>
  AN v1
   (some 3)
   (Bc (fun (v4 : Bool) =>
    AN v4
     (some 6)
     (Bs N p0 (fun (_ : Unit) =>
      Bj N p0 (fun (_ : Unit) =>
       some 0) N 0) N 0))
   fun j4 =>
   AN (((p0.fQ.length : Int) != (p0.fJ.length : Int)))
    (j4 true)
    (j4 ((p0.fU.length : Int) != (p0.fJ.length : Int)))))
 fun j1 =>
 AN ((decide (6 < (p0.fJ.length : Int))))
  (j1 true)
  (j1 (decide (12 < (p0.fK.length : Int))))
def FJ (N : Nat) (p0 : Int) (j1 : ((List Int)) → Option ((List Int))) : Nat → ((List Int) × Int) → Option ((List Int))
 | 0, _ => none
 | n1 + 1, v1 =>
  (D3 (0 ≤ v1.2)).bind fun _ =>
  AN ((decide (0 < (A0 .i64 p0 v1.2))))
   (Bc (fun (v5 : (List Int)) =>
    FJ N p0 j1 n1 (v5, (wI .i64 (v1.2 + 1))))
   fun j5 =>
   (D3 (0 ≤ v1.2)).bind fun _ =>
   AN (((zZ ((A0 .i64 p0 v1.2)) 2) == 1))
    ((D3 (v1.1.length + (([v1.2] : List Int)).length ≤ Dh)).bind fun _ =>
    j5 (v1.1 ++ (([v1.2] : List Int))))
    (j5 v1.1))
   (j1 v1.1)
def H8 (N : Nat) (p0 : Int) : Option ((List Int)) :=
 FJ N p0 (fun (v2 : (List Int)) =>
  some v2) N (([] : List Int), 0)
def EX (N : Nat) (p0 : List Int) (p1 : List Int) (j2 : Unit → Option Bool) : Nat → Int → Option Bool
 | 0, _ => none
 | n2 + 1, v2 =>
  AN ((decide (v2 < (p0.length : Int))))
   ((Bl p0 v2).bind fun v5 =>
   (Bl p1 v2).bind fun v6 =>
   AN ((v5 != v6))
    ((Bl p0 v2).bind fun v8 =>
    (Bl p1 v2).bind fun v9 =>
    some ((decide (v8 < v9))))
    (EX N p0 p1 j2 n2 (wI .i64 (v2 + 1))))
   (j2 ())
def GZ (N : Nat) (p0 : List Int) (p1 : List Int) : Option Bool :=
 AN (((p0.length : Int) != (p1.length : Int)))
  (some ((decide ((p0.length : Int) < (p1.length : Int)))))
  (EX N p0 p1 (fun (_ : Unit) =>
   some false) N 0)
def Fq (N : Nat) (j7 : ((List (List Int))) → Option ((List (List Int)))) : Nat → ((List (List Int)) × Int) → Option ((List (List Int)))
 | 0, _ => none
 | n7 + 1, v7 =>
  Bc (fun (v9 : Bool) =>
   AN v9
    ((Bl v7.1 ((wI .i64 (v7.2 - 1)))).bind fun v15 =>
    (Bl v7.1 v7.2).bind fun v16 =>
    (Bl v7.1 v7.2).bind fun _ =>
    (Bl (v7.1.set ((v7.2).toNat) v15) ((wI .i64 (v7.2 - 1)))).bind fun _ =>
    Fq N j7 n7 ((v7.1.set ((v7.2).toNat) v15).set (((wI .i64 (v7.2 - 1))).toNat) v16, (wI .i64 (v7.2 - 1))))
    (j7 v7.1))
  fun j9 =>
  AN ((decide (0 < v7.2)))
   ((Bl v7.1 v7.2).bind fun v11 =>
   (Bl v7.1 ((wI .i64 (v7.2 - 1)))).bind fun v12 =>
   (GZ N v11 v12).bind fun v13 =>
   j9 v13)
   (j9 false)
def Fo (N : Nat) (p0 : Int) (j1 : ((List (List Int))) → Option ((List (List Int)))) : Nat → ((List (List Int)) × Int) → Option ((List (List Int)))
 | 0, _ => none
 | n1 + 1, v1 =>
  (D3 (0 ≤ p0)).bind fun _ =>
  AN ((decide (v1.2 < (D8 .i64 1 p0))))
   ((H8 N v1.2).bind fun v5 =>
   (D3 (v1.1.length + (([v5] : List (List Int))).length ≤ Dh)).bind fun _ =>
   Fq N (fun (v8 : (List (List Int))) =>
    Fo N p0 j1 n1 (v8, (wI .i64 (v1.2 + 1)))) N (v1.1 ++ (([v5] : List (List Int))), (wI .i64 (((v1.1 ++ (([v5] : List (List Int)))).length : Int) - 1))))
   (j1 v1.1)
def Dj (N : Nat) (p0 : Int) : Option ((List (List Int))) :=
 Fo N p0 (fun (v2 : (List (List Int))) =>
  some v2) N (([] : List (List Int)), 0)
def Cp (N : Nat) (p0 : List Int) (p1 : Int) (j1 : Unit → Option Int) : Nat → Int → Option Int
 | 0, _ => none
 | n1 + 1, v1 =>
  AN ((decide (v1 < (p0.length : Int))))
   ((Bl p0 v1).bind fun v4 =>
   AN ((v4 == p1))
    (some v1)
    (Cp N p0 p1 j1 n1 (wI .i64 (v1 + 1))))
   (j1 ())
def Eh (N : Nat) (p0 : List Int) (p1 : Int) : Option Int :=
 Cp N p0 p1 (fun (_ : Unit) =>
  some ((-1))) N 0
def CL (N : Nat) (p0 : List (List Bool)) (j1 : ((List (List Bool))) → Option ((List (List Bool)))) : Nat → ((List (List Bool)) × Int) → Option ((List (List Bool)))
 | 0, _ => none
 | n1 + 1, v1 =>
  AN ((decide (v1.2 < (p0.length : Int))))
   ((Bl p0 v1.2).bind fun v4 =>
   (D3 ((([] : List Bool)).length + v4.length ≤ Dh)).bind fun _ =>
   (D3 (v1.1.length + (([(([] : List Bool)) ++ v4] : List (List Bool))).length ≤ Dh)).bind fun _ =>
   CL N p0 j1 n1 (v1.1 ++ (([(([] : List Bool)) ++ v4] : List (List Bool))), (wI .i64 (v1.2 + 1))))
   (j1 v1.1)
def DV (N : Nat) (p0 : List (List Bool)) : Option ((List (List Bool))) :=
 CL N p0 (fun (v2 : (List (List Bool))) =>
  some v2) N (([] : List (List Bool)), 0)
def FG (N : Nat) (p0 : An) (p1 : Int) (p2 : Int) : Option An :=
 (DV N p0.fX).bind fun v1 =>
 (DV N p0.fT).bind fun v2 =>
 some ((An.mk p0.fP p1 p2 p0.fY v1 v2))
def A3 (N : Nat) (p1 : List Int) (j3 : Unit → Option (Aa × Int)) : Nat → Int → Option (Aa × Int)
 | 0, _ => none
 | n3 + 1, v3 =>
  AN ((decide (v3 < (p1.length : Int))))
   ((Bl p1 v3).bind fun v6 =>
   (Bl p1 ((wI .i64 (v3 - 1)))).bind fun v7 =>
   AN ((decide (v6 ≤ v7)))
    (some ((Aa.mk (([] : List Int)) (([] : List Int)) (([] : List Int)) (([] : List An))), 1))
    (A3 N p1 j3 n3 (wI .i64 (v3 + 1))))
   (j3 ())
def C0 (N : Nat) (p0 : Aa) (p1 : List Int) (j9 : ((List Int) × (List Int) × (List Int)) → Option (Aa × Int)) : Nat → ((List Int) × (List Int) × (List Int) × Int) → Option (Aa × Int)
 | 0, _ => none
 | n9 + 1, v9 =>
  AN ((decide (v9.2.2.2 < (p1.length : Int))))
   ((Bl p1 v9.2.2.2).bind fun v12 =>
   Bc (fun (v13 : Bool) =>
    AN v13
     (some ((Aa.mk (([] : List Int)) (([] : List Int)) (([] : List Int)) (([] : List An))), 4))
     ((Bl p0.fJ v12).bind fun v16 =>
     (D3 (v9.1.length + (([v16] : List Int)).length ≤ Dh)).bind fun _ =>
     (Bl p0.fQ v12).bind fun v18 =>
     (D3 (v9.2.1.length + (([v18] : List Int)).length ≤ Dh)).bind fun _ =>
     (Bl p0.fU v12).bind fun v20 =>
     (D3 (v9.2.2.1.length + (([v20] : List Int)).length ≤ Dh)).bind fun _ =>
     C0 N p0 p1 j9 n9 (v9.1 ++ (([v16] : List Int)), v9.2.1 ++ (([v18] : List Int)), v9.2.2.1 ++ (([v20] : List Int)), (wI .i64 (v9.2.2.2 + 1)))))
   fun j13 =>
   AN ((decide (v12 < 0)))
    (j13 true)
    (j13 (decide ((p0.fJ.length : Int) ≤ v12))))
   (j9 (v9.1, v9.2.1, v9.2.2.1))
def BM (N : Nat) (p0 : Aa) (p1 : List Int) (j22 : ((List An)) → Option (Aa × Int)) : Nat → ((List An) × Int) → Option (Aa × Int)
 | 0, _ => none
 | n22 + 1, v22 =>
  AN ((decide (v22.2 < (p0.fK.length : Int))))
   (Bc (fun (v25 : (List An)) =>
    BM N p0 p1 j22 n22 (v25, (wI .i64 (v22.2 + 1))))
   fun j25 =>
   (Bl p0.fK v22.2).bind fun v26 =>
   (Eh N p1 v26.fO).bind fun v27 =>
   (Eh N p1 v26.fS).bind fun v28 =>
   Bc (fun (v29 : Bool) =>
    AN v29
     ((FG N v26 v27 v28).bind fun v32 =>
     (D3 (v22.1.length + (([v32] : List An)).length ≤ Dh)).bind fun _ =>
     j25 (v22.1 ++ (([v32] : List An))))
     (j25 v22.1))
   fun j29 =>
   AN ((decide (0 ≤ v27)))
    (j29 (decide (0 ≤ v28)))
    (j29 false))
   (j22 v22.1)
def Dx (N : Nat) (p0 : Aa) (p1 : List Int) : Option (Aa × Int) :=
 (BN N p0).bind fun v1 =>
 AN ((v1 != 0))
  (some ((Aa.mk (([] : List Int)) (([] : List Int)) (([] : List Int)) (([] : List An))), v1))
  (A3 N p1 (fun (_ : Unit) =>
   C0 N p0 p1 (fun (v10 : (List Int) × (List Int) × (List Int)) =>
    BM N p0 p1 (fun (v23 : (List An)) =>
     some ((Aa.mk v10.1 v10.2.1 v10.2.2 v23), 0)) N (([] : List An), 0)) N (([] : List Int), ([] : List Int), ([] : List Int), 0)) N 1)
def Cq (N : Nat) (p0 : Aa) (j3 : ((List Int) × (List Int)) → Option (Ab × Int)) : Nat → ((List Int) × (List Int) × Int) → Option (Ab × Int)
 | 0, _ => none
 | n3 + 1, v3 =>
  AN ((decide (v3.2.2 < (p0.fJ.length : Int))))
   ((Bl p0.fQ v3.2.2).bind fun v6 =>
   (D3 (v3.1.length + (([v6] : List Int)).length ≤ Dh)).bind fun _ =>
   (D3 (v3.2.1.length + (([(-1)] : List Int)).length ≤ Dh)).bind fun _ =>
   Cq N p0 j3 n3 (v3.1 ++ (([v6] : List Int)), v3.2.1 ++ (([(-1)] : List Int)), (wI .i64 (v3.2.2 + 1))))
   (j3 (v3.1, v3.2.1))
def Bn (N : Nat) (p0 : Aa) (j9 : ((List Int)) → Option (Ab × Int)) : Nat → ((List Int) × Int) → Option (Ab × Int)
 | 0, _ => none
 | n9 + 1, v9 =>
  AN ((decide (v9.2 < (p0.fK.length : Int))))
   (Bc (fun (v12 : Int) =>
    (D3 (v9.1.length + (([v12] : List Int)).length ≤ Dh)).bind fun _ =>
    Bn N p0 j9 n9 (v9.1 ++ (([v12] : List Int)), (wI .i64 (v9.2 + 1))))
   fun j12 =>
   (Bl p0.fK v9.2).bind fun v13 =>
   (Be N v13).bind fun v14 =>
   AN v14
    ((Bl p0.fK v9.2).bind fun v16 =>
    (Bl p0.fQ v16.fO).bind fun v17 =>
    (D3 (0 ≤ v17)).bind fun _ =>
    j12 (D8 .u8 1 v17))
    (j12 0))
   (j9 v9.1)
def Ei (N : Nat) (p0 : Aa) : Option (Ab × Int) :=
 (BN N p0).bind fun v1 =>
 AN ((v1 != 0))
  (some ((Ab.mk (([] : List Int)) (([] : List Int)) (([] : List Int))), v1))
  (Cq N p0 (fun (v4 : (List Int) × (List Int)) =>
   Bn N p0 (fun (v10 : (List Int)) =>
    some ((Ab.mk v4.1 v4.2 v10), 0)) N (([] : List Int), 0)) N (([] : List Int), ([] : List Int), 0))
def EN (_ : Nat) (p0 : Ab) : Option Ab :=
 (D3 ((([] : List Int)).length + p0.fL.length ≤ Dh)).bind fun _ =>
 (D3 ((([] : List Int)).length + p0.fI.length ≤ Dh)).bind fun _ =>
 (D3 ((([] : List Int)).length + p0.fN.length ≤ Dh)).bind fun _ =>
 some ((Ab.mk ((([] : List Int)) ++ p0.fL) ((([] : List Int)) ++ p0.fI) ((([] : List Int)) ++ p0.fN)))
def CW (N : Nat) (p0 : Ab) (j1 : Int → Option ((List Ab))) : Nat → (Int × Int) → Option ((List Ab))
 | 0, _ => none
 | n1 + 1, v1 =>
  AN ((decide (v1.2 < (p0.fI.length : Int))))
   (Bc (fun (v4 : Int) =>
    CW N p0 j1 n1 (v4, (wI .i64 (v1.2 + 1))))
   fun j4 =>
   (Bl p0.fI v1.2).bind fun v5 =>
   AN ((decide (0 ≤ v5)))
    (j4 (wI .i64 (v1.1 + 1)))
    (j4 v1.1))
   (j1 v1.1)
def Ca (N : Nat) (p0 : Ab) (v7 : (List Ab) × Int) (j12 : ((List Int)) → Option ((List Ab))) : Nat → ((List Int) × Int × Int) → Option ((List Ab))
 | 0, _ => none
 | n12 + 1, v12 =>
  AN ((decide (v12.2.2 < (p0.fI.length : Int))))
   (Bc (fun (v15 : (List Int) × Int) =>
    Ca N p0 v7 j12 n12 (v15.1, v15.2, (wI .i64 (v12.2.2 + 1))))
   fun j15 =>
   (Bl p0.fI v12.2.2).bind fun v16 =>
   AN ((decide (v16 < 0)))
    (j15 (v12.1, v12.2.1))
    (Bc (fun (v18 : (List Int)) =>
     j15 (v18, (wI .i64 (v12.2.1 + 1))))
    fun j18 =>
    (D3 (0 ≤ v12.2.1)).bind fun _ =>
    AN (((zZ ((A0 .i64 v7.2 v12.2.1)) 2) == 1))
     ((Bl v12.1 v12.2.2).bind fun _ =>
     j18 (v12.1.set ((v12.2.2).toNat) ((-1))))
     (j18 v12.1)))
   (j12 v12.1)
def BK (N : Nat) (p0 : Ab) (v2 : Int) (j7 : ((List Ab)) → Option ((List Ab))) : Nat → ((List Ab) × Int) → Option ((List Ab))
 | 0, _ => none
 | n7 + 1, v7 =>
  (D3 (0 ≤ v2)).bind fun _ =>
  AN ((decide (v7.2 < (D8 .i64 1 v2))))
   ((EN N p0).bind fun v11 =>
   Ca N p0 v7 (fun (v13 : (List Int)) =>
    (D3 (v7.1.length + (([(Ab.mk v11.fL v13 v11.fN)] : List Ab)).length ≤ Dh)).bind fun _ =>
    BK N p0 v2 j7 n7 (v7.1 ++ (([(Ab.mk v11.fL v13 v11.fN)] : List Ab)), (wI .i64 (v7.2 + 1)))) N (v11.fI, 0, 0))
   (j7 v7.1)
def ER (N : Nat) (p0 : Ab) : Option ((List Ab)) :=
 CW N p0 (fun (v2 : Int) =>
  BK N p0 v2 (fun (v8 : (List Ab)) =>
   some v8) N (([] : List Ab), 0)) N (0, 0)
def B9 (_ : Nat) (p0 : Ab) (p1 : Int) : Option Int :=
 (Bl p0.fL p1).bind fun v1 =>
 (D3 (0 ≤ v1)).bind fun _ =>
 Bc (fun (v3 : Int) =>
  some v3)
 fun j3 =>
 (Bl p0.fI p1).bind fun v4 =>
 AN ((decide (0 ≤ v4)))
  ((Bl p0.fI p1).bind fun v6 =>
  (D3 (0 ≤ v6)).bind fun _ =>
  j3 (Qz .u8 ((D8 .u8 1 v1)) ((D8 .u8 1 v6))))
  (j3 (D8 .u8 1 v1))
def CN (_ : Nat) (p0 : Int) (p1 : Int) : Option Bool :=
 (D3 (0 ≤ p1)).bind fun _ =>
 some (((AL .u8 ((A0 .u8 p0 p1)) 1) == 1))
def Bu (N : Nat) (p0 : Aa) (p1 : Ab) (v1 : (List Ap) × Int) (v4 : An) (v10 : (List Ap) × Int) (j17 : ((List Ap) × Bool) → Option ((List Ap))) : Nat → ((List Ap) × Bool × Int) → Option ((List Ap))
 | 0, _ => none
 | n17 + 1, v17 =>
  (Bl p0.fJ v4.fS).bind fun v19 =>
  AN ((decide (v17.2.2 < v19)))
   (Bc (fun (v21 : (List Ap) × Bool) =>
    Bu N p0 p1 v1 v4 v10 j17 n17 (v21.1, v21.2, (wI .i64 (v17.2.2 + 1))))
   fun j21 =>
   (B9 N p1 v4.fS).bind fun v22 =>
   (CN N v22 v17.2.2).bind fun v23 =>
   AN ((!v23))
    (j21 (v17.1, v17.2.1))
    (Bc (fun (v25 : Bool) =>
     Bc (fun (v29 : Bool) =>
      AN v29
       ((D3 (v17.1.length + (([(Ap.mk v1.2 v10.2 v17.2.2)] : List Ap)).length ≤ Dh)).bind fun _ =>
       j21 (v17.1 ++ (([(Ap.mk v1.2 v10.2 v17.2.2)] : List Ap)), v25))
       (j21 (v17.1, v25)))
     fun j29 =>
     AN ((!v4.fY))
      ((Bl v4.fX v10.2).bind fun v31 =>
      (Bl v31 v17.2.2).bind fun v32 =>
      j29 (!v32))
      (j29 false))
    fun j25 =>
    AN v17.2.1
     (j25 true)
     ((Bl v4.fX v10.2).bind fun v27 =>
     (Bl v27 v17.2.2).bind fun v28 =>
     j25 v28)))
   (j17 (v17.1, v17.2.1))
def BU (N : Nat) (p0 : Aa) (p1 : Ab) (v1 : (List Ap) × Int) (v4 : An) (v6 : Int) (j10 : ((List Ap)) → Option ((List Ap))) : Nat → ((List Ap) × Int) → Option ((List Ap))
 | 0, _ => none
 | n10 + 1, v10 =>
  (Bl p0.fJ v4.fO).bind fun v12 =>
  AN ((decide (v10.2 < v12)))
   (Bc (fun (v14 : (List Ap)) =>
    BU N p0 p1 v1 v4 v6 j10 n10 (v14, (wI .i64 (v10.2 + 1))))
   fun j14 =>
   (CN N v6 v10.2).bind fun v15 =>
   AN ((!v15))
    (j14 v10.1)
    (Bu N p0 p1 v1 v4 v10 (fun (v18 : (List Ap) × Bool) =>
     Bc (fun (v35 : Bool) =>
      AN v35
       ((D3 (v18.1.length + (([(Ap.mk v1.2 v10.2 ((-1)))] : List Ap)).length ≤ Dh)).bind fun _ =>
       j14 (v18.1 ++ (([(Ap.mk v1.2 v10.2 ((-1)))] : List Ap))))
       (j14 v18.1))
     fun j35 =>
     AN v4.fY
      (j35 (!v18.2))
      (j35 false)) N (v10.1, false, 0)))
   (j10 v10.1)
def C1 (N : Nat) (p0 : Aa) (p1 : Ab) (j1 : ((List Ap)) → Option ((List Ap))) : Nat → ((List Ap) × Int) → Option ((List Ap))
 | 0, _ => none
 | n1 + 1, v1 =>
  AN ((decide (v1.2 < (p0.fK.length : Int))))
   ((Bl p0.fK v1.2).bind fun v4 =>
   (B9 N p1 v4.fO).bind fun v5 =>
   Bc (fun (v6 : Int) =>
    BU N p0 p1 v1 v4 v6 (fun (v11 : (List Ap)) =>
     C1 N p0 p1 j1 n1 (v11, (wI .i64 (v1.2 + 1)))) N (v1.1, 0))
   fun j6 =>
   (Be N v4).bind fun v7 =>
   AN v7
    ((Bl p1.fN v1.2).bind fun v9 =>
    j6 v9)
    (j6 v5))
   (j1 v1.1)
def E8 (N : Nat) (p0 : Aa) (p1 : Ab) : Option ((List Ap)) :=
 C1 N p0 p1 (fun (v2 : (List Ap)) =>
  some v2) N (([] : List Ap), 0)
def EJ (N : Nat) (p0 : Aa) (p1 : Ab) : Option Bool :=
 (E8 N p0 p1).bind fun v1 =>
 some (((v1.length : Int) == 0))
def Cj (N : Nat) (p0 : Aa) (v1 : (List Ab)) (j2 : Unit → Option Bool) : Nat → Int → Option Bool
 | 0, _ => none
 | n2 + 1, v2 =>
  AN ((decide (v2 < (v1.length : Int))))
   ((Bl v1 v2).bind fun v5 =>
   (EJ N p0 v5).bind fun v6 =>
   AN ((!v6))
    (some false)
    (Cj N p0 v1 j2 n2 (wI .i64 (v2 + 1))))
   (j2 ())
def BJ (N : Nat) (p0 : Aa) (p1 : Ab) : Option Bool :=
 (ER N p1).bind fun v1 =>
 Cj N p0 v1 (fun (_ : Unit) =>
  some true) N 0
def Co (N : Nat) (p0 : Aa) (p1 : Ab) (j7 : Unit → Option Int) : Nat → Int → Option Int
 | 0, _ => none
 | n7 + 1, v7 =>
  AN ((decide (v7 < (p0.fJ.length : Int))))
   (Bc (fun (v10 : Bool) =>
    AN v10
     (some 7)
     ((Bl p1.fL v7).bind fun v21 =>
     (Bl p1.fI v7).bind fun v22 =>
     AN ((v21 == v22))
      (some 1)
      (Co N p0 p1 j7 n7 (wI .i64 (v7 + 1)))))
   fun j10 =>
   (Bl p1.fL v7).bind fun v11 =>
   AN ((decide (v11 < 0)))
    (j10 true)
    ((Bl p1.fL v7).bind fun v13 =>
    (Bl p0.fJ v7).bind fun v14 =>
    AN ((decide (v14 ≤ v13)))
     (j10 true)
     ((Bl p1.fI v7).bind fun v16 =>
     AN ((decide (v16 < (-1))))
      (j10 true)
      ((Bl p1.fI v7).bind fun v18 =>
      (Bl p0.fJ v7).bind fun v19 =>
      j10 (decide (v19 ≤ v18))))))
   (j7 ())
def Cc (N : Nat) (p0 : Aa) (p1 : Ab) (j24 : Unit → Option Int) : Nat → Int → Option Int
 | 0, _ => none
 | n24 + 1, v24 =>
  AN ((decide (v24 < (p0.fK.length : Int))))
   ((Bl p0.fK v24).bind fun v27 =>
   (Bl p0.fJ v27.fO).bind fun v28 =>
   (D3 (0 ≤ v28)).bind fun _ =>
   Bc (fun (v30 : Bool) =>
    AN v30
     (some 1)
     (Cc N p0 p1 j24 n24 (wI .i64 (v24 + 1))))
   fun j30 =>
   (Be N v27).bind fun v31 =>
   AN ((!v31))
    ((Bl p1.fN v24).bind fun v33 =>
    AN ((v33 != 0))
     (j30 true)
     ((Be N v27).bind fun v35 =>
     AN v35
      ((Bl p1.fN v24).bind fun v37 =>
      AN (((Df .u8 v37 ((wI .u8 ((D8 .u8 1 v28) - 1)))) != 0))
       (j30 true)
       ((B9 N p1 v27.fO).bind fun v39 =>
       (Bl p1.fN v24).bind fun v40 =>
       j30 ((Df .u8 v39 v40) != 0)))
      (j30 false)))
    ((Be N v27).bind fun v41 =>
    AN v41
     ((Bl p1.fN v24).bind fun v43 =>
     AN (((Df .u8 v43 ((wI .u8 ((D8 .u8 1 v28) - 1)))) != 0))
      (j30 true)
      ((B9 N p1 v27.fO).bind fun v45 =>
      (Bl p1.fN v24).bind fun v46 =>
      j30 ((Df .u8 v45 v46) != 0)))
     (j30 false)))
   (j24 ())
def DC (N : Nat) (p0 : Aa) (p1 : Ab) : Option Int :=
 (BN N p0).bind fun v1 =>
 AN ((v1 != 0))
  (some v1)
  (Bc (fun (v3 : Bool) =>
   AN v3
    (some 6)
    (Co N p0 p1 (fun (_ : Unit) =>
     Cc N p0 p1 (fun (_ : Unit) =>
      some 0) N 0) N 0))
  fun j3 =>
  AN (((p1.fL.length : Int) != (p0.fJ.length : Int)))
   (j3 true)
   (AN (((p1.fI.length : Int) != (p0.fJ.length : Int)))
    (j3 true)
    (j3 ((p1.fN.length : Int) != (p0.fK.length : Int)))))
def E1 (_ : Nat) (p0 : Ae) : Option Bool :=
 Bc (fun (v1 : Bool) =>
  some v1)
 fun j1 =>
 AN ((decide (1 ≤ p0.fP)))
  (AN ((decide (p0.fP ≤ 4)))
   (AN ((decide (0 ≤ p0.fR)))
    (AN ((decide (0 ≤ p0.fW)))
     (AN ((p0.fP == 1))
      (j1 true)
      (j1 (p0.fW == 0)))
     (j1 false))
    (j1 false))
   (j1 false))
  (j1 false)
def Ce (N : Nat) (p0 : Aa) (p2 : Ae) (j12 : ((List Int)) → Option (Ab × Bool)) : Nat → ((List Int) × Int) → Option (Ab × Bool)
 | 0, _ => none
 | n12 + 1, v12 =>
  AN ((decide (v12.2 < (p0.fK.length : Int))))
   (Bc (fun (v15 : (List Int)) =>
    Ce N p0 p2 j12 n12 (v15, (wI .i64 (v12.2 + 1))))
   fun j15 =>
   Bc (fun (v16 : Bool) =>
    AN v16
     ((Bl v12.1 v12.2).bind fun v22 =>
     (D3 (0 ≤ p2.fW)).bind fun _ =>
     (Bl v12.1 v12.2).bind fun _ =>
     j15 (v12.1.set ((v12.2).toNat) ((Qz .u8 v22 ((D8 .u8 1 p2.fW))))))
     (j15 v12.1))
   fun j16 =>
   (Bl p0.fK v12.2).bind fun v17 =>
   AN ((v17.fO == p2.fR))
    ((Bl p0.fK v12.2).bind fun v19 =>
    (Be N v19).bind fun v20 =>
    j16 v20)
    (j16 false))
   (j12 v12.1)
def BT (N : Nat) (p0 : Aa) (p1 : Ab) (p2 : Ae) (v32 : An) (v35 : Int) (j38 : Unit → Option (Ab × Bool)) : Nat → Int → Option (Ab × Bool)
 | 0, _ => none
 | n38 + 1, v38 =>
  (Bl p0.fJ v32.fO).bind fun v40 =>
  AN ((decide (v38 < v40)))
   (Bc (fun (v42 : Bool) =>
    Bc (fun (v47 : Bool) =>
     AN v47
      (some ((Ab.mk (([] : List Int)) (([] : List Int)) (([] : List Int))), false))
      (BT N p0 p1 p2 v32 v35 j38 n38 (wI .i64 (v38 + 1))))
    fun j47 =>
    AN v42
     (AN ((v32.fP == 4))
      ((Bl v32.fT v38).bind fun v50 =>
      (Bl p1.fL v32.fO).bind fun v51 =>
      (Bl v50 v51).bind fun v52 =>
      j47 (!v52))
      (j47 false))
     (j47 false))
   fun j42 =>
   (Bl p1.fN p2.fR).bind fun v43 =>
   (CN N v43 v38).bind fun v44 =>
   AN v44
    ((CN N v35 v38).bind fun v46 =>
    j42 (!v46))
    (j42 false))
   (j38 ())
def CB (N : Nat) (p0 : Aa) (p1 : Ab) (p2 : Ae) : Option (Ab × Bool) :=
 (D3 ((([] : List Int)).length + p1.fL.length ≤ Dh)).bind fun _ =>
 (D3 ((([] : List Int)).length + p1.fI.length ≤ Dh)).bind fun _ =>
 (D3 ((([] : List Int)).length + p1.fN.length ≤ Dh)).bind fun _ =>
 Bc (fun (v4 : (List Int) × (List Int) × (List Int)) =>
  some ((Ab.mk v4.1 v4.2.1 v4.2.2), true))
 fun j4 =>
 AN ((p2.fP == 1))
  (Bc (fun (v6 : Bool) =>
   AN v6
    (some ((Ab.mk (([] : List Int)) (([] : List Int)) (([] : List Int))), false))
    ((Bl ((([] : List Int)) ++ p1.fI) p2.fR).bind fun _ =>
    Ce N p0 p2 (fun (v13 : (List Int)) =>
     j4 ((([] : List Int)) ++ p1.fL, ((([] : List Int)) ++ p1.fI).set ((p2.fR).toNat) p2.fW, v13)) N ((([] : List Int)) ++ p1.fN, 0)))
  fun j6 =>
  (Bl p1.fI p2.fR).bind fun v7 =>
  AN ((decide (0 ≤ v7)))
   (j6 true)
   ((Bl p1.fL p2.fR).bind fun v9 =>
   j6 (p2.fW == v9)))
  (AN ((p2.fP == 2))
   ((Bl p1.fI p2.fR).bind fun v26 =>
   AN ((decide (v26 < 0)))
    (some ((Ab.mk (([] : List Int)) (([] : List Int)) (([] : List Int))), false))
    ((Bl p1.fI p2.fR).bind fun v28 =>
    (Bl ((([] : List Int)) ++ p1.fL) p2.fR).bind fun _ =>
    (Bl ((([] : List Int)) ++ p1.fI) p2.fR).bind fun _ =>
    j4 (((([] : List Int)) ++ p1.fL).set ((p2.fR).toNat) v28, ((([] : List Int)) ++ p1.fI).set ((p2.fR).toNat) ((-1)), (([] : List Int)) ++ p1.fN)))
   (AN ((p2.fP == 3))
    ((Bl p0.fK p2.fR).bind fun v32 =>
    (Be N v32).bind fun v33 =>
    AN ((!v33))
     (some ((Ab.mk (([] : List Int)) (([] : List Int)) (([] : List Int))), false))
     ((B9 N p1 v32.fO).bind fun v35 =>
     (Bl p1.fN p2.fR).bind fun v36 =>
     AN ((v36 == v35))
      (some ((Ab.mk (([] : List Int)) (([] : List Int)) (([] : List Int))), false))
      (BT N p0 p1 p2 v32 v35 (fun (_ : Unit) =>
       (Bl ((([] : List Int)) ++ p1.fN) p2.fR).bind fun _ =>
       j4 ((([] : List Int)) ++ p1.fL, (([] : List Int)) ++ p1.fI, ((([] : List Int)) ++ p1.fN).set ((p2.fR).toNat) v35)) N 0)))
    ((Bl p1.fI p2.fR).bind fun v55 =>
    AN ((decide (v55 < 0)))
     (some ((Ab.mk (([] : List Int)) (([] : List Int)) (([] : List Int))), false))
     ((Bl ((([] : List Int)) ++ p1.fI) p2.fR).bind fun _ =>
     j4 ((([] : List Int)) ++ p1.fL, ((([] : List Int)) ++ p1.fI).set ((p2.fR).toNat) ((-1)), (([] : List Int)) ++ p1.fN)))))
def EZ (N : Nat) (p0 : Aa) (p1 : Ab) (p2 : Ae) : Option (Ab × Int) :=
 (DC N p0 p1).bind fun v1 =>
 AN ((v1 != 0))
  (some ((Ab.mk (([] : List Int)) (([] : List Int)) (([] : List Int))), v1))
  ((E1 N p2).bind fun v3 =>
  AN ((!v3))
   (some ((Ab.mk (([] : List Int)) (([] : List Int)) (([] : List Int))), 1))
   (Bc (fun (v5 : Bool) =>
    AN v5
     (some ((Ab.mk (([] : List Int)) (([] : List Int)) (([] : List Int))), 4))
     (Bc (fun (v11 : Bool) =>
      AN v11
       (some ((Ab.mk (([] : List Int)) (([] : List Int)) (([] : List Int))), 4))
       ((CB N p0 p1 p2).bind fun v15 =>
       AN ((!v15.2))
        (some ((Ab.mk (([] : List Int)) (([] : List Int)) (([] : List Int))), 11))
        (some (v15.1, 0))))
     fun j11 =>
     AN ((p2.fP == 1))
      ((Bl p0.fJ p2.fR).bind fun v13 =>
      j11 (decide (v13 ≤ p2.fW)))
      (j11 false)))
   fun j5 =>
   AN ((p2.fP == 3))
    (AN ((decide ((p0.fK.length : Int) ≤ p2.fR)))
     (j5 true)
     (AN ((p2.fP != 3))
      (j5 (decide ((p0.fJ.length : Int) ≤ p2.fR)))
      (j5 false)))
    (AN ((p2.fP != 3))
     (j5 (decide ((p0.fJ.length : Int) ≤ p2.fR)))
     (j5 false))))
def Cr (N : Nat) (p0 : Aa) (p1 : Ab) (v1 : (List Ae) × Int) (v4 : (List Ae) × Int) (j7 : ((List Ae)) → Option ((List Ae))) : Nat → ((List Ae) × Int) → Option ((List Ae))
 | 0, _ => none
 | n7 + 1, v7 =>
  AN ((decide (v7.2 < 6)))
   (Bc (fun (v10 : (List Ae)) =>
    Cr N p0 p1 v1 v4 j7 n7 (v10, (wI .i64 (v7.2 + 1))))
   fun j10 =>
   (EZ N p0 p1 ((Ae.mk v1.2 v4.2 v7.2))).bind fun v11 =>
   AN ((v11.2 == 0))
    ((D3 (v7.1.length + (([(Ae.mk v1.2 v4.2 v7.2)] : List Ae)).length ≤ Dh)).bind fun _ =>
    j10 (v7.1 ++ (([(Ae.mk v1.2 v4.2 v7.2)] : List Ae))))
    (j10 v7.1))
   (j7 v7.1)
def Cn (N : Nat) (p0 : Aa) (p1 : Ab) (v1 : (List Ae) × Int) (j4 : ((List Ae)) → Option ((List Ae))) : Nat → ((List Ae) × Int) → Option ((List Ae))
 | 0, _ => none
 | n4 + 1, v4 =>
  AN ((decide (v4.2 < (Wi ((p0.fJ.length : Int)) ((p0.fK.length : Int))))))
   (Cr N p0 p1 v1 v4 (fun (v8 : (List Ae)) =>
    Cn N p0 p1 v1 j4 n4 (v8, (wI .i64 (v4.2 + 1)))) N (v4.1, 0))
   (j4 v4.1)
def BI (N : Nat) (p0 : Aa) (p1 : Ab) (j1 : ((List Ae)) → Option ((List Ae))) : Nat → ((List Ae) × Int) → Option ((List Ae))
 | 0, _ => none
 | n1 + 1, v1 =>
  AN ((decide (v1.2 ≤ 3)))
   (Cn N p0 p1 v1 (fun (v5 : (List Ae)) =>
    BI N p0 p1 j1 n1 (v5, (wI .i64 (v1.2 + 1)))) N (v1.1, 0))
   (j1 v1.1)
def CA (N : Nat) (p0 : Aa) (p1 : Ab) : Option ((List Ae)) :=
 BI N p0 p1 (fun (v2 : (List Ae)) =>
  some v2) N (([] : List Ae), 1)
def DK (N : Nat) (p0 : List Int) (p1 : List Int) (j1 : Unit → Option Int) : Nat → Int → Option Int
 | 0, _ => none
 | n1 + 1, v1 =>
  Bc (fun (v3 : Bool) =>
   AN v3
    ((Bl p0 v1).bind fun v6 =>
    (Bl p1 v1).bind fun v7 =>
    AN ((decide (v6 < v7)))
     (some ((-1)))
     ((Bl p0 v1).bind fun v9 =>
     (Bl p1 v1).bind fun v10 =>
     AN ((decide (v10 < v9)))
      (some 1)
      (DK N p0 p1 j1 n1 (wI .i64 (v1 + 1)))))
    (j1 ()))
  fun j3 =>
  AN ((decide (v1 < (p0.length : Int))))
   (j3 (decide (v1 < (p1.length : Int))))
   (j3 false)
def DO (N : Nat) (p0 : List Int) (p1 : List Int) : Option Int :=
 DK N p0 p1 (fun (_ : Unit) =>
  AN ((decide ((p0.length : Int) < (p1.length : Int))))
   (some ((-1)))
   (AN ((decide ((p1.length : Int) < (p0.length : Int))))
    (some 1)
    (some 0))) N 0
def C7 (N : Nat) (p0 : List Int) (j1 : ((List Int)) → Option ((List Int))) : Nat → ((List Int) × Int) → Option ((List Int))
 | 0, _ => none
 | n1 + 1, v1 =>
  AN ((decide (v1.2 < (p0.length : Int))))
   ((Bl p0 v1.2).bind fun v4 =>
   (D3 (v1.1.length + (([(wI .i64 v4)] : List Int)).length ≤ Dh)).bind fun _ =>
   C7 N p0 j1 n1 (v1.1 ++ (([(wI .i64 v4)] : List Int)), (wI .i64 (v1.2 + 1))))
   (j1 v1.1)
def DL (N : Nat) (p0 : List Int) : Option ((List Int)) :=
 C7 N p0 (fun (v2 : (List Int)) =>
  some v2) N (([] : List Int), 0)
def BS (N : Nat) (p0 : Ab) (p1 : Ab) : Option Int :=
 (DO N p0.fL p1.fL).bind fun v1 =>
 AN ((v1 != 0))
  (some v1)
  ((DO N p0.fI p1.fI).bind fun v3 =>
  AN ((v3 != 0))
   (some v3)
   ((DL N p0.fN).bind fun v5 =>
   (DL N p1.fN).bind fun v6 =>
   (DO N v5 v6).bind fun v7 =>
   some v7))
def E3 (N : Nat) (p0 : Ab) (p1 : Ab) : Option Bool :=
 (BS N p0 p1).bind fun v1 =>
 some ((v1 == 0))
def CG (N : Nat) (p0 : List AI) (p1 : Ab) (j1 : Unit → Option Int) : Nat → Int → Option Int
 | 0, _ => none
 | n1 + 1, v1 =>
  AN ((decide (v1 < (p0.length : Int))))
   ((Bl p0 v1).bind fun v4 =>
   (E3 N ((Ab.mk v4.f5.fL v4.f5.fI v4.f5.fN)) p1).bind fun v5 =>
   AN v5
    (some v1)
    (CG N p0 p1 j1 n1 (wI .i64 (v1 + 1))))
   (j1 ())
def Ey (N : Nat) (p0 : List AI) (p1 : Ab) : Option Int :=
 CG N p0 p1 (fun (_ : Unit) =>
  some ((-1))) N 0
def B1 (N : Nat) (p0 : Aa) (p2 : Int) (v1 : (List AI) × Int) (v5 : (List Ae)) (j6 : ((List AI)) → Option ((List AI) × Bool)) : Nat → ((List AI) × Int) → Option ((List AI) × Bool)
 | 0, _ => none
 | n6 + 1, v6 =>
  AN ((decide (v6.2 < (v5.length : Int))))
   ((Bl v6.1 v1.2).bind fun v9 =>
   (Bl v5 v6.2).bind fun v10 =>
   (CB N p0 ((Ab.mk v9.f5.fL v9.f5.fI v9.f5.fN)) v10).bind fun v11 =>
   Bc (fun (v12 : (List AI)) =>
    AN ((decide (p2 < (v12.length : Int))))
     (some (([] : List AI), false))
     (B1 N p0 p2 v1 v5 j6 n6 (v12, (wI .i64 (v6.2 + 1)))))
   fun j12 =>
   Bc (fun (v13 : Bool) =>
    AN v13
     ((Bl v5 v6.2).bind fun v18 =>
     (D3 (v6.1.length + (([(AI.mk v11.1 v1.2 v18)] : List AI)).length ≤ Dh)).bind fun _ =>
     j12 (v6.1 ++ (([(AI.mk v11.1 v1.2 v18)] : List AI))))
     (j12 v6.1))
   fun j13 =>
   (BJ N p0 v11.1).bind fun v14 =>
   AN v14
    ((Ey N v6.1 v11.1).bind fun v16 =>
    j13 (decide (v16 < 0)))
    (j13 false))
   (j6 v6.1)
def B2 (N : Nat) (p0 : Aa) (p2 : Int) (j1 : ((List AI)) → Option ((List AI) × Bool)) : Nat → ((List AI) × Int) → Option ((List AI) × Bool)
 | 0, _ => none
 | n1 + 1, v1 =>
  AN ((decide (v1.2 < (v1.1.length : Int))))
   ((Bl v1.1 v1.2).bind fun v4 =>
   (CA N p0 ((Ab.mk v4.f5.fL v4.f5.fI v4.f5.fN))).bind fun v5 =>
   B1 N p0 p2 v1 v5 (fun (v7 : (List AI)) =>
    B2 N p0 p2 j1 n1 (v7, (wI .i64 (v1.2 + 1)))) N (v1.1, 0))
   (j1 v1.1)
def Ek (N : Nat) (p0 : Aa) (p1 : Ab) (p2 : Int) : Option ((List AI) × Bool) :=
 B2 N p0 p2 (fun (v2 : (List AI)) =>
  some (v2, true)) N (([(AI.mk p1 ((-1)) ((Ae.mk 0 0 0)))] : List AI), 0)
def E6 (N : Nat) (p0 : Aa) (p1 : Int) : Option Bool :=
 (Ei N p0).bind fun v1 =>
 Bc (fun (v2 : Bool) =>
  AN v2
   (some true)
   ((Ek N p0 v1.1 p1).bind fun v6 =>
   some v6.2))
 fun j2 =>
 AN ((v1.2 != 0))
  (j2 true)
  ((BJ N p0 v1.1).bind fun v4 =>
  j2 (!v4))
def C2 (N : Nat) (p0 : Aa) (v4 : (List (List Int))) (j5 : Unit → Option Bool) : Nat → Int → Option Bool
 | 0, _ => none
 | n5 + 1, v5 =>
  AN ((decide (v5 < (v4.length : Int))))
   ((Bl v4 v5).bind fun v8 =>
   (Dx N p0 v8).bind fun v9 =>
   Bc (fun (v10 : Bool) =>
    AN v10
     (some false)
     (C2 N p0 v4 j5 n5 (wI .i64 (v5 + 1))))
   fun j10 =>
   AN ((v9.2 != 0))
    (j10 true)
    ((E6 N v9.1 120).bind fun v12 =>
    j10 (!v12)))
   (j5 ())
def FV (N : Nat) (p0 : Aa) : Option Bool :=
 (BN N p0).bind fun v1 =>
 AN ((v1 != 0))
  (some true)
  (AN ((decide (3 < (p0.fJ.length : Int))))
   (some false)
   ((Dj N ((p0.fJ.length : Int))).bind fun v4 =>
   C2 N p0 v4 (fun (_ : Unit) =>
    some true) N 0))
def FY (N : Nat) (p0 : BP) : Option (Aa × Bool) :=
 (F1 N p0).bind fun v1 =>
 Bc (fun (v2 : Bool) =>
  some (v1.1, v2))
 fun j2 =>
 AN v1.2
  ((FV N v1.1).bind fun v4 =>
  j2 v4)
  (j2 false)
def EW (_ : Nat) : Option ((List (List Bool))) :=
 some (([([true, false] : List Bool), ([false, true] : List Bool)] : List (List Bool)))
def Es (N : Nat) (p0 : Bool) : Option Aa :=
 (EW N).bind fun v1 =>
 (EW N).bind fun v2 =>
 some ((Aa.mk (([2, 2, 2] : List Int)) (([0, 0, 0] : List Int)) (([1, 1, 1] : List Int)) (([(An.mk 1 0 1 p0 v1 (([] : List (List Bool)))), (An.mk 1 1 0 p0 v2 (([] : List (List Bool))))] : List An))))
def DI (_ : Nat) (p0 : Int) (p1 : Int) : Option Bool :=
 Bc (fun (v1 : Bool) =>
  some v1)
 fun j1 =>
 AN ((decide (0 ≤ p0)))
  (j1 (decide (p0 < p1)))
  (j1 false)
def HS (_ : Nat) (p0 : Int) (p1 : Bool) : Option Bool :=
 Bc (fun (v1 : Bool) =>
  some v1)
 fun j1 =>
 AN ((p0 == 1))
  (j1 true)
  (AN ((p0 == 2))
   (j1 true)
   (AN ((p0 == 3))
    (j1 (!p1))
    (AN ((p0 == 4))
     (j1 (!p1))
     (j1 false))))
def Ep (_ : Nat) (p0 : List Bool) (p1 : Int) : Option Bool :=
 some (((p0.length : Int) != p1))
def Bz (N : Nat) (p0 : List (List Bool)) (p1 : (List Bool) → Option Bool) (j1 : Unit → Option Int) : Nat → Int → Option Int
 | 0, _ => none
 | n1 + 1, v1 =>
  AN ((decide (v1 < (p0.length : Int))))
   ((Bl p0 v1).bind fun v4 =>
   (p1 v4).bind fun v5 =>
   AN v5
    (some v1)
    (Bz N p0 p1 j1 n1 (wI .i64 (v1 + 1))))
   (j1 ())
def DQ (N : Nat) (p0 : List (List Bool)) (p1 : (List Bool) → Option Bool) : Option Int :=
 Bz N p0 p1 (fun (_ : Unit) =>
  some ((-1))) N 0
def Dm (N : Nat) (p0 : List (List Bool)) (p1 : (List Bool) → Option Bool) : Option Bool :=
 (DQ N p0 p1).bind fun v1 =>
 some ((decide (0 ≤ v1)))
def FT (N : Nat) (p0 : List (List Bool)) (p1 : Int) (p2 : Int) : Option Bool :=
 Bc (fun (v1 : Bool) =>
  some v1)
 fun j1 =>
 AN (((p0.length : Int) == p1))
  ((Dm N p0 ((fun (x : List Bool) => Ep N x p2))).bind fun v3 =>
  j1 (!v3))
  (j1 false)
def DG (N : Nat) (p1 : An) (j19 : Unit → Option Int) : Nat → Int → Option Int
 | 0, _ => none
 | n19 + 1, v19 =>
  AN ((decide (v19 < (p1.fT.length : Int))))
   ((Bl p1.fT v19).bind fun v22 =>
   (Bl v22 v19).bind fun v23 =>
   AN ((!v23))
    (some 1)
    (DG N p1 j19 n19 (wI .i64 (v19 + 1))))
   (j19 ())
def Hk (N : Nat) (p0 : Aa) (p1 : An) : Option Int :=
 (HS N p1.fP p1.fY).bind fun v1 =>
 AN ((!v1))
  (some 1)
  (Bc (fun (v3 : Bool) =>
   AN v3
    (some 4)
    ((Bl p0.fJ p1.fO).bind fun v8 =>
    Bc (fun (v9 : Bool) =>
     AN v9
      (some 6)
      (DG N p1 (fun (_ : Unit) =>
       some 0) N 0))
    fun j9 =>
    (Bl p0.fJ p1.fS).bind fun v10 =>
    (FT N p1.fX v8 v10).bind fun v11 =>
    AN ((!v11))
     (j9 true)
     (AN ((p1.fP == 4))
      ((FT N p1.fT v8 v8).bind fun v14 =>
      AN ((!v14))
       (j9 true)
       (AN ((!((p1.fP == 4))))
        (j9 (decide (0 < (p1.fT.length : Int))))
        (j9 false)))
      (AN ((!((p1.fP == 4))))
       (j9 (decide (0 < (p1.fT.length : Int))))
       (j9 false)))))
  fun j3 =>
  (DI N p1.fO ((p0.fJ.length : Int))).bind fun v4 =>
  AN ((!v4))
   (j3 true)
   ((DI N p1.fS ((p0.fJ.length : Int))).bind fun v6 =>
   j3 (!v6)))
def Cb (N : Nat) (p0 : Aa) (j7 : Unit → Option Int) : Nat → Int → Option Int
 | 0, _ => none
 | n7 + 1, v7 =>
  AN ((decide (v7 < (p0.fJ.length : Int))))
   ((Bl p0.fJ v7).bind fun v10 =>
   Bc (fun (v11 : Bool) =>
    AN v11
     (some 7)
     (Cb N p0 j7 n7 (wI .i64 (v7 + 1))))
   fun j11 =>
   AN ((decide (v10 < 1)))
    (j11 true)
    (AN ((decide (6 < v10)))
     (j11 true)
     ((Bl p0.fQ v7).bind fun v14 =>
     (DI N v14 v10).bind fun v15 =>
     AN ((!v15))
      (j11 true)
      ((Bl p0.fU v7).bind fun v17 =>
      (DI N v17 v10).bind fun v18 =>
      j11 (!v18)))))
   (j7 ())
def B4 (N : Nat) (p0 : Aa) (j20 : Unit → Option Int) : Nat → Int → Option Int
 | 0, _ => none
 | n20 + 1, v20 =>
  AN ((decide (v20 < (p0.fK.length : Int))))
   ((Bl p0.fK v20).bind fun v23 =>
   (Hk N p0 v23).bind fun v24 =>
   AN ((v24 != 0))
    (some v24)
    (B4 N p0 j20 n20 (wI .i64 (v20 + 1))))
   (j20 ())
def Ck (N : Nat) (p0 : Aa) : Option Int :=
 Bc (fun (v1 : Bool) =>
  AN v1
   (some 3)
   (Bc (fun (v4 : Bool) =>
    AN v4
     (some 6)
     (Cb N p0 (fun (_ : Unit) =>
      B4 N p0 (fun (_ : Unit) =>
       some 0) N 0) N 0))
   fun j4 =>
   AN (((p0.fQ.length : Int) != (p0.fJ.length : Int)))
    (j4 true)
    (j4 ((p0.fU.length : Int) != (p0.fJ.length : Int)))))
 fun j1 =>
 AN ((decide (6 < (p0.fJ.length : Int))))
  (j1 true)
  (j1 (decide (12 < (p0.fK.length : Int))))
def GO (_ : Nat) (p0 : List Int) (p1 : (Int × Int) → Option Int) : Option (List Int) := VG p1 (fun a b => decide (a = b)) p0
def F8 (_ : Nat) (p0 : Int) : Option Int :=
 (Tz ((⟨⟨(yY (yY [0, 1, 1, 2, 1, 2, 2, 3, 1, 2, 2, 3, 2, 3, 3, 4, 1, 2, 2, 3, 2, 3, 3, 4, 2, 3, 3, 4, 3, 4, 4, 5, 1, 2, 2, 3, 2, 3, 3, 4, 2, 3, 3, 4, 3, 4, 4, 5, 2, 3, 3, 4, 3, 4, 4, 5, 3, 4, 4, 5, 4, 5, 5, 6] [1, 2, 2, 3, 2, 3, 3, 4, 2, 3, 3, 4, 3, 4, 4, 5, 2, 3, 3, 4, 3, 4, 4, 5, 3, 4, 4, 5, 4, 5, 5, 6, 2, 3, 3, 4, 3, 4, 4, 5, 3, 4, 4, 5, 4, 5, 5, 6, 3, 4, 4, 5, 4, 5, 5, 6, 4, 5, 5, 6, 5, 6, 6, 7]) (yY [1, 2, 2, 3, 2, 3, 3, 4, 2, 3, 3, 4, 3, 4, 4, 5, 2, 3, 3, 4, 3, 4, 4, 5, 3, 4, 4, 5, 4, 5, 5, 6, 2, 3, 3, 4, 3, 4, 4, 5, 3, 4, 4, 5, 4, 5, 5, 6, 3, 4, 4, 5, 4, 5, 5, 6, 4, 5, 5, 6, 5, 6, 6, 7] [2, 3, 3, 4, 3, 4, 4, 5, 3, 4, 4, 5, 4, 5, 5, 6, 3, 4, 4, 5, 4, 5, 5, 6, 4, 5, 5, 6, 5, 6, 6, 7, 3, 4, 4, 5, 4, 5, 5, 6, 4, 5, 5, 6, 5, 6, 6, 7, 4, 5, 5, 6, 5, 6, 6, 7, 5, 6, 6, 7, 6, 7, 7, 8]))⟩⟩ : ByteArray)) ((A0 .u32 p0 24))).bind fun v1 =>
 (Tz ((⟨⟨(yY (yY [0, 1, 1, 2, 1, 2, 2, 3, 1, 2, 2, 3, 2, 3, 3, 4, 1, 2, 2, 3, 2, 3, 3, 4, 2, 3, 3, 4, 3, 4, 4, 5, 1, 2, 2, 3, 2, 3, 3, 4, 2, 3, 3, 4, 3, 4, 4, 5, 2, 3, 3, 4, 3, 4, 4, 5, 3, 4, 4, 5, 4, 5, 5, 6] [1, 2, 2, 3, 2, 3, 3, 4, 2, 3, 3, 4, 3, 4, 4, 5, 2, 3, 3, 4, 3, 4, 4, 5, 3, 4, 4, 5, 4, 5, 5, 6, 2, 3, 3, 4, 3, 4, 4, 5, 3, 4, 4, 5, 4, 5, 5, 6, 3, 4, 4, 5, 4, 5, 5, 6, 4, 5, 5, 6, 5, 6, 6, 7]) (yY [1, 2, 2, 3, 2, 3, 3, 4, 2, 3, 3, 4, 3, 4, 4, 5, 2, 3, 3, 4, 3, 4, 4, 5, 3, 4, 4, 5, 4, 5, 5, 6, 2, 3, 3, 4, 3, 4, 4, 5, 3, 4, 4, 5, 4, 5, 5, 6, 3, 4, 4, 5, 4, 5, 5, 6, 4, 5, 5, 6, 5, 6, 6, 7] [2, 3, 3, 4, 3, 4, 4, 5, 3, 4, 4, 5, 4, 5, 5, 6, 3, 4, 4, 5, 4, 5, 5, 6, 4, 5, 5, 6, 5, 6, 6, 7, 3, 4, 4, 5, 4, 5, 5, 6, 4, 5, 5, 6, 5, 6, 6, 7, 4, 5, 5, 6, 5, 6, 6, 7, 5, 6, 6, 7, 6, 7, 7, 8]))⟩⟩ : ByteArray)) ((AL .u32 ((A0 .u32 p0 16)) 255))).bind fun v2 =>
 (Tz ((⟨⟨(yY (yY [0, 1, 1, 2, 1, 2, 2, 3, 1, 2, 2, 3, 2, 3, 3, 4, 1, 2, 2, 3, 2, 3, 3, 4, 2, 3, 3, 4, 3, 4, 4, 5, 1, 2, 2, 3, 2, 3, 3, 4, 2, 3, 3, 4, 3, 4, 4, 5, 2, 3, 3, 4, 3, 4, 4, 5, 3, 4, 4, 5, 4, 5, 5, 6] [1, 2, 2, 3, 2, 3, 3, 4, 2, 3, 3, 4, 3, 4, 4, 5, 2, 3, 3, 4, 3, 4, 4, 5, 3, 4, 4, 5, 4, 5, 5, 6, 2, 3, 3, 4, 3, 4, 4, 5, 3, 4, 4, 5, 4, 5, 5, 6, 3, 4, 4, 5, 4, 5, 5, 6, 4, 5, 5, 6, 5, 6, 6, 7]) (yY [1, 2, 2, 3, 2, 3, 3, 4, 2, 3, 3, 4, 3, 4, 4, 5, 2, 3, 3, 4, 3, 4, 4, 5, 3, 4, 4, 5, 4, 5, 5, 6, 2, 3, 3, 4, 3, 4, 4, 5, 3, 4, 4, 5, 4, 5, 5, 6, 3, 4, 4, 5, 4, 5, 5, 6, 4, 5, 5, 6, 5, 6, 6, 7] [2, 3, 3, 4, 3, 4, 4, 5, 3, 4, 4, 5, 4, 5, 5, 6, 3, 4, 4, 5, 4, 5, 5, 6, 4, 5, 5, 6, 5, 6, 6, 7, 3, 4, 4, 5, 4, 5, 5, 6, 4, 5, 5, 6, 5, 6, 6, 7, 4, 5, 5, 6, 5, 6, 6, 7, 5, 6, 6, 7, 6, 7, 7, 8]))⟩⟩ : ByteArray)) ((AL .u32 ((A0 .u32 p0 8)) 255))).bind fun v3 =>
 (Tz ((⟨⟨(yY (yY [0, 1, 1, 2, 1, 2, 2, 3, 1, 2, 2, 3, 2, 3, 3, 4, 1, 2, 2, 3, 2, 3, 3, 4, 2, 3, 3, 4, 3, 4, 4, 5, 1, 2, 2, 3, 2, 3, 3, 4, 2, 3, 3, 4, 3, 4, 4, 5, 2, 3, 3, 4, 3, 4, 4, 5, 3, 4, 4, 5, 4, 5, 5, 6] [1, 2, 2, 3, 2, 3, 3, 4, 2, 3, 3, 4, 3, 4, 4, 5, 2, 3, 3, 4, 3, 4, 4, 5, 3, 4, 4, 5, 4, 5, 5, 6, 2, 3, 3, 4, 3, 4, 4, 5, 3, 4, 4, 5, 4, 5, 5, 6, 3, 4, 4, 5, 4, 5, 5, 6, 4, 5, 5, 6, 5, 6, 6, 7]) (yY [1, 2, 2, 3, 2, 3, 3, 4, 2, 3, 3, 4, 3, 4, 4, 5, 2, 3, 3, 4, 3, 4, 4, 5, 3, 4, 4, 5, 4, 5, 5, 6, 2, 3, 3, 4, 3, 4, 4, 5, 3, 4, 4, 5, 4, 5, 5, 6, 3, 4, 4, 5, 4, 5, 5, 6, 4, 5, 5, 6, 5, 6, 6, 7] [2, 3, 3, 4, 3, 4, 4, 5, 3, 4, 4, 5, 4, 5, 5, 6, 3, 4, 4, 5, 4, 5, 5, 6, 4, 5, 5, 6, 5, 6, 6, 7, 3, 4, 4, 5, 4, 5, 5, 6, 4, 5, 5, 6, 5, 6, 6, 7, 4, 5, 5, 6, 5, 6, 6, 7, 5, 6, 6, 7, 6, 7, 7, 8]))⟩⟩ : ByteArray)) ((AL .u32 p0 255))).bind fun v4 =>
 some ((wI .i64 ((wI .u8 ((wI .u8 ((wI .u8 (v1 + v2)) + v3)) + v4)))))
def Gg (_ : Nat) (p0 : Int) : Option Int :=
 some ((AL .i64 ((wI .i64 ((wI .u64 ((wI .u64 ((wI .u64 ((AL .u64 ((wI .u64 ((A0 .u64 ((wI .u64 ((AL .u64 ((A0 .u64 ((wI .u64 ((AL .u64 ((A0 .u64 p0 1)) 6148914691236517205) + (AL .u64 p0 6148914691236517205)))) 2)) 3689348814741910323) + (AL .u64 ((wI .u64 ((AL .u64 ((A0 .u64 p0 1)) 6148914691236517205) + (AL .u64 p0 6148914691236517205)))) 3689348814741910323)))) 4) + (wI .u64 ((AL .u64 ((A0 .u64 ((wI .u64 ((AL .u64 ((A0 .u64 p0 1)) 6148914691236517205) + (AL .u64 p0 6148914691236517205)))) 2)) 3689348814741910323) + (AL .u64 ((wI .u64 ((AL .u64 ((A0 .u64 p0 1)) 6148914691236517205) + (AL .u64 p0 6148914691236517205)))) 3689348814741910323)))))) 1085102592571150095) + (A0 .u64 ((AL .u64 ((wI .u64 ((A0 .u64 ((wI .u64 ((AL .u64 ((A0 .u64 ((wI .u64 ((AL .u64 ((A0 .u64 p0 1)) 6148914691236517205) + (AL .u64 p0 6148914691236517205)))) 2)) 3689348814741910323) + (AL .u64 ((wI .u64 ((AL .u64 ((A0 .u64 p0 1)) 6148914691236517205) + (AL .u64 p0 6148914691236517205)))) 3689348814741910323)))) 4) + (wI .u64 ((AL .u64 ((A0 .u64 ((wI .u64 ((AL .u64 ((A0 .u64 p0 1)) 6148914691236517205) + (AL .u64 p0 6148914691236517205)))) 2)) 3689348814741910323) + (AL .u64 ((wI .u64 ((AL .u64 ((A0 .u64 p0 1)) 6148914691236517205) + (AL .u64 p0 6148914691236517205)))) 3689348814741910323)))))) 1085102592571150095)) 8))) + (A0 .u64 ((wI .u64 ((AL .u64 ((wI .u64 ((A0 .u64 ((wI .u64 ((AL .u64 ((A0 .u64 ((wI .u64 ((AL .u64 ((A0 .u64 p0 1)) 6148914691236517205) + (AL .u64 p0 6148914691236517205)))) 2)) 3689348814741910323) + (AL .u64 ((wI .u64 ((AL .u64 ((A0 .u64 p0 1)) 6148914691236517205) + (AL .u64 p0 6148914691236517205)))) 3689348814741910323)))) 4) + (wI .u64 ((AL .u64 ((A0 .u64 ((wI .u64 ((AL .u64 ((A0 .u64 p0 1)) 6148914691236517205) + (AL .u64 p0 6148914691236517205)))) 2)) 3689348814741910323) + (AL .u64 ((wI .u64 ((AL .u64 ((A0 .u64 p0 1)) 6148914691236517205) + (AL .u64 p0 6148914691236517205)))) 3689348814741910323)))))) 1085102592571150095) + (A0 .u64 ((AL .u64 ((wI .u64 ((A0 .u64 ((wI .u64 ((AL .u64 ((A0 .u64 ((wI .u64 ((AL .u64 ((A0 .u64 p0 1)) 6148914691236517205) + (AL .u64 p0 6148914691236517205)))) 2)) 3689348814741910323) + (AL .u64 ((wI .u64 ((AL .u64 ((A0 .u64 p0 1)) 6148914691236517205) + (AL .u64 p0 6148914691236517205)))) 3689348814741910323)))) 4) + (wI .u64 ((AL .u64 ((A0 .u64 ((wI .u64 ((AL .u64 ((A0 .u64 p0 1)) 6148914691236517205) + (AL .u64 p0 6148914691236517205)))) 2)) 3689348814741910323) + (AL .u64 ((wI .u64 ((AL .u64 ((A0 .u64 p0 1)) 6148914691236517205) + (AL .u64 p0 6148914691236517205)))) 3689348814741910323)))))) 1085102592571150095)) 8)))) 16))) + (A0 .u64 ((wI .u64 ((wI .u64 ((AL .u64 ((wI .u64 ((A0 .u64 ((wI .u64 ((AL .u64 ((A0 .u64 ((wI .u64 ((AL .u64 ((A0 .u64 p0 1)) 6148914691236517205) + (AL .u64 p0 6148914691236517205)))) 2)) 3689348814741910323) + (AL .u64 ((wI .u64 ((AL .u64 ((A0 .u64 p0 1)) 6148914691236517205) + (AL .u64 p0 6148914691236517205)))) 3689348814741910323)))) 4) + (wI .u64 ((AL .u64 ((A0 .u64 ((wI .u64 ((AL .u64 ((A0 .u64 p0 1)) 6148914691236517205) + (AL .u64 p0 6148914691236517205)))) 2)) 3689348814741910323) + (AL .u64 ((wI .u64 ((AL .u64 ((A0 .u64 p0 1)) 6148914691236517205) + (AL .u64 p0 6148914691236517205)))) 3689348814741910323)))))) 1085102592571150095) + (A0 .u64 ((AL .u64 ((wI .u64 ((A0 .u64 ((wI .u64 ((AL .u64 ((A0 .u64 ((wI .u64 ((AL .u64 ((A0 .u64 p0 1)) 6148914691236517205) + (AL .u64 p0 6148914691236517205)))) 2)) 3689348814741910323) + (AL .u64 ((wI .u64 ((AL .u64 ((A0 .u64 p0 1)) 6148914691236517205) + (AL .u64 p0 6148914691236517205)))) 3689348814741910323)))) 4) + (wI .u64 ((AL .u64 ((A0 .u64 ((wI .u64 ((AL .u64 ((A0 .u64 p0 1)) 6148914691236517205) + (AL .u64 p0 6148914691236517205)))) 2)) 3689348814741910323) + (AL .u64 ((wI .u64 ((AL .u64 ((A0 .u64 p0 1)) 6148914691236517205) + (AL .u64 p0 6148914691236517205)))) 3689348814741910323)))))) 1085102592571150095)) 8))) + (A0 .u64 ((wI .u64 ((AL .u64 ((wI .u64 ((A0 .u64 ((wI .u64 ((AL .u64 ((A0 .u64 ((wI .u64 ((AL .u64 ((A0 .u64 p0 1)) 6148914691236517205) + (AL .u64 p0 6148914691236517205)))) 2)) 3689348814741910323) + (AL .u64 ((wI .u64 ((AL .u64 ((A0 .u64 p0 1)) 6148914691236517205) + (AL .u64 p0 6148914691236517205)))) 3689348814741910323)))) 4) + (wI .u64 ((AL .u64 ((A0 .u64 ((wI .u64 ((AL .u64 ((A0 .u64 p0 1)) 6148914691236517205) + (AL .u64 p0 6148914691236517205)))) 2)) 3689348814741910323) + (AL .u64 ((wI .u64 ((AL .u64 ((A0 .u64 p0 1)) 6148914691236517205) + (AL .u64 p0 6148914691236517205)))) 3689348814741910323)))))) 1085102592571150095) + (A0 .u64 ((AL .u64 ((wI .u64 ((A0 .u64 ((wI .u64 ((AL .u64 ((A0 .u64 ((wI .u64 ((AL .u64 ((A0 .u64 p0 1)) 6148914691236517205) + (AL .u64 p0 6148914691236517205)))) 2)) 3689348814741910323) + (AL .u64 ((wI .u64 ((AL .u64 ((A0 .u64 p0 1)) 6148914691236517205) + (AL .u64 p0 6148914691236517205)))) 3689348814741910323)))) 4) + (wI .u64 ((AL .u64 ((A0 .u64 ((wI .u64 ((AL .u64 ((A0 .u64 p0 1)) 6148914691236517205) + (AL .u64 p0 6148914691236517205)))) 2)) 3689348814741910323) + (AL .u64 ((wI .u64 ((AL .u64 ((A0 .u64 p0 1)) 6148914691236517205) + (AL .u64 p0 6148914691236517205)))) 3689348814741910323)))))) 1085102592571150095)) 8)))) 16)))) 32)))))) 127))
def Fr (N : Nat) (p0 : Int) : Option Int :=
 AN false
  ((F8 N ((wI .u32 p0))).bind fun v2 =>
  some v2)
  ((Gg N p0).bind fun v3 =>
  some v3)
def Hi (_ : Nat) (p0 : Int) : Option Int := eC p0
def GK (N : Nat) (j1 : ((List Int)) → Option ((List Int))) : Nat → ((List Int) × Int) → Option ((List Int))
 | 0, _ => none
 | n1 + 1, v1 =>
  AN ((v1.2 != 0))
   ((Hi N v1.2).bind fun v4 =>
   (D3 (v1.1.length + (([v4] : List Int)).length ≤ Dh)).bind fun _ =>
   GK N j1 n1 (v1.1 ++ (([v4] : List Int)), (AL .u64 v1.2 ((wI .u64 (v1.2 - 1))))))
   (j1 v1.1)
def FU (N : Nat) (p0 : Int) : Option ((List Int)) :=
 GK N (fun (v2 : (List Int)) =>
  some v2) N (([] : List Int), p0)
def Gp (_ : Nat) (p0 : Int) : Option Bool :=
 some ((p0 != p0))
def FC (N : Nat) (p0 : Int) (p1 : Int) : Option Int :=
 (Gp N p0).bind fun v1 =>
 (Gp N p1).bind fun v2 =>
 AN v1
  (AN v2
   (some 0)
   (some ((-1))))
  (AN v2
   (some 1)
   (AN ((decide (p0 < p1)))
    (some ((-1)))
    (AN ((decide (p1 < p0)))
     (some 1)
     (some 0))))
def Cx (N : Nat) (p0 : List Int) (p1 : List Int) (j1 : Unit → Option Int) : Nat → Int → Option Int
 | 0, _ => none
 | n1 + 1, v1 =>
  AN ((decide (v1 < (p0.length : Int))))
   ((Bl p0 v1).bind fun v4 =>
   AN ((decide ((p1.length : Int) ≤ v1)))
    (some 1)
    ((Bl p1 v1).bind fun v6 =>
    (FC N v4 v6).bind fun v7 =>
    AN ((v7 != 0))
     (some v7)
     (Cx N p0 p1 j1 n1 (wI .i64 (v1 + 1)))))
   (j1 ())
def Cv (N : Nat) (p0 : List Int) (p1 : List Int) : Option Int :=
 Cx N p0 p1 (fun (_ : Unit) =>
  AN ((decide ((p0.length : Int) < (p1.length : Int))))
   (some ((-1)))
   (some 0)) N 0
def H2 (N : Nat) (p0 : Int) (p1 : Int) : Option Int :=
 (Fr N p0).bind fun v1 =>
 (Fr N p1).bind fun v2 =>
 AN (((wI .i64 (v1 - v2)) != 0))
  (some ((wI .i64 (v1 - v2))))
  ((FU N p0).bind fun v4 =>
  (FU N p1).bind fun v5 =>
  (Cv N v4 v5).bind fun v6 =>
  some v6)
def BY (N : Nat) (p0 : List Int) (p1 : Int) (j1 : Unit → Option Int) : Nat → Int → Option Int
 | 0, _ => none
 | n1 + 1, v1 =>
  AN ((decide (v1 < (p0.length : Int))))
   ((Bl p0 v1).bind fun v4 =>
   AN ((p1 == v4))
    (some v1)
    (BY N p0 p1 j1 n1 (wI .i64 (v1 + 1))))
   (j1 ())
def DA (N : Nat) (p0 : List Int) (p1 : Int) : Option Int :=
 BY N p0 p1 (fun (_ : Unit) =>
  some ((-1))) N 0
def C8 (_ : Nat) (p0 : List (List Bool)) : Option ((List (List Bool))) :=
 (D3 ((([] : List (List Bool))).length + p0.length ≤ Dh)).bind fun _ =>
 some ((([] : List (List Bool))) ++ p0)
def CT (_ : Nat) (p0 : List Bool) : Option ((List Bool)) :=
 (D3 ((([] : List Bool)).length + p0.length ≤ Dh)).bind fun _ =>
 some ((([] : List Bool)) ++ p0)
def D7 (N : Nat) (v1 : (List (List Bool))) (j3 : ((List (List Bool))) → Option An) : Nat → ((List (List Bool)) × Int) → Option An
 | 0, _ => none
 | n3 + 1, v3 =>
  AN ((decide (v3.2 < (v1.length : Int))))
   ((Bl v3.1 v3.2).bind fun v6 =>
   (CT N v6).bind fun v7 =>
   (Bl v3.1 v3.2).bind fun _ =>
   D7 N v1 j3 n3 (v3.1.set ((v3.2).toNat) v7, (wI .i64 (v3.2 + 1))))
   (j3 v3.1)
def Da (N : Nat) (v2 : (List (List Bool))) (j9 : ((List (List Bool))) → Option An) : Nat → ((List (List Bool)) × Int) → Option An
 | 0, _ => none
 | n9 + 1, v9 =>
  AN ((decide (v9.2 < (v2.length : Int))))
   ((Bl v9.1 v9.2).bind fun v12 =>
   (CT N v12).bind fun v13 =>
   (Bl v9.1 v9.2).bind fun _ =>
   Da N v2 j9 n9 (v9.1.set ((v9.2).toNat) v13, (wI .i64 (v9.2 + 1))))
   (j9 v9.1)
def GP (N : Nat) (p0 : An) : Option An :=
 (C8 N p0.fX).bind fun v1 =>
 (C8 N p0.fT).bind fun v2 =>
 D7 N v1 (fun (v4 : (List (List Bool))) =>
  Da N v2 (fun (v10 : (List (List Bool))) =>
   some ((An.mk p0.fP p0.fO p0.fS p0.fY v4 v10))) N (v2, 0)) N (v1, 0)
def CC (N : Nat) (p1 : List Int) (j3 : Unit → Option (Aa × Int)) : Nat → Int → Option (Aa × Int)
 | 0, _ => none
 | n3 + 1, v3 =>
  AN ((decide (v3 < (p1.length : Int))))
   (Bc (fun (v6 : Bool) =>
    AN v6
     (some ((Aa.mk (([] : List Int)) (([] : List Int)) (([] : List Int)) (([] : List An))), 1))
     (CC N p1 j3 n3 (wI .i64 (v3 + 1))))
   fun j6 =>
   AN ((decide (0 < v3)))
    ((Bl p1 v3).bind fun v8 =>
    (Bl p1 ((wI .i64 (v3 - 1)))).bind fun v9 =>
    j6 (decide (v8 ≤ v9)))
    (j6 false))
   (j3 ())
def DW (N : Nat) (p0 : Aa) (p1 : List Int) (j11 : ((List Int) × (List Int) × (List Int)) → Option (Aa × Int)) : Nat → ((List Int) × (List Int) × (List Int) × Int) → Option (Aa × Int)
 | 0, _ => none
 | n11 + 1, v11 =>
  AN ((decide (v11.2.2.2 < (p1.length : Int))))
   ((Bl p1 v11.2.2.2).bind fun v14 =>
   (DI N v14 ((p0.fJ.length : Int))).bind fun v15 =>
   AN ((!v15))
    (some ((Aa.mk (([] : List Int)) (([] : List Int)) (([] : List Int)) (([] : List An))), 4))
    ((Bl p0.fJ v14).bind fun v17 =>
    (D3 (v11.1.length + (([v17] : List Int)).length ≤ Dh)).bind fun _ =>
    (Bl p0.fQ v14).bind fun v19 =>
    (D3 (v11.2.1.length + (([v19] : List Int)).length ≤ Dh)).bind fun _ =>
    (Bl p0.fU v14).bind fun v21 =>
    (D3 (v11.2.2.1.length + (([v21] : List Int)).length ≤ Dh)).bind fun _ =>
    DW N p0 p1 j11 n11 (v11.1 ++ (([v17] : List Int)), v11.2.1 ++ (([v19] : List Int)), v11.2.2.1 ++ (([v21] : List Int)), (wI .i64 (v11.2.2.2 + 1)))))
   (j11 (v11.1, v11.2.1, v11.2.2.1))
def CX (N : Nat) (p0 : Aa) (p1 : List Int) (j23 : ((List An)) → Option (Aa × Int)) : Nat → ((List An) × Int) → Option (Aa × Int)
 | 0, _ => none
 | n23 + 1, v23 =>
  AN ((decide (v23.2 < (p0.fK.length : Int))))
   (Bc (fun (v26 : (List An)) =>
    CX N p0 p1 j23 n23 (v26, (wI .i64 (v23.2 + 1))))
   fun j26 =>
   (Bl p0.fK v23.2).bind fun v27 =>
   (DA N p1 v27.fO).bind fun v28 =>
   (DA N p1 v27.fS).bind fun v29 =>
   Bc (fun (v30 : Bool) =>
    AN v30
     ((GP N v27).bind fun v33 =>
     (D3 (v23.1.length + (([(An.mk v33.fP v28 v29 v33.fY v33.fX v33.fT)] : List An)).length ≤ Dh)).bind fun _ =>
     j26 (v23.1 ++ (([(An.mk v33.fP v28 v29 v33.fY v33.fX v33.fT)] : List An))))
     (j26 v23.1))
   fun j30 =>
   AN ((decide (0 ≤ v28)))
    (j30 (decide (0 ≤ v29)))
    (j30 false))
   (j23 v23.1)
def Ff (N : Nat) (p0 : Aa) (p1 : List Int) : Option (Aa × Int) :=
 (Ck N p0).bind fun v1 =>
 AN ((v1 != 0))
  (some ((Aa.mk (([] : List Int)) (([] : List Int)) (([] : List Int)) (([] : List An))), v1))
  (CC N p1 (fun (_ : Unit) =>
   DW N p0 p1 (fun (v12 : (List Int) × (List Int) × (List Int)) =>
    CX N p0 p1 (fun (v24 : (List An)) =>
     some ((Aa.mk v12.1 v12.2.1 v12.2.2 v24), 0)) N (([] : List An), 0)) N (([] : List Int), ([] : List Int), ([] : List Int), 0)) N 0)
def Bb (_ : Nat) (p0 : List Int) : Option ((List Int)) :=
 (D3 ((([] : List Int)).length + p0.length ≤ Dh)).bind fun _ =>
 some ((([] : List Int)) ++ p0)
def Ib (_ : Nat) (p0 : Int) (p1 : Int) : Option (Int × Int) :=
 some ((wI .u32 ((A0 .u64 ((wI .u64 ((wI .u64 p0) * (wI .u64 p1)))) 32))), (wI .u32 ((wI .u64 ((wI .u64 p0) * (wI .u64 p1))))))
def H3 (_ : Nat) (p0 : Int) (p1 : Int) : Option (Int × Int) :=
 some ((wI .u64 ((wI .u64 ((wI .u64 ((A0 .u64 p0 32) * (A0 .u64 p1 32))) + (A0 .u64 ((wI .u64 ((wI .u64 ((A0 .u64 p0 32) * (AL .u64 p1 4294967295))) + (A0 .u64 ((wI .u64 ((AL .u64 p0 4294967295) * (AL .u64 p1 4294967295)))) 32)))) 32))) + (A0 .u64 ((wI .u64 ((AL .u64 ((wI .u64 ((wI .u64 ((A0 .u64 p0 32) * (AL .u64 p1 4294967295))) + (A0 .u64 ((wI .u64 ((AL .u64 p0 4294967295) * (AL .u64 p1 4294967295)))) 32)))) 4294967295) + (wI .u64 ((AL .u64 p0 4294967295) * (A0 .u64 p1 32)))))) 32))), (wI .u64 (p0 * p1)))
def IM (N : Nat) (p0 : Int) (p1 : Int) : Option (Int × Int) :=
 AN false
  ((Ib N ((wI .u32 p0)) ((wI .u32 p1))).bind fun v2 =>
  some ((wI .u64 v2.1), (wI .u64 v2.2)))
  ((H3 N p0 p1).bind fun v3 =>
  some (v3.1, v3.2))
def En (N : Nat) (j9 : ((List Int)) → Option ((List Int))) : Nat → ((List Int) × Int) → Option ((List Int))
 | 0, _ => none
 | n9 + 1, v9 =>
  AN ((decide (v9.2 < (v9.1.length : Int))))
   ((D3 ((0 : Int) ≤ v9.2 ∧ (v9.2).toNat ≤ v9.1.length ∧ v9.1.length ≤ v9.1.length)).bind fun _ =>
   (D3 ((0 : Int) ≤ v9.2 ∧ 0 ≤ (v9.2).toNat ∧ (v9.2).toNat ≤ v9.1.length)).bind fun _ =>
   En N j9 n9 (JK v9.1 ((v9.2).toNat) ((((v9.1.drop 0).take ((v9.2).toNat))).take (y9 (((v9.1.drop 0).take ((v9.2).toNat))).length ((v9.1.length - (v9.2).toNat)))), (wI .i64 (v9.2 + (((y9 (((v9.1.drop 0).take ((v9.2).toNat))).length ((v9.1.length - (v9.2).toNat))) : Nat) : Int)))))
   (j9 v9.1)
def EV (N : Nat) (p0 : List Int) (p1 : Int) : Option ((List Int)) :=
 Bc (fun (_ : Unit) =>
  (IM N ((wI .u64 ((p0.length : Int)))) ((wI .u64 p1))).bind fun v3 =>
  Bc (fun (_ : Unit) =>
   (D3 ((0 : Int) ≤ (wI .i64 v3.2) ∧ (wI .i64 v3.2) ≤ (wI .i64 v3.2) ∧ (wI .i64 v3.2) ≤ (Dh : Int))).bind fun _ =>
   En N (fun (v10 : (List Int)) =>
    some v10) N (JK (zH ((wI .i64 v3.2)).toNat ((0 : Int))) 0 (p0.take (y9 p0.length ((zH ((wI .i64 v3.2)).toNat ((0 : Int))).length))), (((y9 p0.length ((zH ((wI .i64 v3.2)).toNat ((0 : Int))).length)) : Nat) : Int)))
  fun j4 =>
  Bc (fun (v5 : Bool) =>
   AN v5
    (none)
    (j4 ()))
  fun j5 =>
  AN ((decide (0 < v3.1)))
   (j5 true)
   (j5 (decide (9223372036854775807 < v3.2))))
 fun j1 =>
 AN ((decide (p1 < 0)))
  (none)
  (j1 ())
def Ga (_ : Nat) (p0 : An) : Option Bool :=
 Bc (fun (v1 : Bool) =>
  some v1)
 fun j1 =>
 AN ((p0.fP == 3))
  (j1 true)
  (j1 (p0.fP == 4))
def EE (N : Nat) (p0 : Aa) (j6 : ((List Int)) → Option (Ab × Int)) : Nat → ((List Int) × Int) → Option (Ab × Int)
 | 0, _ => none
 | n6 + 1, v6 =>
  AN ((decide (v6.2 < (p0.fK.length : Int))))
   (Bc (fun (v9 : (List Int)) =>
    EE N p0 j6 n6 (v9, (wI .i64 (v6.2 + 1))))
   fun j9 =>
   (Bl p0.fK v6.2).bind fun v10 =>
   (Ga N v10).bind fun v11 =>
   AN v11
    ((Bl p0.fQ v10.fO).bind fun v13 =>
    (D3 (0 ≤ v13)).bind fun _ =>
    (Bl v6.1 v6.2).bind fun _ =>
    j9 (v6.1.set ((v6.2).toNat) ((D8 .u8 1 v13))))
    (j9 v6.1))
   (j6 v6.1)
def Hw (N : Nat) (p0 : Aa) : Option (Ab × Int) :=
 (Ck N p0).bind fun v1 =>
 AN ((v1 != 0))
  (some ((Ab.mk (([] : List Int)) (([] : List Int)) (([] : List Int))), v1))
  ((Bb N p0.fQ).bind fun v3 =>
  (EV N (([(-1)] : List Int)) ((p0.fQ.length : Int))).bind fun v4 =>
  (D3 ((0 : Int) ≤ (p0.fK.length : Int) ∧ (p0.fK.length : Int) ≤ (p0.fK.length : Int) ∧ (p0.fK.length : Int) ≤ (Dh : Int))).bind fun _ =>
  EE N p0 (fun (v7 : (List Int)) =>
   some ((Ab.mk v3 v4 v7), 0)) N (zH ((p0.fK.length : Int)).toNat ((0 : Int)), 0))
def FB (_ : Nat) (p0 : Ab) (p1 : Int) : Option Int :=
 (Bl p0.fL p1).bind fun v1 =>
 (D3 (0 ≤ v1)).bind fun _ =>
 Bc (fun (v3 : Int) =>
  some v3)
 fun j3 =>
 (Bl p0.fI p1).bind fun v4 =>
 AN ((decide (0 ≤ v4)))
  ((Bl p0.fI p1).bind fun v6 =>
  (D3 (0 ≤ v6)).bind fun _ =>
  j3 (Qz .u8 ((D8 .u8 1 v1)) ((D8 .u8 1 v6))))
  (j3 (D8 .u8 1 v1))
def ED (N : Nat) (p0 : Aa) (p1 : Ab) (j7 : Unit → Option Int) : Nat → Int → Option Int
 | 0, _ => none
 | n7 + 1, v7 =>
  AN ((decide (v7 < (p0.fJ.length : Int))))
   ((Bl p0.fJ v7).bind fun v10 =>
   Bc (fun (v11 : Bool) =>
    AN v11
     (some 7)
     ((Bl p1.fL v7).bind fun v20 =>
     (Bl p1.fI v7).bind fun v21 =>
     AN ((v20 == v21))
      (some 1)
      (ED N p0 p1 j7 n7 (wI .i64 (v7 + 1)))))
   fun j11 =>
   (Bl p1.fL v7).bind fun v12 =>
   AN ((decide (v12 < 0)))
    (j11 true)
    ((Bl p1.fL v7).bind fun v14 =>
    AN ((decide (v10 ≤ v14)))
     (j11 true)
     ((Bl p1.fI v7).bind fun v16 =>
     AN ((decide (v16 < (-1))))
      (j11 true)
      ((Bl p1.fI v7).bind fun v18 =>
      j11 (decide (v10 ≤ v18))))))
   (j7 ())
def Eg (N : Nat) (p0 : Aa) (p1 : Ab) (j23 : Unit → Option Int) : Nat → Int → Option Int
 | 0, _ => none
 | n23 + 1, v23 =>
  AN ((decide (v23 < (p0.fK.length : Int))))
   ((Bl p0.fK v23).bind fun v26 =>
   Bc (fun (v27 : Int × Int) =>
    Bc (fun (v33 : Bool) =>
     AN v33
      (some 1)
      (Eg N p0 p1 j23 n23 (wI .i64 (v23 + 1))))
    fun j33 =>
    (Bl p1.fN v23).bind fun v34 =>
    AN (((Df .u8 v27.1 v34) != 0))
     (j33 true)
     ((Bl p1.fN v23).bind fun v36 =>
     j33 ((Df .u8 v36 v27.2) != 0)))
   fun j27 =>
   (Ga N v26).bind fun v28 =>
   AN v28
    ((FB N p1 v26.fO).bind fun v30 =>
    (Bl p0.fJ v26.fO).bind fun v31 =>
    (D3 (0 ≤ v31)).bind fun _ =>
    j27 (v30, (wI .u8 ((D8 .u8 1 v31) - 1))))
    (j27 (0, 0)))
   (j23 ())
def FW (N : Nat) (p0 : Aa) (p1 : Ab) : Option Int :=
 (Ck N p0).bind fun v1 =>
 AN ((v1 != 0))
  (some v1)
  (Bc (fun (v3 : Bool) =>
   AN v3
    (some 6)
    (ED N p0 p1 (fun (_ : Unit) =>
     Eg N p0 p1 (fun (_ : Unit) =>
      some 0) N 0) N 0))
  fun j3 =>
  AN (((p1.fL.length : Int) != (p0.fJ.length : Int)))
   (j3 true)
   (AN (((p1.fI.length : Int) != (p0.fJ.length : Int)))
    (j3 true)
    (j3 ((p1.fN.length : Int) != (p0.fK.length : Int)))))
def B6 (_ : Nat) (p0 : List Int) : Option ((List Int)) :=
 (D3 ((([] : List Int)).length + p0.length ≤ Dh)).bind fun _ =>
 some ((([] : List Int)) ++ p0)
def Ec (N : Nat) (p1 : Ab) (j3 : ((List Int)) → Option ((List Ab) × Int)) : Nat → ((List Int) × Int) → Option ((List Ab) × Int)
 | 0, _ => none
 | n3 + 1, v3 =>
  AN ((decide (v3.2 < (p1.fI.length : Int))))
   (Bc (fun (v6 : (List Int)) =>
    Ec N p1 j3 n3 (v6, (wI .i64 (v3.2 + 1))))
   fun j6 =>
   (Bl p1.fI v3.2).bind fun v7 =>
   AN ((decide (0 ≤ v7)))
    ((D3 (v3.1.length + (([v3.2] : List Int)).length ≤ Dh)).bind fun _ =>
    j6 (v3.1 ++ (([v3.2] : List Int))))
    (j6 v3.1))
   (j3 v3.1)
def Do (N : Nat) (v4 : (List Int)) (v11 : (List Ab) × Int) (j17 : ((List Int)) → Option ((List Ab) × Int)) : Nat → ((List Int) × Int) → Option ((List Ab) × Int)
 | 0, _ => none
 | n17 + 1, v17 =>
  AN ((decide (v17.2 < (v4.length : Int))))
   (Bc (fun (v20 : (List Int)) =>
    Do N v4 v11 j17 n17 (v20, (wI .i64 (v17.2 + 1))))
   fun j20 =>
   (Bl v4 v17.2).bind fun v21 =>
   (D3 (0 ≤ v17.2)).bind fun _ =>
   AN (((AL .i64 ((A0 .i64 v11.2 v17.2)) 1) == 1))
    ((Bl v17.1 v21).bind fun _ =>
    j20 (v17.1.set ((v21).toNat) ((-1))))
    (j20 v17.1))
   (j17 v17.1)
def Dp (N : Nat) (p1 : Ab) (v4 : (List Int)) (j11 : ((List Ab)) → Option ((List Ab) × Int)) : Nat → ((List Ab) × Int) → Option ((List Ab) × Int)
 | 0, _ => none
 | n11 + 1, v11 =>
  AN ((decide (v11.2 < (D8 .i64 1 ((v4.length : Int))))))
   ((Bb N p1.fL).bind fun v14 =>
   (Bb N p1.fI).bind fun v15 =>
   (B6 N p1.fN).bind fun v16 =>
   Do N v4 v11 (fun (v18 : (List Int)) =>
    (D3 (v11.1.length + (([(Ab.mk v14 v18 v16)] : List Ab)).length ≤ Dh)).bind fun _ =>
    Dp N p1 v4 j11 n11 (v11.1 ++ (([(Ab.mk v14 v18 v16)] : List Ab)), (wI .i64 (v11.2 + 1)))) N (v15, 0))
   (j11 v11.1)
def Gd (N : Nat) (p0 : Aa) (p1 : Ab) : Option ((List Ab) × Int) :=
 (FW N p0 p1).bind fun v1 =>
 AN ((v1 != 0))
  (some (([] : List Ab), v1))
  (Ec N p1 (fun (v4 : (List Int)) =>
   (D3 (0 ≤ (v4.length : Int))).bind fun _ =>
   Dp N p1 v4 (fun (v12 : (List Ab)) =>
    some (v12, 0)) N (([] : List Ab), 0)) N (([] : List Int), 0))
def Cd (N : Nat) (v1 : (List Ap) × Int) (v4 : An) (v6 : Int) (v11 : (List Ap) × Int) (v17 : List Bool) (j18 : ((List Ap) × Bool) → Option ((List Ap))) : Nat → ((List Ap) × Bool × Int) → Option ((List Ap))
 | 0, _ => none
 | n18 + 1, v18 =>
  AN ((decide (v18.2.2 < (v17.length : Int))))
   (Bc (fun (v21 : (List Ap) × Bool) =>
    Cd N v1 v4 v6 v11 v17 j18 n18 (v21.1, v21.2, (wI .i64 (v18.2.2 + 1))))
   fun j21 =>
   (Bl v17 v18.2.2).bind fun v22 =>
   (D3 (0 ≤ v18.2.2)).bind fun _ =>
   AN (((AL .u8 ((A0 .u8 v6 v18.2.2)) 1) == 0))
    (j21 (v18.1, v18.2.1))
    (Bc (fun (v25 : Bool) =>
     Bc (fun (v27 : Bool) =>
      AN v27
       ((D3 (v18.1.length + (([(Ap.mk v1.2 v11.2 v18.2.2)] : List Ap)).length ≤ Dh)).bind fun _ =>
       j21 (v18.1 ++ (([(Ap.mk v1.2 v11.2 v18.2.2)] : List Ap)), v25))
       (j21 (v18.1, v25)))
     fun j27 =>
     AN ((!v22))
      (j27 (!v4.fY))
      (j27 false))
    fun j25 =>
    AN v18.2.1
     (j25 true)
     (j25 v22)))
   (j18 (v18.1, v18.2.1))
def CF (N : Nat) (v1 : (List Ap) × Int) (v4 : An) (v6 : Int) (v7 : Int) (j11 : ((List Ap)) → Option ((List Ap))) : Nat → ((List Ap) × Int) → Option ((List Ap))
 | 0, _ => none
 | n11 + 1, v11 =>
  AN ((decide (v11.2 < (v4.fX.length : Int))))
   (Bc (fun (v14 : (List Ap)) =>
    CF N v1 v4 v6 v7 j11 n11 (v14, (wI .i64 (v11.2 + 1))))
   fun j14 =>
   (D3 (0 ≤ v11.2)).bind fun _ =>
   AN (((AL .u8 ((A0 .u8 v7 v11.2)) 1) == 0))
    (j14 v11.1)
    ((Bl v4.fX v11.2).bind fun v17 =>
    Cd N v1 v4 v6 v11 v17 (fun (v19 : (List Ap) × Bool) =>
     Bc (fun (v31 : Bool) =>
      AN v31
       ((D3 (v19.1.length + (([(Ap.mk v1.2 v11.2 ((-1)))] : List Ap)).length ≤ Dh)).bind fun _ =>
       j14 (v19.1 ++ (([(Ap.mk v1.2 v11.2 ((-1)))] : List Ap))))
       (j14 v19.1))
     fun j31 =>
     AN v4.fY
      (j31 (!v19.2))
      (j31 false)) N (v11.1, false, 0)))
   (j11 v11.1)
def DP (N : Nat) (p0 : Aa) (p1 : Ab) (j1 : ((List Ap)) → Option ((List Ap))) : Nat → ((List Ap) × Int) → Option ((List Ap))
 | 0, _ => none
 | n1 + 1, v1 =>
  AN ((decide (v1.2 < (p0.fK.length : Int))))
   ((Bl p0.fK v1.2).bind fun v4 =>
   (FB N p1 v4.fO).bind fun v5 =>
   (FB N p1 v4.fS).bind fun v6 =>
   Bc (fun (v7 : Int) =>
    CF N v1 v4 v6 v7 (fun (v12 : (List Ap)) =>
     DP N p0 p1 j1 n1 (v12, (wI .i64 (v1.2 + 1)))) N (v1.1, 0))
   fun j7 =>
   (Ga N v4).bind fun v8 =>
   AN v8
    ((Bl p1.fN v1.2).bind fun v10 =>
    j7 v10)
    (j7 v5))
   (j1 v1.1)
def Gs (N : Nat) (p0 : Aa) (p1 : Ab) : Option ((List Ap)) :=
 DP N p0 p1 (fun (v2 : (List Ap)) =>
  some v2) N (([] : List Ap), 0)
def Fj (N : Nat) (p0 : Aa) (v1 : (List Ab) × Int) (j3 : Unit → Option (Ab × Ap × Int)) : Nat → Int → Option (Ab × Ap × Int)
 | 0, _ => none
 | n3 + 1, v3 =>
  AN ((decide (v3 < (v1.1.length : Int))))
   ((Bl v1.1 v3).bind fun v6 =>
   (Gs N p0 v6).bind fun v7 =>
   AN ((decide (0 < (v7.length : Int))))
    ((Bl v7 0).bind fun v9 =>
    some (v6, v9, 0))
    (Fj N p0 v1 j3 n3 (wI .i64 (v3 + 1))))
   (j3 ())
def GE (N : Nat) (p0 : Aa) (p1 : Ab) : Option (Ab × Ap × Int) :=
 (Gd N p0 p1).bind fun v1 =>
 AN ((v1.2 != 0))
  (some ((Ab.mk (([] : List Int)) (([] : List Int)) (([] : List Int))), (Ap.mk 0 0 0), v1.2))
  (Fj N p0 v1 (fun (_ : Unit) =>
   some ((Ab.mk (([] : List Int)) (([] : List Int)) (([] : List Int))), (Ap.mk 0 0 0), 15)) N 0)
def DZ (N : Nat) (p0 : Aa) (p1 : Ab) : Option (Bool × Int) :=
 (GE N p0 p1).bind fun v1 =>
 AN ((v1.2.2 == 0))
  (some (false, 0))
  (AN ((v1.2.2 == 15))
   (some (true, 0))
   (some (false, v1.2.2)))
def EY (N : Nat) (p0 : Ab) (j2 : ((List Int)) → Option ByteArray) : Nat → ((List Int) × Int) → Option ByteArray
 | 0, _ => none
 | n2 + 1, v2 =>
  AN ((decide (v2.2 < (p0.fL.length : Int))))
   ((Bl p0.fL v2.2).bind fun v5 =>
   (Bl p0.fI v2.2).bind fun v6 =>
   (D3 (v2.1.length + (([(wI .u8 v5), (wI .u8 ((wI .i64 (v6 + 1))))] : List Int)).length ≤ Dh)).bind fun _ =>
   EY N p0 j2 n2 (v2.1 ++ (([(wI .u8 v5), (wI .u8 ((wI .i64 (v6 + 1))))] : List Int)), (wI .i64 (v2.2 + 1))))
   (j2 v2.1)
def DY (N : Nat) (p0 : Ab) (j8 : ((List Int)) → Option ByteArray) : Nat → ((List Int) × Int) → Option ByteArray
 | 0, _ => none
 | n8 + 1, v8 =>
  AN ((decide (v8.2 < (p0.fN.length : Int))))
   ((Bl p0.fN v8.2).bind fun v11 =>
   (D3 (v8.1.length + (([v11] : List Int)).length ≤ Dh)).bind fun _ =>
   DY N p0 j8 n8 (v8.1 ++ (([v11] : List Int)), (wI .i64 (v8.2 + 1))))
   (j8 v8.1)
def Ig (N : Nat) (p0 : Ab) : Option ByteArray :=
 (D3 ((0 : Int) ≤ 0 ∧ 0 ≤ (wI .i64 ((wI .i64 (2 * (p0.fL.length : Int))) + (p0.fN.length : Int))) ∧ (wI .i64 ((wI .i64 (2 * (p0.fL.length : Int))) + (p0.fN.length : Int))) ≤ (Dh : Int))).bind fun _ =>
 EY N p0 (fun (v3 : (List Int)) =>
  DY N p0 (fun (v9 : (List Int)) =>
   some ((CZ v9))) N (v3, 0)) N (zH (0 : Int).toNat ((0 : Int)), 0)
def E4 (N : Nat) (v1 : (List Ae) × Int) (v4 : Int) (j5 : ((List Ae)) → Option ((List Ae))) : Nat → ((List Ae) × Int) → Option ((List Ae))
 | 0, _ => none
 | n5 + 1, v5 =>
  AN ((decide (v5.2 < v4)))
   ((D3 (v5.1.length + (([(Ae.mk 1 v1.2 v5.2)] : List Ae)).length ≤ Dh)).bind fun _ =>
   E4 N v1 v4 j5 n5 (v5.1 ++ (([(Ae.mk 1 v1.2 v5.2)] : List Ae)), (wI .i64 (v5.2 + 1))))
   (j5 v5.1)
def DB (N : Nat) (p0 : Aa) (j1 : ((List Ae)) → Option ((List Ae))) : Nat → ((List Ae) × Int) → Option ((List Ae))
 | 0, _ => none
 | n1 + 1, v1 =>
  AN ((decide (v1.2 < (p0.fJ.length : Int))))
   ((Bl p0.fJ v1.2).bind fun v4 =>
   E4 N v1 v4 (fun (v6 : (List Ae)) =>
    DB N p0 j1 n1 (v6, (wI .i64 (v1.2 + 1)))) N (v1.1, 0))
   (j1 v1.1)
def CH (N : Nat) (p0 : Aa) (j9 : ((List Ae)) → Option ((List Ae))) : Nat → ((List Ae) × Int) → Option ((List Ae))
 | 0, _ => none
 | n9 + 1, v9 =>
  AN ((decide (v9.2 < (p0.fJ.length : Int))))
   ((D3 (v9.1.length + (([(Ae.mk 2 v9.2 0)] : List Ae)).length ≤ Dh)).bind fun _ =>
   CH N p0 j9 n9 (v9.1 ++ (([(Ae.mk 2 v9.2 0)] : List Ae)), (wI .i64 (v9.2 + 1))))
   (j9 v9.1)
def BD (N : Nat) (p0 : Aa) (j13 : ((List Ae)) → Option ((List Ae))) : Nat → ((List Ae) × Int) → Option ((List Ae))
 | 0, _ => none
 | n13 + 1, v13 =>
  AN ((decide (v13.2 < (p0.fK.length : Int))))
   ((D3 (v13.1.length + (([(Ae.mk 3 v13.2 0)] : List Ae)).length ≤ Dh)).bind fun _ =>
   BD N p0 j13 n13 (v13.1 ++ (([(Ae.mk 3 v13.2 0)] : List Ae)), (wI .i64 (v13.2 + 1))))
   (j13 v13.1)
def I6 (N : Nat) (p0 : Aa) : Option ((List Ae)) :=
 DB N p0 (fun (v2 : (List Ae)) =>
  CH N p0 (fun (v10 : (List Ae)) =>
   BD N p0 (fun (v14 : (List Ae)) =>
    some v14) N (v10, 0)) N (v2, 0)) N (([] : List Ae), 0)
def Hl (N : Nat) (p0 : Ab) : Option Ab :=
 (Bb N p0.fL).bind fun v1 =>
 (Bb N p0.fI).bind fun v2 =>
 (B6 N p0.fN).bind fun v3 =>
 some ((Ab.mk v1 v2 v3))
def Gn (_ : Nat) (p0 : An) : Option Bool :=
 Bc (fun (v1 : Bool) =>
  some v1)
 fun j1 =>
 AN ((p0.fP == 3))
  (j1 true)
  (j1 (p0.fP == 4))
def Ed (N : Nat) (p0 : Aa) (p2 : Ae) (j7 : ((List Int)) → Option (Bool × (List Int) × (List Int))) : Nat → ((List Int) × Int) → Option (Bool × (List Int) × (List Int))
 | 0, _ => none
 | n7 + 1, v7 =>
  AN ((decide (v7.2 < (p0.fK.length : Int))))
   (Bc (fun (v10 : (List Int)) =>
    Ed N p0 p2 j7 n7 (v10, (wI .i64 (v7.2 + 1))))
   fun j10 =>
   (Bl p0.fK v7.2).bind fun v11 =>
   Bc (fun (v12 : Bool) =>
    AN v12
     ((Bl v7.1 v7.2).bind fun v16 =>
     (D3 (0 ≤ p2.fW)).bind fun _ =>
     (Bl v7.1 v7.2).bind fun _ =>
     j10 (v7.1.set ((v7.2).toNat) ((Qz .u8 v16 ((D8 .u8 1 p2.fW))))))
     (j10 v7.1))
   fun j12 =>
   AN ((v11.fO == p2.fR))
    ((Gn N v11).bind fun v14 =>
    j12 v14)
    (j12 false))
   (j7 v7.1)
def I3 (N : Nat) (p0 : Aa) (p1 : Ab) (p2 : Ae) : Option (Bool × (List Int) × (List Int)) :=
 Bc (fun (v1 : Bool) =>
  AN v1
   (some (false, p1.fI, p1.fN))
   ((Bl p1.fI p2.fR).bind fun _ =>
   Ed N p0 p2 (fun (v8 : (List Int)) =>
    some (true, p1.fI.set ((p2.fR).toNat) p2.fW, v8)) N (p1.fN, 0)))
 fun j1 =>
 (Bl p1.fI p2.fR).bind fun v2 =>
 AN ((decide (0 ≤ v2)))
  (j1 true)
  ((Bl p1.fL p2.fR).bind fun v4 =>
  j1 (v4 == p2.fW))
def GN (_ : Nat) (p0 : Ab) (p1 : Int) : Option Int :=
 (Bl p0.fL p1).bind fun v1 =>
 (D3 (0 ≤ v1)).bind fun _ =>
 Bc (fun (v3 : Int) =>
  some v3)
 fun j3 =>
 (Bl p0.fI p1).bind fun v4 =>
 AN ((decide (0 ≤ v4)))
  ((Bl p0.fI p1).bind fun v6 =>
  (D3 (0 ≤ v6)).bind fun _ =>
  j3 (Qz .u8 ((D8 .u8 1 v1)) ((D8 .u8 1 v6))))
  (j3 (D8 .u8 1 v1))
def Dl (_ : Nat) (p0 : Int) : Option Int :=
 (Tz ((⟨⟨(yY (yY [8, 0, 1, 0, 2, 0, 1, 0, 3, 0, 1, 0, 2, 0, 1, 0, 4, 0, 1, 0, 2, 0, 1, 0, 3, 0, 1, 0, 2, 0, 1, 0, 5, 0, 1, 0, 2, 0, 1, 0, 3, 0, 1, 0, 2, 0, 1, 0, 4, 0, 1, 0, 2, 0, 1, 0, 3, 0, 1, 0, 2, 0, 1, 0] [6, 0, 1, 0, 2, 0, 1, 0, 3, 0, 1, 0, 2, 0, 1, 0, 4, 0, 1, 0, 2, 0, 1, 0, 3, 0, 1, 0, 2, 0, 1, 0, 5, 0, 1, 0, 2, 0, 1, 0, 3, 0, 1, 0, 2, 0, 1, 0, 4, 0, 1, 0, 2, 0, 1, 0, 3, 0, 1, 0, 2, 0, 1, 0]) (yY [7, 0, 1, 0, 2, 0, 1, 0, 3, 0, 1, 0, 2, 0, 1, 0, 4, 0, 1, 0, 2, 0, 1, 0, 3, 0, 1, 0, 2, 0, 1, 0, 5, 0, 1, 0, 2, 0, 1, 0, 3, 0, 1, 0, 2, 0, 1, 0, 4, 0, 1, 0, 2, 0, 1, 0, 3, 0, 1, 0, 2, 0, 1, 0] [6, 0, 1, 0, 2, 0, 1, 0, 3, 0, 1, 0, 2, 0, 1, 0, 4, 0, 1, 0, 2, 0, 1, 0, 3, 0, 1, 0, 2, 0, 1, 0, 5, 0, 1, 0, 2, 0, 1, 0, 3, 0, 1, 0, 2, 0, 1, 0, 4, 0, 1, 0, 2, 0, 1, 0, 3, 0, 1, 0, 2, 0, 1, 0]))⟩⟩ : ByteArray)) p0).bind fun v1 =>
 some ((wI .i64 v1))
def DU (N : Nat) (p0 : An) (p2 : Int) (j1 : Unit → Option Bool) : Nat → Int → Option Bool
 | 0, _ => none
 | n1 + 1, v1 =>
  AN ((v1 != 0))
   ((Dl N v1).bind fun v4 =>
   (Bl p0.fT v4).bind fun v5 =>
   (Bl v5 p2).bind fun v6 =>
   AN ((!v6))
    (some false)
    (DU N p0 p2 j1 n1 (AL .u8 v1 ((wI .u8 (v1 - 1))))))
   (j1 ())
def GI (N : Nat) (p0 : An) (p1 : Int) (p2 : Int) : Option Bool :=
 DU N p0 p2 (fun (_ : Unit) =>
  some true) N p1
def HX (N : Nat) (p0 : Aa) (p1 : Ab) (p2 : Int) : Option (Bool × (List Int)) :=
 (Bl p0.fK p2).bind fun v1 =>
 (Gn N v1).bind fun v2 =>
 AN ((!v2))
  (some (false, p1.fN))
  ((GN N p1 v1.fO).bind fun v4 =>
  (Bl p1.fN p2).bind fun v5 =>
  Bc (fun (v6 : Bool) =>
   AN v6
    (some (false, p1.fN))
    ((Bl p1.fN p2).bind fun _ =>
    some (true, p1.fN.set ((p2).toNat) v4)))
  fun j6 =>
  (Bl p1.fN p2).bind fun v7 =>
  AN ((v7 == v4))
   (j6 true)
   (AN ((v1.fP == 4))
    ((Bl p1.fL v1.fO).bind fun v10 =>
    (GI N v1 ((Df .u8 v5 v4)) v10).bind fun v11 =>
    j6 (!v11))
    (j6 false)))
def F6 (N : Nat) (p0 : Aa) (p1 : Ab) (p2 : Ae) : Option (Ab × Bool) :=
 (Hl N p1).bind fun v1 =>
 AN ((p2.fP == 1))
  ((I3 N p0 v1 p2).bind fun v3 =>
  some ((Ab.mk v1.fL v3.2.1 v3.2.2), v3.1))
  (AN ((p2.fP == 3))
   ((HX N p0 v1 p2.fR).bind fun v5 =>
   some ((Ab.mk v1.fL v1.fI v5.2), v5.1))
   ((Bl v1.fI p2.fR).bind fun v6 =>
   AN ((decide (v6 < 0)))
    (some (v1, false))
    ((Bl v1.fI p2.fR).bind fun _ =>
    Bc (fun (v9 : (List Int)) =>
     some ((Ab.mk v9 (v1.fI.set ((p2.fR).toNat) ((-1))) v1.fN), true))
    fun j9 =>
    AN ((p2.fP == 2))
     ((Bl v1.fL p2.fR).bind fun _ =>
     j9 (v1.fL.set ((p2.fR).toNat) v6))
     (j9 v1.fL))))
def DR (N : Nat) (p0 : Ae) (p1 : List Int) (p2 : List Int) (p3 : List Int) (p4 : List An) (p5 : List Int) (p6 : List Int) (p7 : List Int) : Option Bool :=
 (F6 N ((Aa.mk p1 p2 p3 p4)) ((Ab.mk p5 p6 p7)) p0).bind fun v1 =>
 some ((!v1.2))
def A7 (N : Nat) (p0 : List Ae) (p1 : Ae → Option Bool) (j1 : Unit → Option Int) : Nat → Int → Option Int
 | 0, _ => none
 | n1 + 1, v1 =>
  AN ((decide (v1 < (p0.length : Int))))
   ((Bl p0 v1).bind fun v4 =>
   (p1 v4).bind fun v5 =>
   AN v5
    (some v1)
    (A7 N p0 p1 j1 n1 (wI .i64 (v1 + 1))))
   (j1 ())
def B0 (N : Nat) (p0 : List Ae) (p1 : Ae → Option Bool) : Option Int :=
 A7 N p0 p1 (fun (_ : Unit) =>
  some ((-1))) N 0
def A1 (N : Nat) (p1 : Ae → Option Bool) (j3 : ((List Ae) × Int) → Option (Nat × (List Ae))) : Nat → ((List Ae) × Int × Int) → Option (Nat × (List Ae))
 | 0, _ => none
 | n3 + 1, v3 =>
  AN ((decide (v3.2.2 < (v3.1.length : Int))))
   (Bc (fun (v6 : (List Ae) × Int) =>
    A1 N p1 j3 n3 (v6.1, v6.2, (wI .i64 (v3.2.2 + 1))))
   fun j6 =>
   (Bl v3.1 v3.2.2).bind fun v7 =>
   (p1 v7).bind fun v8 =>
   AN ((!v8))
    ((Bl v3.1 v3.2.1).bind fun _ =>
    j6 (v3.1.set ((v3.2.1).toNat) v7, (wI .i64 (v3.2.1 + 1))))
    (j6 (v3.1, v3.2.1)))
   (j3 (v3.1, v3.2.1))
def BZ (N : Nat) (p0 : List Ae) (p1 : Ae → Option Bool) : Option (Nat × (List Ae)) :=
 (B0 N p0 p1).bind fun v1 =>
 AN ((v1 == (-1)))
  (some (p0.length, p0))
  (A1 N p1 (fun (v4 : (List Ae) × Int) =>
   (D3 ((0 : Int) ≤ v4.2 ∧ (v4.2).toNat ≤ v4.1.length ∧ v4.1.length ≤ v4.1.length)).bind fun _ =>
   (D3 ((0 : Int) ≤ v4.2 ∧ 0 ≤ (v4.2).toNat ∧ (v4.2).toNat ≤ (JK v4.1 ((v4.2).toNat) (zH ((v4.1.length - (v4.2).toNat)) ((Ae.mk 0 0 0)))).length)).bind fun _ =>
   some ((v4.2).toNat, JK v4.1 ((v4.2).toNat) (zH ((v4.1.length - (v4.2).toNat)) ((Ae.mk 0 0 0))))) N (p0, v1, (wI .i64 (v1 + 1))))
def zFS (N : Nat) (p0 : Aa) (p1 : Ab) : Option ((List Ae) × Int) :=
 (FW N p0 p1).bind fun v1 =>
 AN ((v1 != 0))
  (some (([] : List Ae), v1))
  ((I6 N p0).bind fun v3 =>
  (BZ N v3 ((fun (x : Ae) => DR N x p0.fJ p0.fQ p0.fU p0.fK p1.fL p1.fI p1.fN))).bind fun v4 =>
  (D3 (v4.1 ≤ v4.2.length)).bind fun _ =>
  some (v4.2.take v4.1, 0))
def HJ (_ : Nat) (p0 : Ae) : Option Bool :=
 Bc (fun (v1 : Bool) =>
  AN v1
   (some false)
   (Bc (fun (v5 : Bool) =>
    some v5)
   fun j5 =>
   AN ((p0.fP == 1))
    (j5 true)
    (j5 (p0.fW == 0))))
 fun j1 =>
 AN ((decide ((XX p0.fR p0.fW) < 0)))
  (j1 true)
  (AN ((decide (p0.fP < 1)))
   (j1 true)
   (j1 (decide (4 < p0.fP))))
def Hb (_ : Nat) (p0 : Aa) (p1 : Ae) : Option Bool :=
 AN ((p1.fP == 3))
  (some ((decide (p1.fR < (p0.fK.length : Int)))))
  (Bc (fun (v2 : Bool) =>
   some v2)
  fun j2 =>
  AN ((decide (p1.fR < (p0.fJ.length : Int))))
   (AN ((p1.fP != 1))
    (j2 true)
    ((Bl p0.fJ p1.fR).bind fun v5 =>
    j2 (decide (p1.fW < v5))))
   (j2 false))
def HL (N : Nat) (p0 : Aa) (p1 : Ab) (p2 : Ae) : Option (Ab × Int) :=
 (HJ N p2).bind fun v1 =>
 AN ((!v1))
  (some ((Ab.mk (([] : List Int)) (([] : List Int)) (([] : List Int))), 1))
  ((Hb N p0 p2).bind fun v3 =>
  AN ((!v3))
   (some ((Ab.mk (([] : List Int)) (([] : List Int)) (([] : List Int))), 4))
   ((F6 N p0 p1 p2).bind fun v5 =>
   AN ((!v5.2))
    (some ((Ab.mk (([] : List Int)) (([] : List Int)) (([] : List Int))), 11))
    (some (v5.1, 0))))
def GX (N : Nat) (p0 : Aa) (p1 : Ab) (p2 : Ae) : Option (Ab × Int) :=
 (FW N p0 p1).bind fun v1 =>
 AN ((v1 != 0))
  (some ((Ab.mk (([] : List Int)) (([] : List Int)) (([] : List Int))), v1))
  ((HL N p0 p1 p2).bind fun v3 =>
  some (v3.1, v3.2))
def Cy (N : Nat) (p0 : Aa) (v2 : (List AD) × (List (ByteArray × Int)) × Int) (v6 : (List Ae) × Int) (j8 : ((List AD) × (List (ByteArray × Int))) → Option ((List AD) × Int)) : Nat → ((List AD) × (List (ByteArray × Int)) × Int) → Option ((List AD) × Int)
 | 0, _ => none
 | n8 + 1, v8 =>
  AN ((decide (v8.2.2 < (v6.1.length : Int))))
   ((Bl v6.1 v8.2.2).bind fun v11 =>
   (Bl v8.1 v2.2.2).bind fun v12 =>
   (GX N p0 ((Ab.mk v12.fV.fL v12.fV.fI v12.fV.fN)) v11).bind fun v13 =>
   AN ((v13.2 != 0))
    (some (([] : List AD), v13.2))
    ((Ig N v13.1).bind fun v15 =>
    Bc (fun (v16 : (List AD) × (List (ByteArray × Int)) × Int) =>
     Bc (fun (v24 : (List AD)) =>
      AN ((decide (20000 < (v24.length : Int))))
       (some (([] : List AD), 3))
       (Cy N p0 v2 v6 j8 n8 (v24, v16.2.1, (wI .i64 (v8.2.2 + 1)))))
     fun j24 =>
     AN ((decide (0 ≤ v16.2.2)))
      ((Bl v16.1 v2.2.2).bind fun v26 =>
      (D3 (v26.fI.length + (([v16.2.2] : List Int)).length ≤ Dh)).bind fun _ =>
      (Bl v16.1 v2.2.2).bind fun v28 =>
      j24 (v16.1.set ((v2.2.2).toNat) ((AD.mk ((Ab.mk v28.fV.fL v28.fV.fI v28.fV.fN)) v28.fO ((Ae.mk v28.fZ.fP v28.fZ.fR v28.fZ.fW)) (v26.fI ++ (([v16.2.2] : List Int)))))))
      (j24 v16.1))
    fun j16 =>
    AN ((!((IT v15 v8.2.1).isSome)))
     (Bc (fun (v18 : (List AD) × Int) =>
      j16 (v18.1, Nc v15 v18.2 v8.2.1, v18.2))
     fun j18 =>
     (DZ N p0 v13.1).bind fun v19 =>
     Bc (fun (v20 : Bool) =>
      AN v20
       (j18 (v8.1, (-1)))
       ((D3 (v8.1.length + (([(AD.mk v13.1 v2.2.2 v11 (([] : List Int)))] : List AD)).length ≤ Dh)).bind fun _ =>
       j18 (v8.1 ++ (([(AD.mk v13.1 v2.2.2 v11 (([] : List Int)))] : List AD)), (v8.1.length : Int))))
     fun j20 =>
     AN ((v19.2 != 0))
      (j20 true)
      (j20 (!v19.1)))
     (j16 (v8.1, v8.2.1, ((IT v15 v8.2.1).getD 0)))))
   (j8 (v8.1, v8.2.1))
def DS (N : Nat) (p0 : Aa) (j2 : ((List AD)) → Option ((List AD) × Int)) : Nat → ((List AD) × (List (ByteArray × Int)) × Int) → Option ((List AD) × Int)
 | 0, _ => none
 | n2 + 1, v2 =>
  AN ((decide (v2.2.2 < (v2.1.length : Int))))
   ((Bl v2.1 v2.2.2).bind fun v5 =>
   (zFS N p0 ((Ab.mk v5.fV.fL v5.fV.fI v5.fV.fN))).bind fun v6 =>
   AN ((v6.2 != 0))
    (some (([] : List AD), v6.2))
    (Cy N p0 v2 v6 (fun (v9 : (List AD) × (List (ByteArray × Int))) =>
     DS N p0 j2 n2 (v9.1, v9.2, (wI .i64 (v2.2.2 + 1)))) N (v2.1, v2.2.1, 0)))
   (j2 v2.1)
def G9 (N : Nat) (p0 : Aa) (p1 : Ab) : Option ((List AD) × Int) :=
 (Ig N p1).bind fun v1 =>
 DS N p0 (fun (v3 : (List AD)) =>
  some (v3, 0)) N (([(AD.mk p1 ((-1)) ((Ae.mk 0 0 0)) (([] : List Int)))] : List AD), Nc v1 0 (([] : List (ByteArray × Int))), 0)
def Ci (N : Nat) (p0 : List Int) (p1 : List Int) (j2 : Unit → Option Bool) : Nat → Int → Option Bool
 | 0, _ => none
 | n2 + 1, v2 =>
  AN ((decide (v2 < (p0.length : Int))))
   ((Bl p0 v2).bind fun v5 =>
   (Bl p1 v2).bind fun v6 =>
   AN ((v5 != v6))
    (some false)
    (Ci N p0 p1 j2 n2 (wI .i64 (v2 + 1))))
   (j2 ())
def El (N : Nat) (p0 : List Int) (p1 : List Int) : Option Bool :=
 AN (((p0.length : Int) != (p1.length : Int)))
  (some false)
  (Ci N p0 p1 (fun (_ : Unit) =>
   some true) N 0)
def Bq (N : Nat) (p0 : List Int) (p1 : Int → Option Bool) (j1 : Unit → Option Int) : Nat → Int → Option Int
 | 0, _ => none
 | n1 + 1, v1 =>
  AN ((decide (v1 < (p0.length : Int))))
   ((Bl p0 v1).bind fun v4 =>
   (p1 v4).bind fun v5 =>
   AN v5
    (some v1)
    (Bq N p0 p1 j1 n1 (wI .i64 (v1 + 1))))
   (j1 ())
def Em (N : Nat) (p0 : List Int) (p1 : Int → Option Bool) : Option Int :=
 Bq N p0 p1 (fun (_ : Unit) =>
  some ((-1))) N 0
def C3 (N : Nat) (p0 : List Int) (p1 : Int → Option Bool) : Option Bool :=
 (Em N p0 p1).bind fun v1 =>
 some ((decide (0 ≤ v1)))
def HP (_ : Nat) (p0 : Int) : Option Bool :=
 some ((decide (0 ≤ p0)))
def Ij (N : Nat) (p0 : Aa) (p1 : Ab) : Option Bool :=
 Bc (fun (v1 : Bool) =>
  some v1)
 fun j1 =>
 (FW N p0 p1).bind fun v2 =>
 AN ((v2 == 0))
  ((El N p1.fL p0.fU).bind fun v4 =>
  AN v4
   ((C3 N p1.fI ((fun (x : Int) => HP N x))).bind fun v6 =>
   j1 (!v6))
   (j1 false))
  (j1 false)
def Fd (N : Nat) (p0 : AD) (p1 : List Int) (p2 : List Int) (p3 : List Int) (p4 : List An) : Option Bool :=
 (Ij N ((Aa.mk p1 p2 p3 p4)) ((Ab.mk p0.fV.fL p0.fV.fI p0.fV.fN))).bind fun v1 =>
 some v1
def AZ (N : Nat) (p0 : List AD) (p1 : AD → Option Bool) (j1 : Unit → Option Int) : Nat → Int → Option Int
 | 0, _ => none
 | n1 + 1, v1 =>
  AN ((decide (v1 < (p0.length : Int))))
   ((Bl p0 v1).bind fun v4 =>
   (p1 ((AD.mk ((Ab.mk v4.fV.fL v4.fV.fI v4.fV.fN)) v4.fO ((Ae.mk v4.fZ.fP v4.fZ.fR v4.fZ.fW)) v4.fI))).bind fun v5 =>
   AN v5
    (some v1)
    (AZ N p0 p1 j1 n1 (wI .i64 (v1 + 1))))
   (j1 ())
def Cu (N : Nat) (p0 : List AD) (p1 : AD → Option Bool) : Option Int :=
 AZ N p0 p1 (fun (_ : Unit) =>
  some ((-1))) N 0
def Bo (N : Nat) (j1 : ((List Ae)) → Option ((List Ae))) : Nat → ((List Ae) × Int × Int) → Option ((List Ae))
 | 0, _ => none
 | n1 + 1, v1 =>
  AN ((decide (v1.2.1 < v1.2.2)))
   ((Bl v1.1 v1.2.2).bind fun v4 =>
   (Bl v1.1 v1.2.1).bind fun v5 =>
   (Bl v1.1 v1.2.1).bind fun _ =>
   (Bl (v1.1.set ((v1.2.1).toNat) v4) v1.2.2).bind fun _ =>
   Bo N j1 n1 ((v1.1.set ((v1.2.1).toNat) v4).set ((v1.2.2).toNat) v5, (wI .i64 (v1.2.1 + 1)), (wI .i64 (v1.2.2 - 1))))
   (j1 v1.1)
def BH (N : Nat) (p0 : List Ae) : Option ((List Ae)) :=
 Bo N (fun (v2 : (List Ae)) =>
  some v2) N (p0, 0, (wI .i64 ((p0.length : Int) - 1)))
def Gm (N : Nat) (p0 : List AD) (j1 : ((List Ae)) → Option ((List Ae))) : Nat → (Int × (List Ae)) → Option ((List Ae))
 | 0, _ => none
 | n1 + 1, v1 =>
  (Bl p0 v1.1).bind fun v3 =>
  AN ((decide (0 ≤ v3.fO)))
   ((Bl p0 v1.1).bind fun v5 =>
   (D3 (v1.2.length + (([(Ae.mk v5.fZ.fP v5.fZ.fR v5.fZ.fW)] : List Ae)).length ≤ Dh)).bind fun _ =>
   (Bl p0 v1.1).bind fun v7 =>
   Gm N p0 j1 n1 (v7.fO, v1.2 ++ (([(Ae.mk v5.fZ.fP v5.fZ.fR v5.fZ.fW)] : List Ae))))
   (j1 v1.2)
def Kx (N : Nat) (p0 : List AD) (p1 : Int) : Option ((List Ae)) :=
 Gm N p0 (fun (v2 : (List Ae)) =>
  (BH N v2).bind fun v8 =>
  some v8) N (p1, ([] : List Ae))
def FZ (N : Nat) (p0 : Aa) (p1 : Ab) : Option ((List Ae) × Int) :=
 (DZ N p0 p1).bind fun v1 =>
 AN ((v1.2 != 0))
  (some (([] : List Ae), v1.2))
  (AN ((!v1.1))
   (some (([] : List Ae), 13))
   ((G9 N p0 p1).bind fun v4 =>
   AN ((v4.2 != 0))
    (some (([] : List Ae), v4.2))
    ((Cu N v4.1 ((fun (x : AD) => Fd N x p0.fJ p0.fQ p0.fU p0.fK))).bind fun v6 =>
    AN ((decide (v6 < 0)))
     (some (([] : List Ae), 14))
     ((Kx N v4.1 v6).bind fun v8 =>
     some (v8, 0)))))
def GG (N : Nat) (p0 : Aa) : Option ((List Ae) × Int) :=
 (Hw N p0).bind fun v1 =>
 AN ((v1.2 != 0))
  (some (([] : List Ae), v1.2))
  ((FZ N p0 v1.1).bind fun v3 =>
  some (v3.1, v3.2))
def E9 (N : Nat) (p0 : Aa) (p1 : List Int) : Option (Bool × Int) :=
 (Ck N p0).bind fun v1 =>
 AN ((v1 != 0))
  (some (false, v1))
  ((Ff N p0 p1).bind fun v3 =>
  AN ((v3.2 != 0))
   (some (false, v3.2))
   ((GG N v3.1).bind fun v5 =>
   AN ((v5.2 == 0))
    (some (false, 0))
    (AN ((v5.2 == 3))
     (some (false, v5.2))
     (some (true, 0)))))
def J9 (N : Nat) (p0 : Aa) (p1 : Int) : Option (Bool × Int) :=
 (FU N p1).bind fun v1 =>
 (E9 N p0 v1).bind fun v2 =>
 some (v2.1, v2.2)
def Ht (N : Nat) (p0 : Aa) (j4 : ((List Int)) → Option ((List Int) × (List (Int × Bool)) × Int)) : Nat → ((List Int) × Int) → Option ((List Int) × (List (Int × Bool)) × Int)
 | 0, _ => none
 | n4 + 1, v4 =>
  AN ((decide (v4.2 < (D8 .u64 1 ((p0.fJ.length : Int))))))
   ((D3 (v4.1.length + (([v4.2] : List Int)).length ≤ Dh)).bind fun _ =>
   Ht N p0 j4 n4 (v4.1 ++ (([v4.2] : List Int)), (wI .u64 (v4.2 + 1))))
   (j4 v4.1)
def Hr (N : Nat) (p0 : Aa) (v8 : (List Int)) (j9 : ((List (Int × Bool))) → Option ((List Int) × (List (Int × Bool)) × Int)) : Nat → ((List (Int × Bool)) × Int) → Option ((List Int) × (List (Int × Bool)) × Int)
 | 0, _ => none
 | n9 + 1, v9 =>
  AN ((decide (v9.2 < (v8.length : Int))))
   ((Bl v8 v9.2).bind fun v12 =>
   (J9 N p0 v12).bind fun v13 =>
   AN ((v13.2 != 0))
    (some (([] : List Int), ([] : List (Int × Bool)), v13.2))
    (Hr N p0 v8 j9 n9 (Nc v12 v13.1 v9.1, (wI .i64 (v9.2 + 1)))))
   (j9 v9.1)
def IY (N : Nat) (p0 : Aa) : Option ((List Int) × (List (Int × Bool)) × Int) :=
 (Ck N p0).bind fun v1 =>
 AN ((v1 != 0))
  (some (([] : List Int), ([] : List (Int × Bool)), v1))
  ((D3 (0 ≤ (p0.fJ.length : Int))).bind fun _ =>
  Ht N p0 (fun (v5 : (List Int)) =>
   (GO N v5 ((fun (x : Int × Int) => H2 N x.1 x.2))).bind fun v8 =>
   Hr N p0 v8 (fun (v10 : (List (Int × Bool))) =>
    some (v8, v10, 0)) N (([] : List (Int × Bool)), 0)) N (([] : List Int), 0))
def F0 (_ : Nat) (p0 : Int) (p1 : Int) : Option Bool :=
 some (((Df .u64 p0 p1) == 0))
def Dk (N : Nat) (p0 : List Int) (p1 : Int → Option Bool) (j1 : Unit → Option Int) : Nat → Int → Option Int
 | 0, _ => none
 | n1 + 1, v1 =>
  AN ((decide (v1 < (p0.length : Int))))
   ((Bl p0 v1).bind fun v4 =>
   (p1 v4).bind fun v5 =>
   AN v5
    (some v1)
    (Dk N p0 p1 j1 n1 (wI .i64 (v1 + 1))))
   (j1 ())
def DT (N : Nat) (p0 : List Int) (p1 : Int → Option Bool) : Option Int :=
 Dk N p0 p1 (fun (_ : Unit) =>
  some ((-1))) N 0
def Dq (N : Nat) (p0 : List Int) (p1 : Int → Option Bool) : Option Bool :=
 (DT N p0 p1).bind fun v1 =>
 some ((decide (0 ≤ v1)))
def GA (N : Nat) (p0 : List Int) (p1 : List (Int × Bool)) (j1 : ((List Int)) → Option ((List Int))) : Nat → ((List Int) × Int) → Option ((List Int))
 | 0, _ => none
 | n1 + 1, v1 =>
  AN ((decide (v1.2 < (p0.length : Int))))
   (Bc (fun (v4 : (List Int)) =>
    GA N p0 p1 j1 n1 (v4, (wI .i64 (v1.2 + 1))))
   fun j4 =>
   (Bl p0 v1.2).bind fun v5 =>
   Bc (fun (v6 : Bool) =>
    AN v6
     ((D3 (v1.1.length + (([v5] : List Int)).length ≤ Dh)).bind fun _ =>
     j4 (v1.1 ++ (([v5] : List Int))))
     (j4 v1.1))
   fun j6 =>
   AN (((IT v5 p1).getD false))
    ((Dq N v1.1 ((fun (x : Int) => F0 N x v5))).bind fun v8 =>
    j6 (!v8))
    (j6 false))
   (j1 v1.1)
def Jn (N : Nat) (p0 : List Int) (p1 : List (Int × Bool)) : Option ((List Int)) :=
 GA N p0 p1 (fun (v2 : (List Int)) =>
  some v2) N (([] : List Int), 0)
def Hs (N : Nat) (p0 : List Int) (j1 : ((List (List Int))) → Option ((List (List Int)))) : Nat → ((List (List Int)) × Int) → Option ((List (List Int)))
 | 0, _ => none
 | n1 + 1, v1 =>
  AN ((decide (v1.2 < (p0.length : Int))))
   ((Bl p0 v1.2).bind fun v4 =>
   (FU N v4).bind fun v5 =>
   (D3 (v1.1.length + (([v5] : List (List Int))).length ≤ Dh)).bind fun _ =>
   Hs N p0 j1 n1 (v1.1 ++ (([v5] : List (List Int))), (wI .i64 (v1.2 + 1))))
   (j1 v1.1)
def IW (N : Nat) (p0 : List Int) : Option ((List (List Int))) :=
 Hs N p0 (fun (v2 : (List (List Int))) =>
  some v2) N (([] : List (List Int)), 0)
def LT (N : Nat) (p0 : Aa) : Option ((List (List Int)) × Int) :=
 (IY N p0).bind fun v1 =>
 AN ((v1.2.2 != 0))
  (some (([] : List (List Int)), v1.2.2))
  ((Jn N v1.1 v1.2.1).bind fun v3 =>
  (IW N v3).bind fun v4 =>
  some (v4, 0))
def FO (_ : Nat) (p0 : List Int) : Option ((List Int)) :=
 (D3 ((([] : List Int)).length + p0.length ≤ Dh)).bind fun _ =>
 some ((([] : List Int)) ++ p0)
def Gl (_ : Nat) (p0 : Int) (p1 : List (Int × Bool)) (p2 : Int) : Option Bool :=
 Bc (fun (v1 : Bool) =>
  some v1)
 fun j1 =>
 AN ((!(((IT p0 p1).getD false))))
  (AN ((p0 != p2))
   (j1 ((Df .u64 p2 p0) == 0))
   (j1 false))
  (j1 false)
def Hg (N : Nat) (p0 : Int) (p1 : List (Int × Bool)) (p2 : List Int) : Option Bool :=
 Bc (fun (v1 : Bool) =>
  some v1)
 fun j1 =>
 AN (((IT p0 p1).getD false))
  (j1 true)
  ((Dq N p2 ((fun (x : Int) => Gl N x p1 p0))).bind fun v3 =>
  j1 v3)
def Di (N : Nat) (p1 : Int → Option Bool) (j3 : ((List Int) × Int) → Option (Nat × (List Int))) : Nat → ((List Int) × Int × Int) → Option (Nat × (List Int))
 | 0, _ => none
 | n3 + 1, v3 =>
  AN ((decide (v3.2.2 < (v3.1.length : Int))))
   (Bc (fun (v6 : (List Int) × Int) =>
    Di N p1 j3 n3 (v6.1, v6.2, (wI .i64 (v3.2.2 + 1))))
   fun j6 =>
   (Bl v3.1 v3.2.2).bind fun v7 =>
   (p1 v7).bind fun v8 =>
   AN ((!v8))
    ((Bl v3.1 v3.2.1).bind fun _ =>
    j6 (v3.1.set ((v3.2.1).toNat) v7, (wI .i64 (v3.2.1 + 1))))
    (j6 (v3.1, v3.2.1)))
   (j3 (v3.1, v3.2.1))
def ET (N : Nat) (p0 : List Int) (p1 : Int → Option Bool) : Option (Nat × (List Int)) :=
 (DT N p0 p1).bind fun v1 =>
 AN ((v1 == (-1)))
  (some (p0.length, p0))
  (Di N p1 (fun (v4 : (List Int) × Int) =>
   (D3 ((0 : Int) ≤ v4.2 ∧ (v4.2).toNat ≤ v4.1.length ∧ v4.1.length ≤ v4.1.length)).bind fun _ =>
   (D3 ((0 : Int) ≤ v4.2 ∧ 0 ≤ (v4.2).toNat ∧ (v4.2).toNat ≤ (JK v4.1 ((v4.2).toNat) (zH ((v4.1.length - (v4.2).toNat)) ((0 : Int)))).length)).bind fun _ =>
   some ((v4.2).toNat, JK v4.1 ((v4.2).toNat) (zH ((v4.1.length - (v4.2).toNat)) ((0 : Int))))) N (p0, v1, (wI .i64 (v1 + 1))))
def Lj (N : Nat) (p0 : Aa) : Option ((List (List Int)) × Int) :=
 (IY N p0).bind fun v1 =>
 AN ((v1.2.2 != 0))
  (some (([] : List (List Int)), v1.2.2))
  ((FO N v1.1).bind fun v3 =>
  (ET N v3 ((fun (x : Int) => Hg N x v1.2.1 v1.1))).bind fun v4 =>
  (D3 (v4.1 ≤ v4.2.length)).bind fun _ =>
  (IW N (v4.2.take v4.1)).bind fun v7 =>
  some (v7, 0))
def Fp (N : Nat) (p0 : List Int) (p1 : List Int) (j2 : Unit → Option Bool) : Nat → Int → Option Bool
 | 0, _ => none
 | n2 + 1, v2 =>
  AN ((decide (v2 < (p0.length : Int))))
   ((Bl p0 v2).bind fun v5 =>
   (Bl p1 v2).bind fun v6 =>
   AN ((v5 != v6))
    (some false)
    (Fp N p0 p1 j2 n2 (wI .i64 (v2 + 1))))
   (j2 ())
def HD (N : Nat) (p0 : List Int) (p1 : List Int) : Option Bool :=
 AN (((p0.length : Int) != (p1.length : Int)))
  (some false)
  (Fp N p0 p1 (fun (_ : Unit) =>
   some true) N 0)
def Fi (N : Nat) (p0 : List (List Int)) (p1 : List (List Int)) (j2 : Unit → Option Bool) : Nat → Int → Option Bool
 | 0, _ => none
 | n2 + 1, v2 =>
  AN ((decide (v2 < (p0.length : Int))))
   ((Bl p0 v2).bind fun v5 =>
   (Bl p1 v2).bind fun v6 =>
   (HD N v5 v6).bind fun v7 =>
   AN ((!v7))
    (some false)
    (Fi N p0 p1 j2 n2 (wI .i64 (v2 + 1))))
   (j2 ())
def F5 (N : Nat) (p0 : List (List Int)) (p1 : List (List Int)) : Option Bool :=
 AN (((p0.length : Int) != (p1.length : Int)))
  (some false)
  (Fi N p0 p1 (fun (_ : Unit) =>
   some true) N 0)
def Fh (N : Nat) (j1 : Unit → Option Bool) : Nat → Int → Option Bool
 | 0, _ => none
 | n1 + 1, v1 =>
  AN ((decide (v1 < ((([false, true] : List Bool)).length : Int))))
   ((Bl (([false, true] : List Bool)) v1).bind fun v4 =>
   (Es N v4).bind fun v5 =>
   (LT N v5).bind fun v6 =>
   (Es N v4).bind fun v7 =>
   (Lj N v7).bind fun v8 =>
   (Es N v4).bind fun v9 =>
   (E9 N v9 (([0, 2] : List Int))).bind fun v10 =>
   Bc (fun (v11 : Bool) =>
    AN v11
     (some false)
     (Fh N j1 n1 (wI .i64 (v1 + 1))))
   fun j11 =>
   AN ((v6.2 != 0))
    (j11 true)
    (AN ((v8.2 != 0))
     (j11 true)
     (AN ((v10.2 != 0))
      (j11 true)
      (AN v10.1
       (j11 true)
       ((F5 N v6.1 (([([0, 1] : List Int)] : List (List Int)))).bind fun v16 =>
       AN ((!v16))
        (j11 true)
        ((F5 N v8.1 (([([0, 2] : List Int), ([1, 2] : List Int)] : List (List Int)))).bind fun v18 =>
        j11 (!v18)))))))
   (j1 ())
def E2 (N : Nat) : Option Bool :=
 Fh N (fun (_ : Unit) =>
  some true) N 0
def FD (_ : Nat) (p0 : Ab) : Option Bool :=
 Bc (fun (v1 : Bool) =>
  some v1)
 fun j1 =>
 AN ((decide ((p0.fL.length : Int) ≤ 8)))
  (AN ((decide ((p0.fI.length : Int) ≤ 8)))
   (j1 (decide ((p0.fN.length : Int) ≤ 14)))
   (j1 false))
  (j1 false)
def CV (_ : Nat) (p0 : List Ab) : Option ((List Ab)) :=
 (D3 ((([] : List Ab)).length + p0.length ≤ Dh)).bind fun _ =>
 some ((([] : List Ab)) ++ p0)
def Fb (_ : Nat) (p0 : Int) : Option Bool :=
 some ((p0 != p0))
def Er (N : Nat) (p0 : Int) (p1 : Int) : Option Int :=
 (Fb N p0).bind fun v1 =>
 (Fb N p1).bind fun v2 =>
 AN v1
  (AN v2
   (some 0)
   (some ((-1))))
  (AN v2
   (some 1)
   (AN ((decide (p0 < p1)))
    (some ((-1)))
    (AN ((decide (p1 < p0)))
     (some 1)
     (some 0))))
def BA (N : Nat) (p0 : List Int) (p1 : List Int) (j1 : Unit → Option Int) : Nat → Int → Option Int
 | 0, _ => none
 | n1 + 1, v1 =>
  AN ((decide (v1 < (p0.length : Int))))
   ((Bl p0 v1).bind fun v4 =>
   AN ((decide ((p1.length : Int) ≤ v1)))
    (some 1)
    ((Bl p1 v1).bind fun v6 =>
    (Er N v4 v6).bind fun v7 =>
    AN ((v7 != 0))
     (some v7)
     (BA N p0 p1 j1 n1 (wI .i64 (v1 + 1)))))
   (j1 ())
def Cs (N : Nat) (p0 : List Int) (p1 : List Int) : Option Int :=
 BA N p0 p1 (fun (_ : Unit) =>
  AN ((decide ((p0.length : Int) < (p1.length : Int))))
   (some ((-1)))
   (some 0)) N 0
def Fv (N : Nat) (p0 : List Int) (j1 : Unit → Option Int) : Nat → Int → Option Int
 | 0, _ => none
 | n1 + 1, v1 =>
  AN ((decide (v1 < (p0.length : Int))))
   ((Bl p0 v1).bind fun v4 =>
   AN ((v4 != 0))
    (some v4)
    (Fv N p0 j1 n1 (wI .i64 (v1 + 1))))
   (j1 ())
def HU (N : Nat) (p0 : List Int) : Option Int :=
 Fv N p0 (fun (_ : Unit) =>
  some 0) N 0
def De (N : Nat) (p0 : Ab) (p1 : Ab) : Option Int :=
 (Cv N p0.fL p1.fL).bind fun v1 =>
 (Cv N p0.fI p1.fI).bind fun v2 =>
 (Cs N p0.fN p1.fN).bind fun v3 =>
 (HU N (([v1, v2, v3] : List Int))).bind fun v4 =>
 some v4
def AQ (N : Nat) (p0 : List Ab) (p1 : Ab) (p2 : (Ab × Ab) → Option Int) (j1 : Int → Option (Int × Bool)) : Nat → (Int × Int) → Option (Int × Bool)
 | 0, _ => none
 | n1 + 1, v1 =>
  AN ((decide (v1.1 < v1.2)))
   ((Bl p0 ((wI .i64 ((A0 .u64 ((wI .u64 ((wI .i64 (v1.1 + v1.2))))) 1))))).bind fun v4 =>
   (p2 ((v4, p1))).bind fun v5 =>
   AN ((decide (v5 < 0)))
    (AQ N p0 p1 p2 j1 n1 ((wI .i64 ((wI .i64 ((A0 .u64 ((wI .u64 ((wI .i64 (v1.1 + v1.2))))) 1))) + 1)), v1.2))
    (AQ N p0 p1 p2 j1 n1 (v1.1, (wI .i64 ((A0 .u64 ((wI .u64 ((wI .i64 (v1.1 + v1.2))))) 1))))))
   (j1 v1.1)
def Bw (N : Nat) (p0 : List Ab) (p1 : Ab) (p2 : (Ab × Ab) → Option Int) : Option (Int × Bool) :=
 AQ N p0 p1 p2 (fun (v2 : Int) =>
  Bc (fun (v7 : Bool) =>
   some (v2, v7))
  fun j7 =>
  AN ((decide (v2 < (p0.length : Int))))
   ((Bl p0 v2).bind fun v9 =>
   (p2 ((v9, p1))).bind fun v10 =>
   j7 (v10 == 0))
   (j7 false)) N (0, (p0.length : Int))
def Fu (N : Nat) (p0 : List Ab) (p1 : Ab) : Option Bool :=
 (Bw N p0 p1 ((fun (x : Ab × Ab) => De N x.1 x.2))).bind fun v1 =>
 some v1.2
def EP (N : Nat) (p0 : Aa) (p1 : List Ab) (j5 : Unit → Option Bool) : Nat → Int → Option Bool
 | 0, _ => none
 | n5 + 1, v5 =>
  AN ((decide (v5 < (p1.length : Int))))
   ((Bl p1 v5).bind fun v8 =>
   Bc (fun (v9 : Bool) =>
    AN v9
     (some false)
     ((DZ N p0 v8).bind fun v14 =>
     Bc (fun (v15 : Bool) =>
      AN v15
       (some false)
       (EP N p0 p1 j5 n5 (wI .i64 (v5 + 1))))
     fun j15 =>
     AN ((!v14.1))
      (j15 true)
      (AN ((v14.2 != 0))
       (j15 true)
       ((Ij N p0 v8).bind fun v18 =>
       j15 v18))))
   fun j9 =>
   AN ((decide (0 < v5)))
    ((Bl p1 ((wI .i64 (v5 - 1)))).bind fun v11 =>
    (De N v11 v8).bind fun v12 =>
    j9 (decide (0 ≤ v12)))
    (j9 false))
   (j5 ())
def EB (N : Nat) (p0 : Aa) (p1 : List Ab) (v25 : Ab) (v26 : (List Ae) × Int) (j27 : Unit → Option Bool) : Nat → Int → Option Bool
 | 0, _ => none
 | n27 + 1, v27 =>
  AN ((decide (v27 < (v26.1.length : Int))))
   ((Bl v26.1 v27).bind fun v30 =>
   (GX N p0 v25 v30).bind fun v31 =>
   (DZ N p0 v31.1).bind fun v32 =>
   Bc (fun (v33 : Bool) =>
    AN v33
     (some false)
     (EB N p0 p1 v25 v26 j27 n27 (wI .i64 (v27 + 1))))
   fun j33 =>
   AN v32.1
    ((Fu N p1 v31.1).bind fun v35 =>
    j33 (!v35))
    (j33 false))
   (j27 ())
def Ex (N : Nat) (p0 : Aa) (p1 : List Ab) (j22 : Unit → Option Bool) : Nat → Int → Option Bool
 | 0, _ => none
 | n22 + 1, v22 =>
  AN ((decide (v22 < (p1.length : Int))))
   ((Bl p1 v22).bind fun v25 =>
   (zFS N p0 v25).bind fun v26 =>
   EB N p0 p1 v25 v26 (fun (_ : Unit) =>
    Ex N p0 p1 j22 n22 (wI .i64 (v22 + 1))) N 0)
   (j22 ())
def GU (N : Nat) (p0 : Aa) (p1 : List Ab) : Option Bool :=
 (Hw N p0).bind fun v1 =>
 AN ((v1.2 != 0))
  (some false)
  ((DZ N p0 v1.1).bind fun v3 =>
  AN ((!v3.1))
   (some (((p1.length : Int) == 0)))
   (EP N p0 p1 (fun (_ : Unit) =>
    (Fu N p1 v1.1).bind fun v20 =>
    AN ((!v20))
     (some false)
     (Ex N p0 p1 (fun (_ : Unit) =>
      some true) N 0)) N 0))
def GW (N : Nat) (p0 : Aa) (p1 : List Int) (p2 : List Ab) : Option Bool :=
 (Ff N p0 p1).bind fun v1 =>
 Bc (fun (v2 : Bool) =>
  some v2)
 fun j2 =>
 AN ((v1.2 == 0))
  ((GU N v1.1 p2).bind fun v4 =>
  j2 v4)
  (j2 false)
def Dc (N : Nat) (p0 : Aa) (p1 : Ab) (j3 : Unit → Option Bool) : Nat → Int → Option Bool
 | 0, _ => none
 | n3 + 1, v3 =>
  AN ((decide (v3 < (p1.fL.length : Int))))
   (Bc (fun (v6 : Bool) =>
    AN v6
     (some false)
     (Dc N p0 p1 j3 n3 (wI .i64 (v3 + 1))))
   fun j6 =>
   (Bl p1.fI v3).bind fun v7 =>
   AN ((decide (0 ≤ v7)))
    (j6 true)
    ((Bl p1.fL v3).bind fun v9 =>
    (Bl p0.fU v3).bind fun v10 =>
    j6 (v9 != v10)))
   (j3 ())
def Ez (N : Nat) (p0 : Aa) (p1 : Ab) : Option Bool :=
 (DC N p0 p1).bind fun v1 =>
 AN ((v1 != 0))
  (some false)
  (Dc N p0 p1 (fun (_ : Unit) =>
   some true) N 0)
def Dy (N : Nat) (p0 : List Ab) (p1 : Ab) (j1 : Int → Option (Int × Bool)) : Nat → Int → Option (Int × Bool)
 | 0, _ => none
 | n1 + 1, v1 =>
  Bc (fun (v3 : Bool) =>
   AN v3
    (Dy N p0 p1 j1 n1 (wI .i64 (v1 + 1)))
    (j1 v1))
  fun j3 =>
  AN ((decide (v1 < (p0.length : Int))))
   ((Bl p0 v1).bind fun v5 =>
   (BS N v5 p1).bind fun v6 =>
   j3 (decide (v6 < 0)))
   (j3 false)
def Ej (N : Nat) (p0 : List Ab) (p1 : Ab) : Option (Int × Bool) :=
 Dy N p0 p1 (fun (v2 : Int) =>
  Bc (fun (v8 : Bool) =>
   some (v2, v8))
  fun j8 =>
  AN ((decide (v2 < (p0.length : Int))))
   ((Bl p0 v2).bind fun v10 =>
   (BS N v10 p1).bind fun v11 =>
   j8 (v11 == 0))
   (j8 false)) N 0
def BR (N : Nat) (p0 : Aa) (p1 : List Ab) (v5 : Int) (v25 : (List Ae)) (j26 : Unit → Option Bool) : Nat → Int → Option Bool
 | 0, _ => none
 | n26 + 1, v26 =>
  AN ((decide (v26 < (v25.length : Int))))
   ((Bl p1 v5).bind fun v29 =>
   (Bl v25 v26).bind fun v30 =>
   (CB N p0 v29 v30).bind fun v31 =>
   (Ej N p1 v31.1).bind fun v32 =>
   Bc (fun (v33 : Bool) =>
    AN v33
     (some false)
     (BR N p0 p1 v5 v25 j26 n26 (wI .i64 (v26 + 1))))
   fun j33 =>
   AN ((!v32.2))
    ((BJ N p0 v31.1).bind fun v35 =>
    j33 v35)
    (j33 false))
   (j26 ())
def B3 (N : Nat) (p0 : Aa) (p1 : List Ab) (j5 : Unit → Option Bool) : Nat → Int → Option Bool
 | 0, _ => none
 | n5 + 1, v5 =>
  AN ((decide (v5 < (p1.length : Int))))
   (Bc (fun (v8 : Bool) =>
    AN v8
     (some false)
     (Bc (fun (v14 : Bool) =>
      AN v14
       (some false)
       ((Bl p1 v5).bind fun v24 =>
       (CA N p0 v24).bind fun v25 =>
       BR N p0 p1 v5 v25 (fun (_ : Unit) =>
        B3 N p0 p1 j5 n5 (wI .i64 (v5 + 1))) N 0))
     fun j14 =>
     (Bl p1 v5).bind fun v15 =>
     (DC N p0 v15).bind fun v16 =>
     AN ((v16 != 0))
      (j14 true)
      ((Bl p1 v5).bind fun v18 =>
      (BJ N p0 v18).bind fun v19 =>
      AN ((!v19))
       (j14 true)
       ((Bl p1 v5).bind fun v21 =>
       (Ez N p0 v21).bind fun v22 =>
       j14 v22))))
   fun j8 =>
   AN ((decide (0 < v5)))
    ((Bl p1 ((wI .i64 (v5 - 1)))).bind fun v10 =>
    (Bl p1 v5).bind fun v11 =>
    (BS N v10 v11).bind fun v12 =>
    j8 (decide (0 ≤ v12)))
    (j8 false))
   (j5 ())
def E5 (N : Nat) (p0 : Aa) (p1 : List Ab) : Option Bool :=
 (Ei N p0).bind fun v1 =>
 AN ((v1.2 != 0))
  (some false)
  ((BJ N p0 v1.1).bind fun v3 =>
  AN ((!v3))
   (some (((p1.length : Int) == 0)))
   (B3 N p0 p1 (fun (_ : Unit) =>
    (Ej N p1 v1.1).bind fun v37 =>
    some v37.2) N 0))
def Eb (N : Nat) (p0 : Aa) (p1 : List Int) (p2 : List Ab) : Option Bool :=
 (Dx N p0 p1).bind fun v1 =>
 Bc (fun (v2 : Bool) =>
  some v2)
 fun j2 =>
 AN ((v1.2 == 0))
  ((E5 N v1.1 p2).bind fun v4 =>
  j2 v4)
  (j2 false)
def BO (N : Nat) (p2 : List Ab) (j9 : Unit → Option Bool) : Nat → Int → Option Bool
 | 0, _ => none
 | n9 + 1, v9 =>
  AN ((decide (v9 < (p2.length : Int))))
   ((Bl p2 v9).bind fun v12 =>
   (FD N v12).bind fun v13 =>
   AN ((!v13))
    (some true)
    (BO N p2 j9 n9 (wI .i64 (v9 + 1))))
   (j9 ())
def D2 (N : Nat) (p0 : BP) (p1 : List Int) (p2 : List Ab) : Option Bool :=
 (FY N p0).bind fun v1 =>
 Bc (fun (v2 : Bool) =>
  AN v2
   ((E2 N).bind fun v8 =>
   some v8)
   (BO N p2 (fun (_ : Unit) =>
    (Bb N p1).bind fun v15 =>
    (CV N p2).bind fun v16 =>
    (GW N v1.1 v15 v16).bind fun v17 =>
    (Bb N p1).bind fun v18 =>
    (E9 N v1.1 v18).bind fun v19 =>
    Bc (fun (v20 : Bool) =>
     some v20)
    fun j20 =>
    (Eb N v1.1 p1 p2).bind fun v21 =>
    AN ((v17 == v21))
     (AN ((!v17))
      (j20 true)
      (AN ((v19.2 == 0))
       (j20 v19.1)
       (j20 false)))
     (j20 false)) N 0))
 fun j2 =>
 (E2 N).bind fun v3 =>
 AN ((!v3))
  (j2 true)
  (AN ((!v1.2))
   (j2 true)
   (AN ((decide (6 < (p1.length : Int))))
    (j2 true)
    (j2 (decide (20 < (p2.length : Int))))))
def LH {α : Type} (w : α → Prop) (xs : List α) : Prop := ∀ x, x ∈ xs → w x
def Wn (n : Int) : Prop := (Lit.int .i64 n).wf = true
def Ly (n : Int) : Prop := (Lit.int .u8 n).wf = true
def bp (n : Int) : Prop := (Lit.int .u16 n).wf = true
def IV (x : H0) : Prop := Ly x.fP ∧ Ly x.fO ∧ Ly x.fS ∧ (fun _ => True) x.fY ∧ bp x.f9 ∧ bp x.ga ∧ True
def F4 (x : BP) : Prop := (LH Ly) x.fJ ∧ (LH Ly) x.fQ ∧ (LH Ly) x.fU ∧ (LH IV) x.f8 ∧ True
def Pg (x : Ab) : Prop := (LH Wn) x.fL ∧ (LH Wn) x.fI ∧ (LH Ly) x.fN ∧ True
open Go.RowKit
open Go.Proofs
abbrev Ok (x : H0) : List C := [.pure (.val (.int .u8 x.fP)), .pure (.val (.int .u8 x.fO)), .pure (.val (.int .u8 x.fS)), .pure (.val (.bool x.fY)), .pure (.val (.int .u16 x.f9)), .pure (.val (.int .u16 x.ga))]
abbrev C4 (x : BP) : List C := [sC (x.fJ.map Du), sC (x.fQ.map Du), sC (x.fU.map Du), sC (x.f8.map Hy)]
abbrev AE (x : Ab) : List C := [sC (x.fL.map Ak), sC (x.fI.map Ak), sC (x.fN.map Du)]
abbrev Bf (x : An) : List C := [iC x.fP, iC x.fO, iC x.fS, .pure (.val (.bool x.fY)), sC (x.fX.map (FP eB)), sC (x.fT.map (FP eB))]
abbrev Ag (x : Aa) : List C := [sC (x.fJ.map Ak), sC (x.fQ.map Ak), sC (x.fU.map Ak), sC (x.fK.map AP)]
abbrev NW (x : Ap) : List C := [iC x.gb, iC x.gc, iC x.gd]
abbrev DE (x : Ae) : List C := [iC x.fP, iC x.fR, iC x.fW]
abbrev We (x : AD) : List C := [sC (x.fV.fL.map Ak), sC (x.fV.fI.map Ak), sC (x.fV.fN.map Du), iC x.fO, iC x.fZ.fP, iC x.fZ.fR, iC x.fZ.fW, sC (x.fI.map Ak)]
theorem Ax : Tryz.prog.follows .mixedOrders = true := by kernel_rfl
theorem wq {X : Jo} {y : Code} {id : Nat} {ops : Array Oper} {dr : Bool} {Q : Exit → St → Prop} {st : St} {n : Nat} (hn : ops.size = n) (h : Bh zA X ops dr (fun st' => W zA X y Q st') n 0 st []) : W zA X (.seq (.region id ops dr) y) Q st := fF Ax hn h
theorem wp {X : Jo} {y z : Code} {id : Nat} {ops : Array Oper} {dr : Bool} {Q : Exit → St → Prop} {st : St} {n : Nat} (hn : ops.size = n) (h : Bh zA X ops dr (fun st' => W zA X y (Rp (W zA X z Q) Q) st') n 0 st []) : W zA X (.seq (.seq (.region id ops dr) y) z) Q st := AM (fF Ax hn h)
theorem co : FX zA 101 true = true := by kernel_rfl
theorem Iz : FX zA 120 false = true := by kernel_rfl
theorem ei : FX zA 136 true = true := by kernel_rfl
theorem VZ : FX zA 149 true = true := by kernel_rfl
theorem Yk : FX zA 22 false = true := by kernel_rfl
theorem bK : FX zA 23 false = true := by kernel_rfl
theorem dZ : FX zA 25 true = true := by kernel_rfl
theorem A4 : FX zA 26 false = true := by kernel_rfl
theorem Hn : FX zA 27 false = true := by kernel_rfl
theorem Ct : FX zA 29 true = true := by kernel_rfl
theorem B5 : FX zA 3 false = true := by kernel_rfl
theorem Un : FX zA 4 false = true := by kernel_rfl
theorem HE : FX zA 47 false = true := by kernel_rfl
theorem Bi : FX zA 49 true = true := by kernel_rfl
theorem cx : FX zA 5 false = true := by kernel_rfl
theorem O3 : FX zA 61 false = true := by kernel_rfl
theorem dR : FX zA 66 false = true := by kernel_rfl
theorem ci : FX zA 67 false = true := by kernel_rfl
theorem PS : FX zA 71 false = true := by kernel_rfl
theorem IL : FX zA 82 false = true := by kernel_rfl
theorem He : FX zA 84 true = true := by kernel_rfl
theorem Jh : FX zA 94 true = true := by kernel_rfl
theorem cQ : FX zA 99 false = true := by kernel_rfl
theorem fH : Q2 zA 4 = true := by kernel_rfl
theorem dD : R2 zA 22 = true := by kernel_rfl
theorem Pv : FA zA 120 1 = true := by kernel_rfl
theorem bz : FA zA 136 128 = true := by kernel_rfl
theorem aL : FA zA 140 104 = true := by kernel_rfl
theorem SB : FA zA 149 24 = true := by kernel_rfl
theorem Z9 : FA zA 26 24 = true := by kernel_rfl
theorem Ko : FA zA 3 8 = true := by kernel_rfl
theorem Xo : FA zA 4 1 = true := by kernel_rfl
theorem Yb : FA zA 49 72 = true := by kernel_rfl
theorem bk : FA zA 5 1 = true := by kernel_rfl
theorem W7 : FA zA 61 24 = true := by kernel_rfl
theorem Yz : FA zA 71 8 = true := by kernel_rfl
theorem W9 : FA zA 84 80 = true := by kernel_rfl
theorem TO : FA zA 94 24 = true := by kernel_rfl
theorem Xj : Db zA 101 0 0 = true := by kernel_rfl
theorem XQ : Db zA 101 1 1 = true := by kernel_rfl
theorem Xz : Db zA 101 2 2 = true := by kernel_rfl
theorem XT : Db zA 101 3 3 = true := by kernel_rfl
theorem XI : Db zA 101 4 4 = true := by kernel_rfl
theorem X5 : Db zA 101 5 5 = true := by kernel_rfl
theorem Pz : Db zA 136 0 0 = true := by kernel_rfl
theorem Th : Db zA 136 1 3 = true := by kernel_rfl
theorem X8 : Db zA 136 2 4 = true := by kernel_rfl
theorem Uh : Db zA 136 3 7 = true := by kernel_rfl
theorem PK : Db zA 140 0 0 = true := by kernel_rfl
theorem Sy : Db zA 25 0 0 = true := by kernel_rfl
theorem Zw : Db zA 25 1 1 = true := by kernel_rfl
theorem Za : Db zA 25 2 2 = true := by kernel_rfl
theorem Sc : Db zA 25 3 3 = true := by kernel_rfl
theorem Bd : Db zA 29 0 0 = true := by kernel_rfl
theorem FF : Db zA 29 1 1 = true := by kernel_rfl
theorem GF : Db zA 29 2 2 = true := by kernel_rfl
theorem Cl : Db zA 29 3 3 = true := by kernel_rfl
theorem CR : Db zA 49 0 0 = true := by kernel_rfl
theorem BC : Db zA 49 1 1 = true := by kernel_rfl
theorem CS : Db zA 49 2 2 = true := by kernel_rfl
theorem GC : Db zA 84 0 0 = true := by kernel_rfl
theorem Dg : Db zA 84 1 1 = true := by kernel_rfl
theorem H1 : Db zA 84 2 2 = true := by kernel_rfl
theorem JQ : Db zA 84 3 3 = true := by kernel_rfl
theorem Hx : Db zA 84 4 4 = true := by kernel_rfl
theorem FH : Db zA 84 5 5 = true := by kernel_rfl
theorem GD : Db zA 94 0 0 = true := by kernel_rfl
theorem FK : Db zA 94 1 1 = true := by kernel_rfl
theorem HZ : Db zA 94 2 2 = true := by kernel_rfl
theorem fj : AA zA 10 = true := by kernel_rfl
theorem ek : AA zA 100 = true := by kernel_rfl
theorem aa : AA zA 101 = true := by kernel_rfl
theorem al : AA zA 102 = true := by kernel_rfl
theorem ai : AA zA 103 = true := by kernel_rfl
theorem dV : AA zA 104 = true := by kernel_rfl
theorem XJ : AA zA 105 = true := by kernel_rfl
theorem ca : AA zA 106 = true := by kernel_rfl
theorem cG : AA zA 107 = true := by kernel_rfl
theorem ck : AA zA 108 = true := by kernel_rfl
theorem dC : AA zA 109 = true := by kernel_rfl
theorem d6 : AA zA 11 = true := by kernel_rfl
theorem au : AA zA 113 = true := by kernel_rfl
theorem Ye : AA zA 114 = true := by kernel_rfl
theorem dH : AA zA 117 = true := by kernel_rfl
theorem cV : AA zA 118 = true := by kernel_rfl
theorem ce : AA zA 119 = true := by kernel_rfl
theorem az : AA zA 12 = true := by kernel_rfl
theorem Vo : AA zA 120 = true := by kernel_rfl
theorem dM : AA zA 121 = true := by kernel_rfl
theorem du : AA zA 122 = true := by kernel_rfl
theorem cb : AA zA 123 = true := by kernel_rfl
theorem dh : AA zA 124 = true := by kernel_rfl
theorem cy : AA zA 125 = true := by kernel_rfl
theorem cF : AA zA 126 = true := by kernel_rfl
theorem am : AA zA 127 = true := by kernel_rfl
theorem cZ : AA zA 128 = true := by kernel_rfl
theorem XR : AA zA 129 = true := by kernel_rfl
theorem UC : AA zA 13 = true := by kernel_rfl
theorem Z6 : AA zA 130 = true := by kernel_rfl
theorem cK : AA zA 131 = true := by kernel_rfl
theorem dW : AA zA 132 = true := by kernel_rfl
theorem cJ : AA zA 133 = true := by kernel_rfl
theorem dU : AA zA 134 = true := by kernel_rfl
theorem de : AA zA 135 = true := by kernel_rfl
theorem cj : AA zA 136 = true := by kernel_rfl
theorem dg : AA zA 137 = true := by kernel_rfl
theorem Z1 : AA zA 138 = true := by kernel_rfl
theorem da : AA zA 139 = true := by kernel_rfl
theorem fB : AA zA 15 = true := by kernel_rfl
theorem dw : AA zA 150 = true := by kernel_rfl
theorem dF : AA zA 151 = true := by kernel_rfl
theorem dB : AA zA 152 = true := by kernel_rfl
theorem d7 : AA zA 153 = true := by kernel_rfl
theorem cC : AA zA 154 = true := by kernel_rfl
theorem d1 : AA zA 155 = true := by kernel_rfl
theorem Xy : AA zA 156 = true := by kernel_rfl
theorem cc : AA zA 157 = true := by kernel_rfl
theorem cn : AA zA 158 = true := by kernel_rfl
theorem dp : AA zA 159 = true := by kernel_rfl
theorem cz : AA zA 160 = true := by kernel_rfl
theorem d4 : AA zA 161 = true := by kernel_rfl
theorem dG : AA zA 162 = true := by kernel_rfl
theorem ej : AA zA 163 = true := by kernel_rfl
theorem dQ : AA zA 164 = true := by kernel_rfl
theorem cO : AA zA 165 = true := by kernel_rfl
theorem cA : AA zA 166 = true := by kernel_rfl
theorem cN : AA zA 167 = true := by kernel_rfl
theorem dT : AA zA 17 = true := by kernel_rfl
theorem ZX : AA zA 173 = true := by kernel_rfl
theorem aj : AA zA 174 = true := by kernel_rfl
theorem ah : AA zA 175 = true := by kernel_rfl
theorem ag : AA zA 176 = true := by kernel_rfl
theorem ct : AA zA 177 = true := by kernel_rfl
theorem dK : AA zA 178 = true := by kernel_rfl
theorem eG : AA zA 18 = true := by kernel_rfl
theorem bY : AA zA 180 = true := by kernel_rfl
theorem fi : AA zA 25 = true := by kernel_rfl
theorem fc : AA zA 26 = true := by kernel_rfl
theorem eL : AA zA 27 = true := by kernel_rfl
theorem fd : AA zA 28 = true := by kernel_rfl
theorem eT : AA zA 29 = true := by kernel_rfl
theorem fe : AA zA 30 = true := by kernel_rfl
theorem en : AA zA 31 = true := by kernel_rfl
theorem ZG : AA zA 33 = true := by kernel_rfl
theorem eV : AA zA 35 = true := by kernel_rfl
theorem eO : AA zA 36 = true := by kernel_rfl
theorem bL : AA zA 37 = true := by kernel_rfl
theorem WX : AA zA 38 = true := by kernel_rfl
theorem dJ : AA zA 39 = true := by kernel_rfl
theorem eH : AA zA 40 = true := by kernel_rfl
theorem ec : AA zA 42 = true := by kernel_rfl
theorem fu : AA zA 43 = true := by kernel_rfl
theorem fy : AA zA 44 = true := by kernel_rfl
theorem fC : AA zA 45 = true := by kernel_rfl
theorem cH : AA zA 46 = true := by kernel_rfl
theorem eQ : AA zA 47 = true := by kernel_rfl
theorem cu : AA zA 48 = true := by kernel_rfl
theorem fb : AA zA 50 = true := by kernel_rfl
theorem eD : AA zA 51 = true := by kernel_rfl
theorem ZQ : AA zA 52 = true := by kernel_rfl
theorem eW : AA zA 53 = true := by kernel_rfl
theorem eF : AA zA 54 = true := by kernel_rfl
theorem eK : AA zA 55 = true := by kernel_rfl
theorem eZ : AA zA 56 = true := by kernel_rfl
theorem ef : AA zA 57 = true := by kernel_rfl
theorem e9 : AA zA 58 = true := by kernel_rfl
theorem cP : AA zA 59 = true := by kernel_rfl
theorem X2 : AA zA 60 = true := by kernel_rfl
theorem cr : AA zA 61 = true := by kernel_rfl
theorem bC : AA zA 62 = true := by kernel_rfl
theorem dL : AA zA 63 = true := by kernel_rfl
theorem fh : AA zA 64 = true := by kernel_rfl
theorem dX : AA zA 65 = true := by kernel_rfl
theorem R8 : AA zA 66 = true := by kernel_rfl
theorem cM : AA zA 67 = true := by kernel_rfl
theorem eP : AA zA 68 = true := by kernel_rfl
theorem dA : AA zA 69 = true := by kernel_rfl
theorem X0 : AA zA 70 = true := by kernel_rfl
theorem fA : AA zA 71 = true := by kernel_rfl
theorem cq : AA zA 72 = true := by kernel_rfl
theorem fr : AA zA 73 = true := by kernel_rfl
theorem cU : AA zA 74 = true := by kernel_rfl
theorem fp : AA zA 75 = true := by kernel_rfl
theorem fa : AA zA 77 = true := by kernel_rfl
theorem eR : AA zA 78 = true := by kernel_rfl
theorem eX : AA zA 79 = true := by kernel_rfl
theorem dP : AA zA 80 = true := by kernel_rfl
theorem ez : AA zA 81 = true := by kernel_rfl
theorem ey : AA zA 82 = true := by kernel_rfl
theorem XP : AA zA 83 = true := by kernel_rfl
theorem dE : AA zA 84 = true := by kernel_rfl
theorem cE : AA zA 85 = true := by kernel_rfl
theorem cY : AA zA 86 = true := by kernel_rfl
theorem cm : AA zA 87 = true := by kernel_rfl
theorem dz : AA zA 88 = true := by kernel_rfl
theorem Zo : AA zA 89 = true := by kernel_rfl
theorem aH : AA zA 90 = true := by kernel_rfl
theorem fq : AA zA 91 = true := by kernel_rfl
theorem cR : AA zA 92 = true := by kernel_rfl
theorem eN : AA zA 93 = true := by kernel_rfl
theorem ff : AA zA 94 = true := by kernel_rfl
theorem fD : AA zA 95 = true := by kernel_rfl
theorem XE : AA zA 96 = true := by kernel_rfl
theorem Y5 : AA zA 97 = true := by kernel_rfl
theorem dN : AA zA 98 = true := by kernel_rfl
theorem eM : AA zA 99 = true := by kernel_rfl
theorem Tv : QM zA 145 .u32 = true := by kernel_rfl
theorem ad : QM zA 147 .u64 = true := by kernel_rfl
theorem Xd : QM zA 3 .i64 = true := by kernel_rfl
theorem fE : QM zA 5 .u8 = true := by kernel_rfl
theorem XN : QM zA 71 .u64 = true := by kernel_rfl
theorem VK : Tryz.prog.underlying 71 = some (.int .u64) := by kernel_rfl
theorem bm : Tryz.prog.underlying 9 = some .string := by kernel_rfl
theorem Sx : Tryz.prog.underlying 170 = some (.map 9 3) := by kernel_rfl
theorem OJ : Tryz.prog.underlying 67 = some (.map 71 4) := by kernel_rfl
theorem ay : I2 zA 136 = some [(0, 3), (3, 1), (4, 3), (7, 1)] := by kernel_rfl
theorem ap : I2 zA 140 = some [(0, 3), (3, 1), (4, 3)] := by kernel_rfl
theorem RD : I2 zA 149 = some [(0, 1), (1, 1), (2, 1)] := by kernel_rfl
theorem TJ : I2 zA 29 = some [(0, 1), (1, 1), (2, 1), (3, 1)] := by kernel_rfl
theorem JR : I2 zA 49 = some [(0, 1), (1, 1), (2, 1)] := by kernel_rfl
theorem Zg : I2 zA 84 = some [(0, 1), (1, 1), (2, 1), (3, 1), (4, 1), (5, 1)] := by kernel_rfl
theorem Zf : I2 zA 94 = some [(0, 1), (1, 1), (2, 1)] := by kernel_rfl
theorem KF : sliceB zA 125 140 = true := by kernel_rfl
theorem HI : sliceB zA 131 136 = true := by kernel_rfl
theorem H5 : sliceB zA 162 149 = true := by kernel_rfl
theorem Lw : sliceB zA 22 5 = true := by kernel_rfl
theorem Yf : sliceB zA 23 101 = true := by kernel_rfl
theorem As : sliceB zA 26 3 = true := by kernel_rfl
theorem DH : sliceB zA 27 84 = true := by kernel_rfl
theorem HA : sliceB zA 38 26 = true := by kernel_rfl
theorem Eu : sliceB zA 46 49 = true := by kernel_rfl
theorem Dz : sliceB zA 47 120 = true := by kernel_rfl
theorem Fw : sliceB zA 61 4 = true := by kernel_rfl
theorem EI : sliceB zA 63 94 = true := by kernel_rfl
theorem GS : sliceB zA 66 71 = true := by kernel_rfl
theorem EM : sliceB zA 82 61 = true := by kernel_rfl
theorem di : (Tryz.prog.underlying 120).isSome = true := by kernel_rfl
theorem Vn : (Tryz.prog.underlying 145).isSome = true := by kernel_rfl
theorem Xe : (Tryz.prog.underlying 147).isSome = true := by kernel_rfl
theorem dt : (Tryz.prog.underlying 3).isSome = true := by kernel_rfl
theorem aW : (Tryz.prog.underlying 5).isSome = true := by kernel_rfl
theorem Yj : (Tryz.prog.underlying 71).isSome = true := by kernel_rfl
theorem WF : QZ zA 9 = true := by kernel_rfl
theorem Xa : Ie zA 101 6 = true := by kernel_rfl
theorem EF : Ie zA 120 1 = true := by kernel_rfl
theorem LA : Ie zA 136 8 = true := by kernel_rfl
theorem RL : Ie zA 140 7 = true := by kernel_rfl
theorem Jd : Ie zA 149 3 = true := by kernel_rfl
theorem d5 : Ie zA 25 4 = true := by kernel_rfl
theorem Ix : Ie zA 26 1 = true := by kernel_rfl
theorem aV : Ie zA 27 1 = true := by kernel_rfl
theorem BQ : Ie zA 29 4 = true := by kernel_rfl
theorem CJ : Ie zA 3 1 = true := by kernel_rfl
theorem PQ : Ie zA 4 1 = true := by kernel_rfl
theorem fm : Ie zA 47 1 = true := by kernel_rfl
theorem AV : Ie zA 49 3 = true := by kernel_rfl
theorem bc : Ie zA 5 1 = true := by kernel_rfl
theorem Kd : Ie zA 61 1 = true := by kernel_rfl
theorem fk : Ie zA 66 1 = true := by kernel_rfl
theorem eS : Ie zA 67 1 = true := by kernel_rfl
theorem MK : Ie zA 71 1 = true := by kernel_rfl
theorem Zl : Ie zA 82 1 = true := by kernel_rfl
theorem Dv : Ie zA 84 6 = true := by kernel_rfl
theorem EL : Ie zA 94 3 = true := by kernel_rfl
theorem df : D5 zA 101 = some (.agg #[.int .u8 0, .int .u8 0, .int .u8 0, .bool false, .int .u16 0, .int .u16 0]) := by kernel_rfl
theorem Nv : D5 zA 120 = some (.int .u8 0) := by kernel_rfl
theorem Tw : D5 zA 136 = some (.agg #[.slice none 0 0, .slice none 0 0, .slice none 0 0, .int .i64 0, .int .i64 0, .int .i64 0, .int .i64 0, .slice none 0 0]) := by kernel_rfl
theorem Td : D5 zA 140 = some (.agg #[.slice none 0 0, .slice none 0 0, .slice none 0 0, .int .i64 0, .int .i64 0, .int .i64 0, .int .i64 0]) := by kernel_rfl
theorem JB : D5 zA 149 = some (.agg #[.int .i64 0, .int .i64 0, .int .i64 0]) := by kernel_rfl
theorem Wl : D5 zA 26 = some (.slice none 0 0) := by kernel_rfl
theorem Kn : D5 zA 29 = some (.agg #[.slice none 0 0, .slice none 0 0, .slice none 0 0, .slice none 0 0]) := by kernel_rfl
theorem Ja : D5 zA 3 = some (.int .i64 0) := by kernel_rfl
theorem Uo : D5 zA 4 = some (.bool false) := by kernel_rfl
theorem Ea : D5 zA 49 = some (.agg #[.slice none 0 0, .slice none 0 0, .slice none 0 0]) := by kernel_rfl
theorem d3 : D5 zA 5 = some (.int .u8 0) := by kernel_rfl
theorem UQ : D5 zA 61 = some (.slice none 0 0) := by kernel_rfl
theorem eE : D5 zA 66 = some (.slice none 0 0) := by kernel_rfl
theorem fw : D5 zA 67 = some (.map none) := by kernel_rfl
theorem Ud : D5 zA 71 = some (.int .u64 0) := by kernel_rfl
theorem Jp : D5 zA 84 = some (.agg #[.int .i64 0, .int .i64 0, .int .i64 0, .bool false, .slice none 0 0, .slice none 0 0]) := by kernel_rfl
theorem K4 : D5 zA 94 = some (.agg #[.int .i64 0, .int .i64 0, .int .i64 0]) := by kernel_rfl
set_option maxRecDepth 10000
theorem J4 (N : Nat) (p0 : List Int) (p1 : Int) (r : Int) (h : EA N p0 p1 = some r) : Al zA 65 [pD (.sl (p0.map Du)), iD p1] [] (iD r) := by
 unfold EA at h
 refine cw (n := 14) (rs := [.tmp 4]) Tryz.func65 fun w0 S0 => ?_
 refine wq rfl (qa rfl (Ac (wp rfl (qw 2 rfl (AF Lw rfl (AX rfl (Ac ?_)))))))
 refine Ba h (fun h => ?_) fun h => ?_
 ·refine wq rfl (qw 2 rfl ?_)
  refine BE h fun v2 a2 b2 h => qi Lw bc a2 (Af b2) rfl (qk cx rfl (Jj aW Xd rfl (qe rfl ?_)))
  obtain rfl := sj h
  refine Ad (sm [] [(4, iD ((wI .i64 v2)))] [] rfl rfl) (Aq ?_)
  exact ⟨⟨[_], tm, rfl⟩, tv⟩
 ·refine Ai (wq rfl (qe rfl ?_))
  obtain rfl := sj h
  refine Ad (sm [] [(4, iD 0)] [] rfl rfl) (Aq ?_)
  exact ⟨⟨[_], tm, rfl⟩, tv⟩
theorem CE (N : Nat) (p0 : An) (r : Bool) (h : Be N p0 = some r) : Al zA 66 [.e (.agg (Bf p0))] [] (bD r) := by
 unfold Be at h
 refine cw (n := 11) (rs := [.tmp 2]) Tryz.func66 fun w0 S0 => ?_
 refine wq rfl (qb rfl (qe rfl ?_))
 refine AS h (fun v1 => mk [(2, bD v1)] []) (fun j1 h => ?_) (fun v1 h => ?_)
 ·refine Ah Ax rfl (qf GC rfl (ql B5 rfl (B7 rfl (qm rfl ?_))))
  refine D4 6 h rfl (fun h => ?_) fun h => ?_
  ·refine qw 3 rfl (qp rfl (qe rfl ?_))
   exact sn [] h
  ·refine qf GC rfl (ql B5 rfl (B7 rfl (qp rfl (qe rfl ?_))))
   exact sn [] h
 ·obtain rfl := sj h
  refine Ad (sm [] [(2, bD v1)] [] rfl rfl) (Aq ?_)
  exact ⟨⟨[_], tm, rfl⟩, tv⟩
theorem J2 (N : Nat) (p0 : Int) (p1 : Int) (p2 : Int) (p3 : Bool) (r : (List (List Bool))) (h : EC N p0 p1 p2 p3 = some r) : Al zA 67 [iD p0, iD p1, pD (.val (.int .u16 p2)), bD p3] [(1, r.map (FP eB))] (oD (.own 0)) := by
 unfold EC at h
 refine cw (n := 47) (rs := [.tmp 8]) Tryz.func67 fun w0 S0 => ?_
 refine wq rfl (qa rfl (Ac (wq rfl (qa rfl (Ac (wp rfl (qe rfl ?_)))))))
 refine AC (L := Cz N p0 p1 p2 p3) h (fun v1 => mk [(0, iD p0), (1, iD p1), (2, pD (.val (.int .u16 p2))), (3, bD p3), (9, oD (.own 2001)), (10, iD v1.2)] [(2001, .vec 1 (v1.1.map (FP eB)))]) (fun v2 => mk [(9, oD (.own 2002))] [(2002, .vec 1 (v2.map (FP eB)))]) (fun _ _ => rfl) ((A9 9 2010 1 rfl rfl rfl).trans (sm [(2001, 2010)] _ _ rfl rfl)) (fun j1 n1 v1 h => ?_) (fun v2 s h hs => ?_)
 ·unfold Cz at h
  refine wp rfl (qw 2 rfl (AX rfl (Ac ?_)))
  refine Ba h (fun h => ?_) fun h => ?_
  ·refine Ai (AM (AJ (wq rfl (qa rfl (Ac (wp rfl (qe rfl ?_)))))))
   refine AC (L := CI N p1 p2 p3 v1) h (fun v4 => mk [(0, iD p0), (1, iD p1), (2, pD (.val (.int .u16 p2))), (3, bD p3), (9, oD (.own 2003)), (10, iD v1.2), (11, oD (.own 2004)), (12, iD v4.2)] [(2003, .vec 1 (v1.1.map (FP eB))), (2004, .vec 1 (v4.1.map eB))]) (fun v5 => mk [(0, iD p0), (1, iD p1), (2, pD (.val (.int .u16 p2))), (3, bD p3), (9, oD (.own 2005)), (10, iD v1.2), (11, oD (.own 2006))] [(2005, .vec 1 (v1.1.map (FP eB))), (2006, .vec 1 (v5.map eB))]) (fun _ _ => rfl) ((A9 11 2009 1 rfl rfl rfl).trans (sm [(2003, 2001), (2004, 2009)] _ _ rfl rfl)) (fun j4 n4 v4 h => ?_) (fun v5 s h hs => ?_)
   ·unfold CI at h
    refine wp rfl (qw 2 rfl (AX rfl (Ac ?_)))
    refine Ba h (fun h => ?_) fun h => ?_
    ·refine Ai ?_
     refine AS h (fun v7 => mk [(0, iD p0), (1, iD p1), (2, pD (.val (.int .u16 p2))), (3, bD p3), (9, oD (.own 2007)), (10, iD v1.2), (11, oD (.own 2008)), (12, iD v4.2)] [(2007, .vec 1 (v1.1.map (FP eB))), (2008, .vec 1 (v7.map eB))]) (fun j7 h => ?_) (fun v7 h => ?_)
     ·refine AJ (Ah Ax rfl (qw 3 rfl ?_))
      refine D4 25 h rfl (fun h => ?_) fun h => ?_
      ·refine qw 2 rfl (B7 rfl (qp rfl (qm rfl ?_)))
       refine D4 30 h rfl (fun h => ?_) fun h => ?_
       ·refine qw 8 rfl (qp rfl (Dt Fw PQ Uo rfl ?_))
        refine F3 h fun c10 h => CP (f := eB) Fw Fw PQ Xo Uo c10 rfl (qe rfl ?_)
        exact sn [(2007, 2003), (2008, 41)] h
       ·refine qw 2 rfl (Nr rfl (qm rfl (AY rfl ?_)))
        refine F3 h fun c11 h => GM rfl c11 (MQ rfl (by decide) (B7 rfl (qp rfl (Dt Fw PQ Uo rfl ?_))))
        refine F3 h fun c12 h => CP (f := eB) Fw Fw PQ Xo Uo c12 rfl (qe rfl ?_)
        exact sn [(2007, 2003), (2008, 41)] h
      ·refine qw 3 rfl (qp rfl (qw 3 rfl (Nr rfl (qm rfl (AY rfl ?_)))))
       refine F3 h fun c13 h => GM rfl c13 (MQ rfl (by decide) (B7 rfl (qp rfl (Dt Fw PQ Uo rfl ?_))))
       refine F3 h fun c14 h => CP (f := eB) Fw Fw PQ Xo Uo c14 rfl (qe rfl ?_)
       exact sn [(2007, 2003), (2008, 41)] h
     ·refine Ah Ax rfl (qm rfl (AY rfl (qe rfl ?_)))
      exact sn [(2003, 2007), (2004, 2008)] h
    ·refine AU ?_
     exact sn [(2005, 2003), (2006, 2004)] h
   ·refine Ad hs (Ah Ax rfl (qw 2 rfl (Dn (Bp 2006 _ _ rfl rfl) (Dt EM Kd UQ rfl ?_))))
    refine F3 h fun c15 h => CP (f := (FP eB)) EM EM Kd W7 UQ c15 rfl (qa rfl (Ac (Ah Ax rfl (qm rfl (AY rfl (qe rfl ?_))))))
    exact sn [(2001, 45)] h
  ·refine AU ?_
   exact sn [(2002, 2001)] h
 ·refine Ad hs (wq rfl (qm rfl (qe rfl ?_)))
  obtain rfl := sj h
  refine Ad (sm [(1000, 2002)] [(8, oD (.own 1000))] [(1000, .vec 1 (v2.map (FP eB)))] rfl rfl) (Aq ?_)
  exact ⟨⟨[_], tm, rfl⟩, ⟨rfl, tv⟩⟩
theorem Oh (N : Nat) (p0 : BP) (r : Aa × Bool) (h : F1 N p0 = some r) : Al zA 35 [.e (.agg (C4 p0))] [(1, r.1.fJ.map Ak), (1, r.1.fQ.map Ak), (1, r.1.fU.map Ak), (6, r.1.fK.map AP)] (.tup [.agg [.own 0, .own 1, .own 2, .own 3], .one (.pure (.val (.bool r.2)))]) := by
 unfold F1 at h
 refine cw (n := 152) (rs := [.cell 2 29, .tmp 3]) Tryz.func35 fun w0 S0 => ?_
 refine wq rfl (qb rfl (qz Kn rfl (qa rfl (Ac (AM ?_)))))
 refine AS h (fun v1 => mk [(1, oD (.ptr 1 0)), (2, oD (.ptr 2 0)), (19, bD v1)] [(1, .box (C4 p0)), (2, .box [.pure (.nil0), .pure (.nil0), .pure (.nil0), .pure (.nil0)])]) (fun j1 h => ?_) (fun v1 h => ?_)
 ·refine Ah Ax rfl (qf Sy rfl (ql Yk rfl (AF Lw rfl (FN rfl (qm rfl ?_)))))
  refine D4 14 h rfl (fun h => ?_) fun h => ?_
  ·refine qw 4 rfl (qp rfl (Ac ?_))
   exact sn [] h
  ·refine qf Sc rfl (ql bK rfl (AF Yf rfl (FN rfl (qp rfl (Ac ?_)))))
   exact sn [] h
 ·refine Ba h (fun h => ?_) fun h => ?_
  ·refine wq rfl (Bm Kn TJ rfl (qs BQ rfl (qe rfl ?_)))
   obtain rfl := sj h
   refine Ad ((Ar 2 0 2001 1 _ rfl rfl rfl rfl).trans ((Ar 2 1 2002 1 _ rfl rfl rfl rfl).trans ((Ar 2 2 2003 1 _ rfl rfl rfl rfl).trans ((Ar 2 3 2004 6 _ rfl rfl rfl rfl).trans (sm [(1000, 2001), (1001, 2002), (1002, 2003), (1003, 2004)] [(2, oD (.ptr 2 0)), (3, bD false)] [(2, .box [.own 1000, .own 1001, .own 1002, .own 1003]), (1000, .vec 1 ((([] : List Int)).map Ak)), (1001, .vec 1 ((([] : List Int)).map Ak)), (1002, .vec 1 ((([] : List Int)).map Ak)), (1003, .vec 6 ((([] : List An)).map AP))] rfl rfl))))) (Aq ?_)
   exact ⟨⟨[_, _], ⟨.cellN _ _ _ _ _ _ _ rfl rfl Ct BQ rfl rfl (JT rfl), tm⟩, rfl⟩, ⟨rfl, rfl, rfl, rfl, tv⟩⟩
  ·refine Ai (wq rfl (qz Kn rfl (Ac (wp rfl (qe rfl ?_)))))
   refine AC (L := C6 N p0) h (fun v4 => mk [(1, oD (.ptr 1 0)), (2, oD (.ptr 2 0)), (4, oD (.ptr 4 0)), (5, iD v4.2.2.2)] [(1, .box (C4 p0)), (2, .box [.pure (.nil0), .pure (.nil0), .pure (.nil0), .pure (.nil0)]), (4, .box [.own 2005, .own 2006, .own 2007, .pure (.nil0)]), (2005, .vec 1 (v4.1.map Ak)), (2006, .vec 1 (v4.2.1.map Ak)), (2007, .vec 1 (v4.2.2.1.map Ak))]) (fun v5 => mk [(1, oD (.ptr 1 0)), (2, oD (.ptr 2 0)), (4, oD (.ptr 4 0))] [(1, .box (C4 p0)), (2, .box [.pure (.nil0), .pure (.nil0), .pure (.nil0), .pure (.nil0)]), (4, .box [.own 2008, .own 2009, .own 2010, .pure (.nil0)]), (2008, .vec 1 (v5.1.map Ak)), (2009, .vec 1 (v5.2.1.map Ak)), (2010, .vec 1 (v5.2.2.map Ak))]) (fun _ _ => rfl) ((Ar 4 0 2011 1 _ rfl rfl rfl rfl).trans ((Ar 4 1 2012 1 _ rfl rfl rfl rfl).trans ((Ar 4 2 2013 1 _ rfl rfl rfl rfl).trans (sm [(2005, 2011), (2006, 2012), (2007, 2013)] _ _ rfl rfl)))) (fun j4 n4 v4 h => ?_) (fun v5 s h hs => ?_)
   ·unfold C6 at h
    refine wp rfl (qm rfl (qf Sy rfl (ql Yk rfl (AF Lw rfl (AX rfl (Ac ?_))))))
    refine Ba h (fun h => ?_) fun h => ?_
    ·refine Ai (AM (AJ (wq rfl (qf Sy rfl (ql Yk rfl (qm rfl ?_))))))
     refine BE h fun v7 a7 b7 h => qi Lw bc a7 (Af b7) rfl (qk cx rfl (MQ rfl (by decide) (Jj aW Xd rfl (AY rfl (qa rfl (Ac (wq rfl (qf Bd rfl (ql A4 rfl (qm rfl (Dt As CJ Ja rfl ?_)))))))))))
     refine F3 h fun c8 h => CP (f := Ak) As As CJ Ko Ja c8 rfl (qf Bd rfl (qs Ix rfl (Ac (wq rfl (qf FF rfl (ql A4 rfl (qf Zw rfl (ql Yk rfl (qm rfl ?_)))))))))
     refine Bv h fun v9 a9 h => Aw [] (J4 N p0.fQ v4.2.2.2 v9 a9) dX rfl (qm rfl ?_)
     refine F3 h fun c10 h => MQ rfl c10 (Dt As CJ Ja rfl ?_)
     refine F3 h fun c11 h => CP (f := Ak) As As CJ Ko Ja c11 rfl (qf FF rfl (qs Ix rfl (AK (by kernel_rfl) (Ah Ax rfl (qf GF rfl (ql A4 rfl (qf Za rfl (ql Yk rfl (qm rfl ?_)))))))))
     refine Bv h fun v12 a12 h => Aw [] (J4 N p0.fU v4.2.2.2 v12 a12) dX rfl (qm rfl ?_)
     refine F3 h fun c13 h => MQ rfl c13 (Dt As CJ Ja rfl ?_)
     refine F3 h fun c14 h => CP (f := Ak) As As CJ Ko Ja c14 rfl (qf GF rfl (qs Ix rfl (AK (by kernel_rfl) (Ah Ax rfl (qm rfl (AY rfl (qe rfl ?_)))))))
     exact sn [(2005, 40), (2006, 51), (2007, 62)] h
    ·refine AU ?_
     exact sn [(2008, 2005), (2009, 2006), (2010, 2007)] h
   ·refine Ad hs (wp rfl (qe rfl ?_))
    refine AC (L := BL N p0 v5) h (fun v15 => mk [(1, oD (.ptr 1 0)), (2, oD (.ptr 2 0)), (4, oD (.ptr 4 0)), (7, iD v15.2)] [(1, .box (C4 p0)), (2, .box [.pure (.nil0), .pure (.nil0), .pure (.nil0), .pure (.nil0)]), (4, .box [.own 2014, .own 2015, .own 2016, .own 2017]), (2014, .vec 1 (v5.1.map Ak)), (2015, .vec 1 (v5.2.1.map Ak)), (2016, .vec 1 (v5.2.2.map Ak)), (2017, .vec 6 (v15.1.map AP))]) (fun v16 => mk [(2, oD (.ptr 2 0)), (4, oD (.ptr 4 0))] [(2, .box [.pure (.nil0), .pure (.nil0), .pure (.nil0), .pure (.nil0)]), (4, .box [.own 2018, .own 2019, .own 2020, .own 2021]), (2018, .vec 1 (v5.1.map Ak)), (2019, .vec 1 (v5.2.1.map Ak)), (2020, .vec 1 (v5.2.2.map Ak)), (2021, .vec 6 (v16.map AP))]) (fun _ _ => rfl) ((Ar 4 3 2039 6 _ rfl rfl rfl rfl).trans (sm [(2014, 2008), (2015, 2009), (2016, 2010), (2017, 2039)] _ _ rfl rfl)) (fun j15 n15 v15 h => ?_) (fun v16 s h hs => ?_)
    ·unfold BL at h
     refine AM ?_
     refine AS h (fun v17 => mk [(1, oD (.ptr 1 0)), (2, oD (.ptr 2 0)), (4, oD (.ptr 4 0)), (7, iD v15.2), (74, bD v17)] [(1, .box (C4 p0)), (2, .box [.pure (.nil0), .pure (.nil0), .pure (.nil0), .pure (.nil0)]), (4, .box [.own 2022, .own 2023, .own 2024, .own 2025]), (2022, .vec 1 (v5.1.map Ak)), (2023, .vec 1 (v5.2.1.map Ak)), (2024, .vec 1 (v5.2.2.map Ak)), (2025, .vec 6 (v15.1.map AP))]) (fun j17 h => ?_) (fun v17 h => ?_)
     ·refine Ah Ax rfl (qm rfl (qf Sc rfl (ql bK rfl (AF Yf rfl (AX rfl (qm rfl ?_))))))
      refine D4 69 h rfl (fun h => ?_) fun h => ?_
      ·refine qf Bd rfl (ql A4 rfl (Fm As rfl (FN rfl (qp rfl (Ac ?_)))))
       exact sn [(2022, 2014), (2023, 2015), (2024, 2016), (2025, 2017)] h
      ·refine qw 4 rfl (qp rfl (Ac ?_))
       exact sn [(2022, 2014), (2023, 2015), (2024, 2016), (2025, 2017)] h
     ·refine Ba h (fun h => ?_) fun h => ?_
      ·refine Ai (AM (AJ (wq rfl (qf Sc rfl (ql bK rfl (qm rfl ?_))))))
       refine BE h fun v20 a20 b20 h => qi Yf Xa a20 (Af b20) rfl (qK co Xa rfl (qz df rfl (qs Xa rfl (Ac (wq rfl (qf Xj rfl (ql cx rfl (MQ rfl (by decide) (Jj aW Xd rfl (AY rfl (qf XQ rfl (ql cx rfl (Jj aW Xd rfl (qf Bd rfl (ql A4 rfl (Fm As rfl ?_))))))))))))))))
       refine F3 h fun c21 h => MQ rfl c21 (qf Xz rfl (ql cx rfl (Jj aW Xd rfl (qf Bd rfl (ql A4 rfl (Fm As rfl ?_))))))
       refine F3 h fun c22 h => MQ rfl c22 (Bm Jp Zg rfl (qz Jp rfl (qs Dv rfl (AK (by kernel_rfl) ?_))))
       refine AS h (fun v23 => mk [(1, oD (.ptr 1 0)), (2, oD (.ptr 2 0)), (4, oD (.ptr 4 0)), (7, iD v15.2), (8, oD (.ptr 8 0)), (9, oD (.ptr 9 0))] [(1, .box (C4 p0)), (2, .box [.pure (.nil0), .pure (.nil0), .pure (.nil0), .pure (.nil0)]), (4, .box [.own 2026, .own 2027, .own 2028, .own 2029]), (8, .box (Ok v20)), (9, .box [iC ((wI .i64 (1 + (wI .i64 ((zZ v20.fP 4)))))), iC ((zZ ((wI .i64 v20.fO)) ((v5.1.length : Int)))), iC ((zZ ((wI .i64 v20.fS)) ((v5.1.length : Int)))), .pure (.val (.bool v23)), .pure (.nil0), .pure (.nil0)]), (2026, .vec 1 (v5.1.map Ak)), (2027, .vec 1 (v5.2.1.map Ak)), (2028, .vec 1 (v5.2.2.map Ak)), (2029, .vec 6 (v15.1.map AP))]) (fun j23 h => ?_) (fun v23 h => ?_)
       ·refine Ah Ax rfl (qf XT rfl (ql Un rfl (qm rfl ?_)))
        refine D4 104 h rfl (fun h => ?_) fun h => ?_
        ·refine qL He Dv rfl ?_
         refine Bv h fun v25 a25 h => Aw [] (CE N ((An.mk ((wI .i64 (1 + (wI .i64 ((zZ v20.fP 4)))))) ((zZ ((wI .i64 v20.fO)) ((v5.1.length : Int)))) ((zZ ((wI .i64 v20.fS)) ((v5.1.length : Int)))) false (([] : List (List Bool))) (([] : List (List Bool))))) v25 a25) R8 rfl (Cg rfl (qp rfl (qf JQ rfl (qs PQ rfl (Ac ?_)))))
         exact sn [(2026, 2022), (2027, 2023), (2028, 2024), (2029, 2025)] h
        ·refine qw 3 rfl (qp rfl (qf JQ rfl (qs PQ rfl (Ac ?_))))
         exact sn [(2026, 2022), (2027, 2023), (2028, 2024), (2029, 2025)] h
       ·refine wq rfl (qf Bd rfl (ql A4 rfl (qf Dg rfl (ql B5 rfl ?_))))
        refine BE h fun v26 a26 b26 h => qI As CJ a26 (Af b26) rfl (qj B5 (Af b26) rfl (qf Bd rfl (ql A4 rfl (qf H1 rfl (ql B5 rfl ?_)))))
        refine BE h fun v27 a27 b27 h => qI As CJ a27 (Af b27) rfl (qj B5 (Af b27) rfl (qf XI rfl (ql cQ rfl ?_)))
        refine Bv h fun v28 a28 h => Aw [2030] (J2 N v26 v27 v20.f9 false v28 a28) cM rfl (qf Hx rfl (qs Zl rfl (AK (by kernel_rfl) ?_)))
        refine AS h (fun v29 => mk [(1, oD (.ptr 1 0)), (2, oD (.ptr 2 0)), (4, oD (.ptr 4 0)), (7, iD v15.2), (9, oD (.ptr 9 0))] [(1, .box (C4 p0)), (2, .box [.pure (.nil0), .pure (.nil0), .pure (.nil0), .pure (.nil0)]), (4, .box [.own 2031, .own 2032, .own 2033, .own 2034]), (9, .box [iC ((wI .i64 (1 + (wI .i64 ((zZ v20.fP 4)))))), iC ((zZ ((wI .i64 v20.fO)) ((v5.1.length : Int)))), iC ((zZ ((wI .i64 v20.fS)) ((v5.1.length : Int)))), .pure (.val (.bool v23)), .own 2035, .own 2036]), (2031, .vec 1 (v5.1.map Ak)), (2032, .vec 1 (v5.2.1.map Ak)), (2033, .vec 1 (v5.2.2.map Ak)), (2034, .vec 6 (v15.1.map AP)), (2035, .vec 1 (v28.map (FP eB))), (2036, .vec 1 (v29.map (FP eB)))]) (fun j29 h => ?_) (fun v29 h => ?_)
        ·refine wq rfl (qf GC rfl (ql B5 rfl (B7 rfl (Ac ?_))))
         refine Ba h (fun h => ?_) fun h => ?_
         ·refine Ah Ax rfl (qf Bd rfl (ql A4 rfl (qf Dg rfl (ql B5 rfl ?_))))
          refine BE h fun v31 a31 b31 h => qI As CJ a31 (Af b31) rfl (qj B5 (Af b31) rfl (qf Bd rfl (ql A4 rfl (qf Dg rfl (ql B5 rfl ?_)))))
          refine BE h fun v32 a32 b32 h => qI As CJ a32 (Af b32) rfl (qj B5 (Af b32) rfl (qf X5 rfl (ql cQ rfl ?_)))
          refine Bv h fun v33 a33 h => Aw [2037] (J2 N v31 v32 v20.ga true v33 a33) cM rfl (qf FH rfl (qs Zl rfl (AK (by kernel_rfl) ?_)))
          exact sn [(2031, 2026), (2032, 2027), (2033, 2028), (2034, 2029), (2035, 2030), (2036, 2037)] h
         ·refine Ai ?_
          exact bh _ h ((Ar 9 5 2038 1 _ rfl rfl rfl rfl).trans (sm [(2031, 2026), (2032, 2027), (2033, 2028), (2034, 2029), (2035, 2030), (2036, 2038)] _ _ rfl rfl))
        ·refine Ah Ax rfl (qf Cl rfl (ql Hn rfl (qL He Dv rfl (Dn (Bp 2035 _ _ rfl rfl) (Dn (Bp 2036 _ _ rfl rfl) (Dt DH Dv Jp rfl ?_))))))
         refine F3 h fun c34 h => CP (f := AP) DH DH Dv W9 Jp c34 rfl (qf Cl rfl (qs aV rfl (Ac (Ah Ax rfl (qm rfl (AY rfl (qe rfl ?_)))))))
         exact sn [(2014, 2031), (2015, 2032), (2016, 2033), (2017, 149)] h
      ·refine AU ?_
       exact sn [(2018, 2022), (2019, 2023), (2020, 2024), (2021, 2025)] h
    ·refine Ad hs (wq rfl (qL Ct BQ rfl (qs BQ rfl (qe rfl ?_))))
     obtain rfl := sj h
     refine Ad (sm [(1000, 2018), (1001, 2019), (1002, 2020), (1003, 2021)] [(2, oD (.ptr 2 0)), (3, bD true)] [(2, .box [.own 1000, .own 1001, .own 1002, .own 1003]), (1000, .vec 1 (v5.1.map Ak)), (1001, .vec 1 (v5.2.1.map Ak)), (1002, .vec 1 (v5.2.2.map Ak)), (1003, .vec 6 (v16.map AP))] rfl rfl) (Aq ?_)
     exact ⟨⟨[_, _], ⟨.cellN _ _ _ _ _ _ _ rfl rfl Ct BQ rfl rfl (JT rfl), tm⟩, rfl⟩, ⟨rfl, rfl, rfl, rfl, tv⟩⟩
theorem Je (N : Nat) (p0 : List (List Bool)) (p1 : Int) (p2 : Int) (r : Bool) (h : DX N p0 p1 p2 = some r) : Al zA 98 [pD (.sl (p0.map (FP eB))), iD p1, iD p2] [] (bD r) := by
 unfold DX at h
 refine cw (n := 24) (rs := [.tmp 6]) Tryz.func98 fun w0 S0 => ?_
 refine wq rfl (qa rfl (Ac (wp rfl (qm rfl (AF EM rfl (qm rfl (Bt rfl (Ac ?_))))))))
 refine Ba h (fun h => ?_) fun h => ?_
 ·refine wq rfl (qe rfl ?_)
  obtain rfl := sj h
  refine Ad (sm [] [(6, bD false)] [] rfl rfl) (Aq ?_)
  exact ⟨⟨[_], tm, rfl⟩, tv⟩
 ·refine Ai (wp rfl (qe rfl ?_))
  refine AC (L := CO N p0 p1 p2) h (fun v2 => mk [(0, pD (.sl (p0.map (FP eB)))), (1, iD p1), (2, iD p2), (7, iD v2)] []) (fun v3 => mk [] []) (fun _ _ => rfl) (sm [] _ _ rfl rfl) (fun j2 n2 v2 h => ?_) (fun v3 s h hs => ?_)
  ·unfold CO at h
   refine wp rfl (qw 2 rfl (AX rfl (Ac ?_)))
   refine Ba h (fun h => ?_) fun h => ?_
   ·refine Ai (AM (AJ (wq rfl (qw 2 rfl ?_))))
    refine BE h fun v5 a5 b5 h => qi EM Kd a5 (Af b5) rfl (qk O3 rfl (AF Fw rfl (qm rfl (Bt rfl (Ac ?_)))))
    refine Ba h (fun h => ?_) fun h => ?_
    ·refine wq rfl (qe rfl ?_)
     obtain rfl := sj h
     refine Ad (sm [] [(6, bD false)] [] rfl rfl) (Aq ?_)
     exact ⟨⟨[_], tm, rfl⟩, tv⟩
    ·refine Ai (Ah Ax rfl (qm rfl (AY rfl (qe rfl ?_))))
     exact sn [] h
   ·refine AU ?_
    exact sn [] h
  ·refine Ad hs (wq rfl (qe rfl ?_))
   obtain rfl := sj h
   refine Ad (sm [] [(6, bD true)] [] rfl rfl) (Aq ?_)
   exact ⟨⟨[_], tm, rfl⟩, tv⟩
theorem MG (N : Nat) (p0 : Aa) (p1 : An) (r : Int) (h : Fa N p0 p1 = some r) : Al zA 64 [.e (.agg (Ag p0)), .e (.agg (Bf p1))] [] (iD r) := by
 unfold Fa at h
 refine cw (n := 101) (rs := [.tmp 4]) Tryz.func64 fun w0 S0 => ?_
 refine wq rfl (qb rfl (qb rfl (qa rfl (Ac (AM ?_)))))
 refine AS h (fun v1 => mk [(2, oD (.ptr 2 0)), (3, oD (.ptr 3 0)), (22, bD v1)] [(2, .box (Ag p0)), (3, .box (Bf p1))]) (fun j1 h => ?_) (fun v1 h => ?_)
 ·refine Ah Ax rfl (qf GC rfl (ql B5 rfl (AX rfl (qm rfl ?_))))
  refine D4 10 h rfl (fun h => ?_) fun h => ?_
  ·refine qw 3 rfl (qp rfl (qw 4 rfl (qu rfl (qu rfl (qn rfl (qp rfl (Ac ?_)))))))
   exact sn [] h
  ·refine qf GC rfl (ql B5 rfl (FN rfl (qp rfl (qm rfl ?_))))
   refine D4 15 h rfl (fun h => ?_) fun h => ?_
   ·refine qw 3 rfl (qu rfl (qu rfl (qn rfl (qp rfl (Ac ?_)))))
    exact sn [] h
   ·refine qf JQ rfl (ql Un rfl (qm rfl ?_))
    refine D4 18 h rfl (fun h => ?_) fun h => ?_
    ·refine qL He Dv rfl ?_
     refine Bv h fun v5 a5 h => Aw [] (CE N p1 v5 a5) R8 rfl (qp rfl (qp rfl (Ac ?_)))
     exact sn [] h
    ·refine qw 2 rfl (qp rfl (qp rfl (Ac ?_)))
     exact sn [] h
 ·refine Ba h (fun h => ?_) fun h => ?_
  ·refine wq rfl (qe rfl ?_)
   obtain rfl := sj h
   refine Ad (sm [] [(4, iD 1)] [] rfl rfl) (Aq ?_)
   exact ⟨⟨[_], tm, rfl⟩, tv⟩
  ·refine Ai (wq rfl (qf Bd rfl (ql A4 rfl (AF As rfl (qa rfl (Ac (AM ?_)))))))
   refine AS h (fun v7 => mk [(2, oD (.ptr 2 0)), (3, oD (.ptr 3 0)), (45, bD v7)] [(2, .box (Ag p0)), (3, .box (Bf p1))]) (fun j7 h => ?_) (fun v7 h => ?_)
   ·refine Ah Ax rfl (qf Dg rfl (ql B5 rfl (AX rfl (qm rfl ?_))))
    refine D4 29 h rfl (fun h => ?_) fun h => ?_
    ·refine qw 4 rfl (qp rfl (qw 4 rfl (qp rfl (qw 5 rfl (qp rfl (Ac ?_))))))
     exact sn [] h
    ·refine qf Dg rfl (ql B5 rfl (qm rfl (Ew rfl (qp rfl (qm rfl ?_)))))
     refine D4 35 h rfl (fun h => ?_) fun h => ?_
     ·refine qw 3 rfl (qp rfl (qw 5 rfl (qp rfl (Ac ?_))))
      exact sn [] h
     ·refine qf H1 rfl (ql B5 rfl (AX rfl (qp rfl (qm rfl ?_))))
      refine D4 40 h rfl (fun h => ?_) fun h => ?_
      ·refine qw 4 rfl (qp rfl (Ac ?_))
       exact sn [] h
      ·refine qf H1 rfl (ql B5 rfl (qm rfl (Ew rfl (qp rfl (Ac ?_)))))
       exact sn [] h
   ·refine Ba h (fun h => ?_) fun h => ?_
    ·refine wq rfl (qe rfl ?_)
     obtain rfl := sj h
     refine Ad (sm [] [(4, iD 4)] [] rfl rfl) (Aq ?_)
     exact ⟨⟨[_], tm, rfl⟩, tv⟩
    ·refine Ai (wp rfl (qf Hx rfl (ql IL rfl (qf Bd rfl (ql A4 rfl (qf Dg rfl (ql B5 rfl ?_)))))))
     refine BE h fun v12 a12 b12 h => qi As CJ a12 (Af b12) rfl (qk B5 rfl (qf Bd rfl (ql A4 rfl (qf H1 rfl (ql B5 rfl ?_)))))
     refine BE h fun v13 a13 b13 h => qi As CJ a13 (Af b13) rfl (qk B5 rfl ?_)
     refine Bv h fun v14 a14 h => Aw [] (Je N p1.fX v12 v13 v14 a14) dN rfl (Cg rfl (AK (by kernel_rfl) ?_))
     refine Ba h (fun h => ?_) fun h => ?_
     ·refine wq rfl (qe rfl ?_)
      obtain rfl := sj h
      refine Ad (sm [] [(4, iD 6)] [] rfl rfl) (Aq ?_)
      exact ⟨⟨[_], tm, rfl⟩, tv⟩
     ·refine Ai (wp rfl (qf GC rfl (ql B5 rfl (Bt rfl (Ac ?_)))))
      refine Ba h (fun h => ?_) fun h => ?_
      ·refine wp rfl (qf FH rfl (ql IL rfl (AF EM rfl (Bt rfl (Ac ?_)))))
       refine Ba h (fun h => ?_) fun h => ?_
       ·refine wq rfl (qe rfl ?_)
        obtain rfl := sj h
        refine Ad (sm [] [(4, iD 6)] [] rfl rfl) (Aq ?_)
        exact ⟨⟨[_], tm, rfl⟩, tv⟩
       ·refine Ai (wq rfl (qe rfl ?_))
        obtain rfl := sj h
        refine Ad (sm [] [(4, iD 0)] [] rfl rfl) (Aq ?_)
        exact ⟨⟨[_], tm, rfl⟩, tv⟩
      ·refine Ai (wp rfl (qf FH rfl (ql IL rfl (qf Bd rfl (ql A4 rfl (qf Dg rfl (ql B5 rfl ?_)))))))
       refine BE h fun v18 a18 b18 h => qi As CJ a18 (Af b18) rfl (qk B5 rfl (qf Bd rfl (ql A4 rfl (qf Dg rfl (ql B5 rfl ?_)))))
       refine BE h fun v19 a19 b19 h => qi As CJ a19 (Af b19) rfl (qk B5 rfl ?_)
       refine Bv h fun v20 a20 h => Aw [] (Je N p1.fT v18 v19 v20 a20) dN rfl (Cg rfl (AK (by kernel_rfl) ?_))
       refine Ba h (fun h => ?_) fun h => ?_
       ·refine wq rfl (qe rfl ?_)
        obtain rfl := sj h
        refine Ad (sm [] [(4, iD 6)] [] rfl rfl) (Aq ?_)
        exact ⟨⟨[_], tm, rfl⟩, tv⟩
       ·refine Ai (wp rfl (qe rfl ?_))
        refine AC (L := Cf N p1) h (fun v22 => mk [(3, oD (.ptr 3 0)), (6, iD v22)] [(3, .box (Bf p1))]) (fun v23 => mk [] []) (fun _ _ => rfl) (sm [] _ _ rfl rfl) (fun j22 n22 v22 h => ?_) (fun v23 s h hs => ?_)
        ·unfold Cf at h
         refine wp rfl (qm rfl (qf FH rfl (ql IL rfl (AF EM rfl (AX rfl (Ac ?_))))))
         refine Ba h (fun h => ?_) fun h => ?_
         ·refine Ai (AM (AJ (wq rfl (qf FH rfl (ql IL rfl (qm rfl ?_))))))
          refine BE h fun v25 a25 b25 h => qi EM Kd a25 (Af b25) rfl (qk O3 rfl (qm rfl ?_))
          refine BE h fun v26 a26 b26 h => qi Fw PQ a26 (Af b26) rfl (qk Un rfl (Cg rfl (Ac ?_)))
          refine Ba h (fun h => ?_) fun h => ?_
          ·refine wq rfl (qe rfl ?_)
           obtain rfl := sj h
           refine Ad (sm [] [(4, iD 1)] [] rfl rfl) (Aq ?_)
           exact ⟨⟨[_], tm, rfl⟩, tv⟩
          ·refine Ai (Ah Ax rfl (qm rfl (AY rfl (qe rfl ?_))))
           exact sn [] h
         ·refine AU ?_
          exact sn [] h
        ·refine Ad hs (wq rfl (qe rfl ?_))
         obtain rfl := sj h
         refine Ad (sm [] [(4, iD 0)] [] rfl rfl) (Aq ?_)
         exact ⟨⟨[_], tm, rfl⟩, tv⟩
theorem Ev (N : Nat) (p0 : Aa) (r : Int) (h : BN N p0 = some r) : Al zA 33 [.e (.agg (Ag p0))] [] (iD r) := by
 unfold BN at h
 refine cw (n := 102) (rs := [.tmp 2]) Tryz.func33 fun w0 S0 => ?_
 refine wq rfl (qb rfl (qa rfl (Ac (AM ?_))))
 refine AS h (fun v1 => mk [(1, oD (.ptr 1 0)), (16, bD v1)] [(1, .box (Ag p0))]) (fun j1 h => ?_) (fun v1 h => ?_)
 ·refine Ah Ax rfl (qf Bd rfl (ql A4 rfl (AF As rfl (FN rfl (qm rfl ?_)))))
  refine D4 11 h rfl (fun h => ?_) fun h => ?_
  ·refine qw 4 rfl (qp rfl (Ac ?_))
   exact sn [] h
  ·refine qf Cl rfl (ql Hn rfl (AF DH rfl (FN rfl (qp rfl (Ac ?_)))))
   exact sn [] h
 ·refine Ba h (fun h => ?_) fun h => ?_
  ·refine wq rfl (qe rfl ?_)
   obtain rfl := sj h
   refine Ad (sm [] [(2, iD 3)] [] rfl rfl) (Aq ?_)
   exact ⟨⟨[_], tm, rfl⟩, tv⟩
  ·refine Ai (AM ?_)
   refine AS h (fun v4 => mk [(1, oD (.ptr 1 0)), (32, bD v4)] [(1, .box (Ag p0))]) (fun j4 h => ?_) (fun v4 h => ?_)
   ·refine Ah Ax rfl (qf FF rfl (ql A4 rfl (AF As rfl (qf Bd rfl (ql A4 rfl (AF As rfl (Bt rfl (qm rfl ?_))))))))
    refine D4 24 h rfl (fun h => ?_) fun h => ?_
    ·refine qw 7 rfl (qp rfl (Ac ?_))
     exact sn [] h
    ·refine qf GF rfl (ql A4 rfl (AF As rfl (qf Bd rfl (ql A4 rfl (AF As rfl (Bt rfl (qp rfl (Ac ?_))))))))
     exact sn [] h
   ·refine Ba h (fun h => ?_) fun h => ?_
    ·refine wq rfl (qe rfl ?_)
     obtain rfl := sj h
     refine Ad (sm [] [(2, iD 6)] [] rfl rfl) (Aq ?_)
     exact ⟨⟨[_], tm, rfl⟩, tv⟩
    ·refine Ai (wp rfl (qe rfl ?_))
     refine AC (L := Bs N p0) h (fun v7 => mk [(1, oD (.ptr 1 0)), (3, iD v7)] [(1, .box (Ag p0))]) (fun v8 => mk [(1, oD (.ptr 1 0))] [(1, .box (Ag p0))]) (fun _ _ => rfl) (sm [] _ _ rfl rfl) (fun j7 n7 v7 h => ?_) (fun v8 s h hs => ?_)
     ·unfold Bs at h
      refine wp rfl (qm rfl (qf Bd rfl (ql A4 rfl (AF As rfl (AX rfl (Ac ?_))))))
      refine Ba h (fun h => ?_) fun h => ?_
      ·refine Ai (AM (AJ (wq rfl (qf Bd rfl (ql A4 rfl (qm rfl ?_))))))
       refine BE h fun v10 a10 b10 h => qi As CJ a10 (Af b10) rfl (qk B5 rfl (qe rfl ?_))
       refine AS h (fun v11 => mk [(1, oD (.ptr 1 0)), (3, iD v7), (84, bD v11)] [(1, .box (Ag p0))]) (fun j11 h => ?_) (fun v11 h => ?_)
       ·refine Ah Ax rfl (qm rfl (AX rfl (qm rfl ?_)))
        refine D4 47 h rfl (fun h => ?_) fun h => ?_
        ·refine qw 2 rfl (qp rfl (qw 7 rfl (qp rfl (qw 8 rfl (qp rfl (qw 7 rfl (qp rfl (qw 8 rfl (qp rfl (Ac ?_))))))))))
         exact sn [] h
        ·refine qm rfl (FN rfl (qp rfl (qm rfl ?_)))
         refine D4 51 h rfl (fun h => ?_) fun h => ?_
         ·refine qw 6 rfl (qp rfl (qw 8 rfl (qp rfl (qw 7 rfl (qp rfl (qw 8 rfl (qp rfl (Ac ?_))))))))
          exact sn [] h
         ·refine qf FF rfl (ql A4 rfl (qm rfl ?_))
          refine BE h fun v14 a14 b14 h => qi As CJ a14 (Af b14) rfl (qk B5 rfl (AX rfl (qp rfl (qm rfl ?_))))
          refine D4 59 h rfl (fun h => ?_) fun h => ?_
          ·refine qw 7 rfl (qp rfl (qw 7 rfl (qp rfl (qw 8 rfl (qp rfl (Ac ?_))))))
           exact sn [] h
          ·refine qf FF rfl (ql A4 rfl (qm rfl ?_))
           refine BE h fun v16 a16 b16 h => qi As CJ a16 (Af b16) rfl (qk B5 rfl (qm rfl (Ew rfl (qp rfl (qm rfl ?_)))))
           refine D4 68 h rfl (fun h => ?_) fun h => ?_
           ·refine qw 6 rfl (qp rfl (qw 8 rfl (qp rfl (Ac ?_))))
            exact sn [] h
           ·refine qf GF rfl (ql A4 rfl (qm rfl ?_))
            refine BE h fun v18 a18 b18 h => qi As CJ a18 (Af b18) rfl (qk B5 rfl (AX rfl (qp rfl (qm rfl ?_))))
            refine D4 76 h rfl (fun h => ?_) fun h => ?_
            ·refine qw 7 rfl (qp rfl (Ac ?_))
             exact sn [] h
            ·refine qf GF rfl (ql A4 rfl (qm rfl ?_))
             refine BE h fun v20 a20 b20 h => qi As CJ a20 (Af b20) rfl (qk B5 rfl (qm rfl (Ew rfl (qp rfl (Ac ?_)))))
             exact sn [] h
       ·refine Ba h (fun h => ?_) fun h => ?_
        ·refine wq rfl (qe rfl ?_)
         obtain rfl := sj h
         refine Ad (sm [] [(2, iD 7)] [] rfl rfl) (Aq ?_)
         exact ⟨⟨[_], tm, rfl⟩, tv⟩
        ·refine Ai (Ah Ax rfl (qm rfl (AY rfl (qe rfl ?_))))
         exact sn [] h
      ·refine AU ?_
       exact sn [] h
     ·refine Ad hs (wp rfl (qe rfl ?_))
      refine AC (L := Bj N p0) h (fun v22 => mk [(1, oD (.ptr 1 0)), (5, iD v22)] [(1, .box (Ag p0))]) (fun v23 => mk [] []) (fun _ _ => rfl) (sm [] _ _ rfl rfl) (fun j22 n22 v22 h => ?_) (fun v23 s h hs => ?_)
      ·unfold Bj at h
       refine wp rfl (qm rfl (qf Cl rfl (ql Hn rfl (AF DH rfl (AX rfl (Ac ?_))))))
       refine Ba h (fun h => ?_) fun h => ?_
       ·refine Ai (AM (AJ (wq rfl (qL Ct BQ rfl (qf Cl rfl (ql Hn rfl (qm rfl ?_)))))))
        refine BE h fun v25 a25 b25 h => qi DH Dv a25 (Af b25) rfl (qK He Dv rfl ?_)
        refine Bv h fun v26 a26 h => Aw [] (MG N p0 v25 v26 a26) fh rfl (qa rfl (AK (by kernel_rfl) (wq rfl (qm rfl (Bt rfl (Ac ?_))))))
        refine Ba h (fun h => ?_) fun h => ?_
        ·refine wq rfl (qm rfl (qe rfl ?_))
         obtain rfl := sj h
         refine Ad (sm [] [(2, iD v26)] [] rfl rfl) (Aq ?_)
         exact ⟨⟨[_], tm, rfl⟩, tv⟩
        ·refine Ai (Ah Ax rfl (qm rfl (AY rfl (qe rfl ?_))))
         exact sn [] h
       ·refine AU ?_
        exact sn [] h
      ·refine Ad hs (wq rfl (qe rfl ?_))
       obtain rfl := sj h
       refine Ad (sm [] [(2, iD 0)] [] rfl rfl) (Aq ?_)
       exact ⟨⟨[_], tm, rfl⟩, tv⟩
theorem Nm (N : Nat) (p0 : Int) (r : (List Int)) (h : H8 N p0 = some r) : Al zA 55 [iD p0] [(1, r.map Ak)] (oD (.own 0)) := by
 unfold H8 at h
 refine cw (n := 21) (rs := [.tmp 2]) Tryz.func55 fun w0 S0 => ?_
 refine wq rfl (qa rfl (Ac (wq rfl (qa rfl (Ac (wp rfl (qe rfl ?_)))))))
 refine AC (L := FJ N p0) h (fun v1 => mk [(0, iD p0), (3, oD (.own 2001)), (4, iD v1.2)] [(2001, .vec 1 (v1.1.map Ak))]) (fun v2 => mk [(3, oD (.own 2002))] [(2002, .vec 1 (v2.map Ak))]) (fun _ _ => rfl) ((A9 3 2004 1 rfl rfl rfl).trans (sm [(2001, 2004)] _ _ rfl rfl)) (fun j1 n1 v1 h => ?_) (fun v2 s h hs => ?_)
 ·unfold FJ at h
  refine wp rfl (qw 2 rfl ?_)
  refine F3 h fun c3 h => GM rfl c3 (FN rfl (Ac ?_))
  refine Ba h (fun h => ?_) fun h => ?_
  ·refine Ai ?_
   refine AS h (fun v5 => mk [(0, iD p0), (3, oD (.own 2003)), (4, iD v1.2)] [(2003, .vec 1 (v5.map Ak))]) (fun j5 h => ?_) (fun v5 h => ?_)
   ·refine AJ (wq rfl (qw 2 rfl ?_))
    refine F3 h fun c6 h => GM rfl c6 (MQ rfl (by decide) (B7 rfl (Ac ?_)))
    refine Ba h (fun h => ?_) fun h => ?_
    ·refine Ah Ax rfl (qw 2 rfl (Dt As CJ Ja rfl ?_))
     refine F3 h fun c8 h => CP (f := Ak) As As CJ Ko Ja c8 rfl (qe rfl ?_)
     exact sn [(2003, 19)] h
    ·refine Ai ?_
     exact sn [(2003, 2001)] h
   ·refine Ah Ax rfl (qm rfl (AY rfl (qe rfl ?_)))
    exact sn [(2001, 2003)] h
  ·refine AU ?_
   exact sn [(2002, 2001)] h
 ·refine Ad hs (wq rfl (qm rfl (qe rfl ?_)))
  obtain rfl := sj h
  refine Ad (sm [(1000, 2002)] [(2, oD (.own 1000))] [(1000, .vec 1 (v2.map Ak))] rfl rfl) (Aq ?_)
  exact ⟨⟨[_], tm, rfl⟩, ⟨rfl, tv⟩⟩
theorem LL (N : Nat) (p0 : List Int) (p1 : List Int) (r : Bool) (h : GZ N p0 p1 = some r) : Al zA 56 [pD (.sl (p0.map Ak)), pD (.sl (p1.map Ak))] [] (bD r) := by
 unfold GZ at h
 refine cw (n := 40) (rs := [.tmp 4]) Tryz.func56 fun w0 S0 => ?_
 refine wq rfl (qa rfl (Ac (wp rfl (qm rfl (AF As rfl (qm rfl (AF As rfl (Bt rfl (Ac ?_)))))))))
 refine Ba h (fun h => ?_) fun h => ?_
 ·refine wq rfl (qm rfl (AF As rfl (qm rfl (AF As rfl (AX rfl (qe rfl ?_))))))
  obtain rfl := sj h
  refine Ad (sm [] [(4, bD ((decide ((p0.length : Int) < (p1.length : Int)))))] [] rfl rfl) (Aq ?_)
  exact ⟨⟨[_], tm, rfl⟩, tv⟩
 ·refine Ai (wp rfl (qe rfl ?_))
  refine AC (L := EX N p0 p1) h (fun v2 => mk [(0, pD (.sl (p0.map Ak))), (1, pD (.sl (p1.map Ak))), (5, iD v2)] []) (fun v3 => mk [] []) (fun _ _ => rfl) (sm [] _ _ rfl rfl) (fun j2 n2 v2 h => ?_) (fun v3 s h hs => ?_)
  ·unfold EX at h
   refine wp rfl (qw 2 rfl (AF As rfl (AX rfl (Ac ?_))))
   refine Ba h (fun h => ?_) fun h => ?_
   ·refine Ai (AM (AJ (wq rfl (qw 2 rfl ?_))))
    refine BE h fun v5 a5 b5 h => qi As CJ a5 (Af b5) rfl (qk B5 rfl (qw 2 rfl ?_))
    refine BE h fun v6 a6 b6 h => qi As CJ a6 (Af b6) rfl (qk B5 rfl (Bt rfl (AK (by kernel_rfl) ?_)))
    refine Ba h (fun h => ?_) fun h => ?_
    ·refine wq rfl (qw 2 rfl ?_)
     refine BE h fun v8 a8 b8 h => qi As CJ a8 (Af b8) rfl (qk B5 rfl (qw 2 rfl ?_))
     refine BE h fun v9 a9 b9 h => qi As CJ a9 (Af b9) rfl (qk B5 rfl (AX rfl (qa rfl (AK (by kernel_rfl) ?_))))
     obtain rfl := sj h
     refine Ad (sm [] [(4, bD ((decide (v8 < v9))))] [] rfl rfl) (Aq ?_)
     exact ⟨⟨[_], tm, rfl⟩, tv⟩
    ·refine Ai (Ah Ax rfl (qm rfl (AY rfl (qe rfl ?_))))
     exact sn [] h
   ·refine AU ?_
    exact sn [] h
  ·refine Ad hs (wq rfl (qe rfl ?_))
   obtain rfl := sj h
   refine Ad (sm [] [(4, bD false)] [] rfl rfl) (Aq ?_)
   exact ⟨⟨[_], tm, rfl⟩, tv⟩
theorem M6 (N : Nat) (p0 : Int) (r : (List (List Int))) (h : Dj N p0 = some r) : Al zA 30 [iD p0] [(1, r.map (FP Ak))] (oD (.own 0)) := by
 unfold Dj at h
 refine cw (n := 53) (rs := [.tmp 2]) Tryz.func30 fun w0 S0 => ?_
 refine wq rfl (qa rfl (Ac (wq rfl (qa rfl (Ac (wp rfl (qe rfl ?_)))))))
 refine AC (L := Fo N p0) h (fun v1 => mk [(0, iD p0), (3, oD (.own 2001)), (4, iD v1.2)] [(2001, .vec 1 (v1.1.map (FP Ak)))]) (fun v2 => mk [(3, oD (.own 2002))] [(2002, .vec 1 (v2.map (FP Ak)))]) (fun _ _ => rfl) ((A9 3 2007 1 rfl rfl rfl).trans (sm [(2001, 2007)] _ _ rfl rfl)) (fun j1 n1 v1 h => ?_) (fun v2 s h hs => ?_)
 ·unfold Fo at h
  refine wp rfl (qw 2 rfl ?_)
  refine F3 h fun c3 h => Jy rfl c3 (AX rfl (Ac ?_))
  refine Ba h (fun h => ?_) fun h => ?_
  ·refine Ai (AM (AJ (wq rfl (qw 2 rfl ?_))))
   refine Bv h fun v5 a5 h => Aw [2003] (Nm N v1.2 v5 a5) eK rfl (Dn (Bp 2003 _ _ rfl rfl) (Dt HA Ix Wl rfl ?_))
   refine F3 h fun c6 h => CP (f := (FP Ak)) HA HA Ix Z9 Wl c6 rfl (qa rfl (Ac (wq rfl (qm rfl (Fm HA rfl (JD rfl (qe rfl ?_)))))))
   refine AC (L := Fq N) h (fun v7 => mk [(0, iD p0), (3, oD (.own 2004)), (4, iD v1.2), (5, iD v7.2)] [(2004, .vec 1 (v7.1.map (FP Ak)))]) (fun v8 => mk [(0, iD p0), (3, oD (.own 2005)), (4, iD v1.2)] [(2005, .vec 1 (v8.map (FP Ak)))]) (fun _ _ => rfl) (sm [(2004, 16)] _ _ rfl rfl) (fun j7 n7 v7 h => ?_) (fun v8 s h hs => ?_)
   ·unfold Fq at h
    refine AM ?_
    refine AS h (fun v9 => mk [(0, iD p0), (3, oD (.own 2006)), (4, iD v1.2), (5, iD v7.2), (33, bD v9)] [(2006, .vec 1 (v7.1.map (FP Ak)))]) (fun j9 h => ?_) (fun v9 h => ?_)
    ·refine Ah Ax rfl (qm rfl (FN rfl (qm rfl ?_)))
     refine D4 22 h rfl (fun h => ?_) fun h => ?_
     ·refine qw 2 rfl ?_
      refine BE h fun v11 a11 b11 h => qI HA Ix a11 (Af b11) rfl (qj A4 (Af b11) rfl (qw 2 rfl (JD rfl ?_)))
      refine BE h fun v12 a12 b12 h => qI HA Ix a12 (Af b12) rfl (qj A4 (Af b12) rfl ?_)
      refine Bv h fun v13 a13 h => Aw [] (LL N v11 v12 v13 a13) eZ rfl (qp rfl (AK (by kernel_rfl) ?_))
      exact sn [(2006, 2004)] h
     ·refine qw 10 rfl (qp rfl (AK (by kernel_rfl) ?_))
      exact sn [(2006, 2004)] h
    ·refine Ba h (fun h => ?_) fun h => ?_
     ·refine Ai (AM (AJ (Ah Ax rfl (qw 4 rfl (JD rfl (qw 2 rfl (JD rfl ?_)))))))
      refine BE h fun v15 a15 b15 h => qI HA Ix a15 (Af b15) rfl (qj A4 (Af b15) rfl (qw 2 rfl ?_))
      refine BE h fun v16 a16 b16 h => qI HA Ix a16 (Af b16) rfl (qj A4 (Af b16) rfl ?_)
      refine BE h fun v17 a17 b17 h => qI HA Ix a17 (Af b17) rfl ?_
      refine DM rfl rfl rfl rfl (Af b17) rfl Ix rfl (Jt rfl) (DF (FP Ak) v7.1 _ v15) ?_
      refine BE h fun v18 a18 b18 h => qI HA Ix a18 (Af b18) rfl ?_
      refine DM rfl rfl rfl rfl (Af b18) rfl Ix rfl (Jt rfl) (DF (FP Ak) (v7.1.set ((v7.2).toNat) v15) _ v16) ?_
      refine AK (by kernel_rfl) (Ah Ax rfl (qm rfl (JD rfl (qe rfl ?_))))
      exact sn [(2004, 2006)] h
     ·refine AU ?_
      exact sn [(2005, 2006)] h
   ·refine Ad hs (Ah Ax rfl (qm rfl (AY rfl (qe rfl ?_))))
    exact sn [(2001, 2005)] h
  ·refine AU ?_
   exact sn [(2002, 2001)] h
 ·refine Ad hs (wq rfl (qm rfl (qe rfl ?_)))
  obtain rfl := sj h
  refine Ad (sm [(1000, 2002)] [(2, oD (.own 1000))] [(1000, .vec 1 (v2.map (FP Ak)))] rfl rfl) (Aq ?_)
  exact ⟨⟨[_], tm, rfl⟩, ⟨rfl, tv⟩⟩
theorem JE (N : Nat) (p0 : List Int) (p1 : Int) (r : Int) (h : Eh N p0 p1 = some r) : Al zA 57 [pD (.sl (p0.map Ak)), iD p1] [] (iD r) := by
 unfold Eh at h
 refine cw (n := 19) (rs := [.tmp 4]) Tryz.func57 fun w0 S0 => ?_
 refine wq rfl (qa rfl (Ac (wp rfl (qe rfl ?_))))
 refine AC (L := Cp N p0 p1) h (fun v1 => mk [(0, pD (.sl (p0.map Ak))), (1, iD p1), (5, iD v1)] []) (fun v2 => mk [] []) (fun _ _ => rfl) (sm [] _ _ rfl rfl) (fun j1 n1 v1 h => ?_) (fun v2 s h hs => ?_)
 ·unfold Cp at h
  refine wp rfl (qw 2 rfl (AF As rfl (AX rfl (Ac ?_))))
  refine Ba h (fun h => ?_) fun h => ?_
  ·refine Ai (AM (AJ (wq rfl (qw 2 rfl ?_))))
   refine BE h fun v4 a4 b4 h => qi As CJ a4 (Af b4) rfl (qk B5 rfl (qm rfl (B7 rfl (Ac ?_))))
   refine Ba h (fun h => ?_) fun h => ?_
   ·refine wq rfl (qm rfl (qe rfl ?_))
    obtain rfl := sj h
    refine Ad (sm [] [(4, iD v1)] [] rfl rfl) (Aq ?_)
    exact ⟨⟨[_], tm, rfl⟩, tv⟩
   ·refine Ai (Ah Ax rfl (qm rfl (AY rfl (qe rfl ?_))))
    exact sn [] h
  ·refine AU ?_
   exact sn [] h
 ·refine Ad hs (wq rfl (qe rfl ?_))
  obtain rfl := sj h
  refine Ad (sm [] [(4, iD ((-1)))] [] rfl rfl) (Aq ?_)
  exact ⟨⟨[_], tm, rfl⟩, tv⟩
theorem Jb (N : Nat) (p0 : List (List Bool)) (r : (List (List Bool))) (h : DV N p0 = some r) : Al zA 92 [pD (.sl (p0.map (FP eB)))] [(1, r.map (FP eB))] (oD (.own 0)) := by
 unfold DV at h
 refine cw (n := 21) (rs := [.tmp 2]) Tryz.func92 fun w0 S0 => ?_
 refine wq rfl (qa rfl (Ac (wq rfl (qa rfl (Ac (wp rfl (qe rfl ?_)))))))
 refine AC (L := CL N p0) h (fun v1 => mk [(0, pD (.sl (p0.map (FP eB)))), (3, oD (.own 2001)), (4, iD v1.2)] [(2001, .vec 1 (v1.1.map (FP eB)))]) (fun v2 => mk [(3, oD (.own 2002))] [(2002, .vec 1 (v2.map (FP eB)))]) (fun _ _ => rfl) ((A9 3 2003 1 rfl rfl rfl).trans (sm [(2001, 2003)] _ _ rfl rfl)) (fun j1 n1 v1 h => ?_) (fun v2 s h hs => ?_)
 ·unfold CL at h
  refine wp rfl (qw 2 rfl (AF EM rfl (AX rfl (Ac ?_))))
  refine Ba h (fun h => ?_) fun h => ?_
  ·refine Ai (AM (AJ (Ah Ax rfl (qm rfl (Dt Fw PQ Uo rfl (qw 2 rfl ?_))))))
   refine BE h fun v4 a4 b4 h => qi EM Kd a4 (Af b4) rfl (qk O3 rfl ?_)
   refine F3 h fun c5 h => IN (f := eB) Fw Fw PQ Xo Uo (fun _ => rfl) c5 rfl (Dn (Bp 17 _ _ rfl rfl) (Dt EM Kd UQ rfl ?_))
   refine F3 h fun c6 h => CP (f := (FP eB)) EM EM Kd W7 UQ c6 rfl (qa rfl (Ac (Ah Ax rfl (qm rfl (AY rfl (qe rfl ?_))))))
   exact sn [(2001, 19)] h
  ·refine AU ?_
   exact sn [(2002, 2001)] h
 ·refine Ad hs (wq rfl (qm rfl (qe rfl ?_)))
  obtain rfl := sj h
  refine Ad (sm [(1000, 2002)] [(2, oD (.own 1000))] [(1000, .vec 1 (v2.map (FP eB)))] rfl rfl) (Aq ?_)
  exact ⟨⟨[_], tm, rfl⟩, ⟨rfl, tv⟩⟩
theorem LP (N : Nat) (p0 : An) (p1 : Int) (p2 : Int) (r : An) (h : FG N p0 p1 p2 = some r) : Al zA 58 [.e (.agg (Bf p0)), iD p1, iD p2] [(1, r.fX.map (FP eB)), (1, r.fT.map (FP eB))] (.e (.agg [iC r.fP, iC r.fO, iC r.fS, .pure (.val (.bool r.fY)), .own 0, .own 1])) := by
 unfold FG at h
 refine cw (n := 20) (rs := [.cell 6 84]) Tryz.func58 fun w0 S0 => ?_
 refine wq rfl (qb rfl (qz Jp rfl (Ac (wq rfl (qf GC rfl (ql B5 rfl (qw 2 rfl (qf JQ rfl (ql Un rfl (qf Hx rfl (ql IL rfl ?_)))))))))))
 refine Bv h fun v1 a1 h => Aw [2001] (Jb N p0.fX v1 a1) cR rfl (qf FH rfl (ql IL rfl ?_))
 refine Bv h fun v2 a2 h => Aw [2002] (Jb N p0.fT v2 a2) cR rfl (Bm Jp Zg rfl (qs Dv rfl (AK (by kernel_rfl) ?_)))
 obtain rfl := sj h
 refine Ad (sm [(1000, 2001), (1001, 2002)] [(6, oD (.ptr 6 0))] [(6, .box [iC p0.fP, iC p1, iC p2, .pure (.val (.bool p0.fY)), .own 1000, .own 1001]), (1000, .vec 1 (v1.map (FP eB))), (1001, .vec 1 (v2.map (FP eB)))] rfl rfl) (Aq ?_)
 exact ⟨⟨[_], ⟨.cellN _ _ _ _ _ _ _ rfl rfl He Dv rfl rfl (JT rfl), tv⟩, rfl⟩, ⟨rfl, rfl, tv⟩⟩
theorem Iy (N : Nat) (p0 : Aa) (p1 : List Int) (r : Aa × Int) (h : Dx N p0 p1 = some r) : Al zA 31 [.e (.agg (Ag p0)), pD (.sl (p1.map Ak))] [(1, r.1.fJ.map Ak), (1, r.1.fQ.map Ak), (1, r.1.fU.map Ak), (6, r.1.fK.map AP)] (.tup [.agg [.own 0, .own 1, .own 2, .own 3], .one (iC r.2)]) := by
 unfold Dx at h
 refine cw (n := 124) (rs := [.cell 4 29, .tmp 5]) Tryz.func31 fun w0 S0 => ?_
 refine wq rfl (qb rfl (qz Kn rfl (qa rfl (Ac (wp rfl (qL Ct BQ rfl ?_))))))
 refine Bv h fun v1 a1 h => Aw [] (Ev N p0 v1 a1) ZG rfl (qa rfl (Ac (wq rfl (qm rfl (Bt rfl (Ac ?_))))))
 refine Ba h (fun h => ?_) fun h => ?_
 ·refine wq rfl (Bm Kn TJ rfl (qm rfl (qs BQ rfl (qe rfl ?_))))
  obtain rfl := sj h
  refine Ad ((Ar 4 0 2001 1 _ rfl rfl rfl rfl).trans ((Ar 4 1 2002 1 _ rfl rfl rfl rfl).trans ((Ar 4 2 2003 1 _ rfl rfl rfl rfl).trans ((Ar 4 3 2004 6 _ rfl rfl rfl rfl).trans (sm [(1000, 2001), (1001, 2002), (1002, 2003), (1003, 2004)] [(4, oD (.ptr 4 0)), (5, iD v1)] [(4, .box [.own 1000, .own 1001, .own 1002, .own 1003]), (1000, .vec 1 ((([] : List Int)).map Ak)), (1001, .vec 1 ((([] : List Int)).map Ak)), (1002, .vec 1 ((([] : List Int)).map Ak)), (1003, .vec 6 ((([] : List An)).map AP))] rfl rfl))))) (Aq ?_)
  exact ⟨⟨[_, _], ⟨.cellN _ _ _ _ _ _ _ rfl rfl Ct BQ rfl rfl (JT rfl), tm⟩, rfl⟩, ⟨rfl, rfl, rfl, rfl, tv⟩⟩
 ·refine Ai (wp rfl (qe rfl ?_))
  refine AC (L := A3 N p1) h (fun v3 => mk [(1, pD (.sl (p1.map Ak))), (2, oD (.ptr 2 0)), (4, oD (.ptr 4 0)), (7, iD v3)] [(2, .box (Ag p0)), (4, .box [.pure (.nil0), .pure (.nil0), .pure (.nil0), .pure (.nil0)])]) (fun v4 => mk [(1, pD (.sl (p1.map Ak))), (2, oD (.ptr 2 0)), (4, oD (.ptr 4 0))] [(2, .box (Ag p0)), (4, .box [.pure (.nil0), .pure (.nil0), .pure (.nil0), .pure (.nil0)])]) (fun _ _ => rfl) (sm [] _ _ rfl rfl) (fun j3 n3 v3 h => ?_) (fun v4 s h hs => ?_)
  ·unfold A3 at h
   refine wp rfl (qw 2 rfl (AF As rfl (AX rfl (Ac ?_))))
   refine Ba h (fun h => ?_) fun h => ?_
   ·refine Ai (AM (AJ (wq rfl (qw 2 rfl ?_))))
    refine BE h fun v6 a6 b6 h => qi As CJ a6 (Af b6) rfl (qk B5 rfl (qw 2 rfl (JD rfl ?_)))
    refine BE h fun v7 a7 b7 h => qi As CJ a7 (Af b7) rfl (qk B5 rfl (PT rfl (AK (by kernel_rfl) ?_)))
    refine Ba h (fun h => ?_) fun h => ?_
    ·refine wq rfl (Bm Kn TJ rfl (qs BQ rfl (qe rfl ?_)))
     obtain rfl := sj h
     refine Ad ((Ar 4 0 2005 1 _ rfl rfl rfl rfl).trans ((Ar 4 1 2006 1 _ rfl rfl rfl rfl).trans ((Ar 4 2 2007 1 _ rfl rfl rfl rfl).trans ((Ar 4 3 2008 6 _ rfl rfl rfl rfl).trans (sm [(1000, 2005), (1001, 2006), (1002, 2007), (1003, 2008)] [(4, oD (.ptr 4 0)), (5, iD 1)] [(4, .box [.own 1000, .own 1001, .own 1002, .own 1003]), (1000, .vec 1 ((([] : List Int)).map Ak)), (1001, .vec 1 ((([] : List Int)).map Ak)), (1002, .vec 1 ((([] : List Int)).map Ak)), (1003, .vec 6 ((([] : List An)).map AP))] rfl rfl))))) (Aq ?_)
     exact ⟨⟨[_, _], ⟨.cellN _ _ _ _ _ _ _ rfl rfl Ct BQ rfl rfl (JT rfl), tm⟩, rfl⟩, ⟨rfl, rfl, rfl, rfl, tv⟩⟩
    ·refine Ai (Ah Ax rfl (qm rfl (AY rfl (qe rfl ?_))))
     exact sn [] h
   ·refine AU ?_
    exact sn [] h
  ·refine Ad hs (wq rfl (qz Kn rfl (Ac (wp rfl (qe rfl ?_)))))
   refine AC (L := C0 N p0 p1) h (fun v9 => mk [(1, pD (.sl (p1.map Ak))), (2, oD (.ptr 2 0)), (4, oD (.ptr 4 0)), (8, oD (.ptr 8 0)), (9, iD v9.2.2.2)] [(2, .box (Ag p0)), (4, .box [.pure (.nil0), .pure (.nil0), .pure (.nil0), .pure (.nil0)]), (8, .box [.own 2009, .own 2010, .own 2011, .pure (.nil0)]), (2009, .vec 1 (v9.1.map Ak)), (2010, .vec 1 (v9.2.1.map Ak)), (2011, .vec 1 (v9.2.2.1.map Ak))]) (fun v10 => mk [(1, pD (.sl (p1.map Ak))), (2, oD (.ptr 2 0)), (4, oD (.ptr 4 0)), (8, oD (.ptr 8 0))] [(2, .box (Ag p0)), (4, .box [.pure (.nil0), .pure (.nil0), .pure (.nil0), .pure (.nil0)]), (8, .box [.own 2012, .own 2013, .own 2014, .pure (.nil0)]), (2012, .vec 1 (v10.1.map Ak)), (2013, .vec 1 (v10.2.1.map Ak)), (2014, .vec 1 (v10.2.2.map Ak))]) (fun _ _ => rfl) ((Ar 8 0 2022 1 _ rfl rfl rfl rfl).trans ((Ar 8 1 2023 1 _ rfl rfl rfl rfl).trans ((Ar 8 2 2024 1 _ rfl rfl rfl rfl).trans (sm [(2009, 2022), (2010, 2023), (2011, 2024)] _ _ rfl rfl)))) (fun j9 n9 v9 h => ?_) (fun v10 s h hs => ?_)
   ·unfold C0 at h
    refine wp rfl (qw 2 rfl (AF As rfl (AX rfl (Ac ?_))))
    refine Ba h (fun h => ?_) fun h => ?_
    ·refine Ai (AM (AJ (wq rfl (qw 2 rfl ?_))))
     refine BE h fun v12 a12 b12 h => qi As CJ a12 (Af b12) rfl (qk B5 rfl (qa rfl (Ac (AM ?_))))
     refine AS h (fun v13 => mk [(1, pD (.sl (p1.map Ak))), (2, oD (.ptr 2 0)), (4, oD (.ptr 4 0)), (8, oD (.ptr 8 0)), (9, iD v9.2.2.2), (10, iD v12), (56, bD v13)] [(2, .box (Ag p0)), (4, .box [.pure (.nil0), .pure (.nil0), .pure (.nil0), .pure (.nil0)]), (8, .box [.own 2015, .own 2016, .own 2017, .pure (.nil0)]), (2015, .vec 1 (v9.1.map Ak)), (2016, .vec 1 (v9.2.1.map Ak)), (2017, .vec 1 (v9.2.2.1.map Ak))]) (fun j13 h => ?_) (fun v13 h => ?_)
     ·refine Ah Ax rfl (qm rfl (AX rfl (qm rfl ?_)))
      refine D4 50 h rfl (fun h => ?_) fun h => ?_
      ·refine qw 5 rfl (qp rfl (Ac ?_))
       exact sn [(2015, 2009), (2016, 2010), (2017, 2011)] h
      ·refine qm rfl (qf Bd rfl (ql A4 rfl (AF As rfl (Ew rfl (qp rfl (Ac ?_))))))
       exact sn [(2015, 2009), (2016, 2010), (2017, 2011)] h
     ·refine Ba h (fun h => ?_) fun h => ?_
      ·refine wq rfl (Bm Kn TJ rfl (qs BQ rfl (qe rfl ?_)))
       obtain rfl := sj h
       refine Ad ((Ar 4 0 2018 1 _ rfl rfl rfl rfl).trans ((Ar 4 1 2019 1 _ rfl rfl rfl rfl).trans ((Ar 4 2 2020 1 _ rfl rfl rfl rfl).trans ((Ar 4 3 2021 6 _ rfl rfl rfl rfl).trans (sm [(1000, 2018), (1001, 2019), (1002, 2020), (1003, 2021)] [(4, oD (.ptr 4 0)), (5, iD 4)] [(4, .box [.own 1000, .own 1001, .own 1002, .own 1003]), (1000, .vec 1 ((([] : List Int)).map Ak)), (1001, .vec 1 ((([] : List Int)).map Ak)), (1002, .vec 1 ((([] : List Int)).map Ak)), (1003, .vec 6 ((([] : List An)).map AP))] rfl rfl))))) (Aq ?_)
       exact ⟨⟨[_, _], ⟨.cellN _ _ _ _ _ _ _ rfl rfl Ct BQ rfl rfl (JT rfl), tm⟩, rfl⟩, ⟨rfl, rfl, rfl, rfl, tv⟩⟩
      ·refine Ai (wq rfl (qf Bd rfl (ql A4 rfl (qf Bd rfl (ql A4 rfl (qm rfl ?_))))))
       refine BE h fun v16 a16 b16 h => qi As CJ a16 (Af b16) rfl (qk B5 rfl (Dt As CJ Ja rfl ?_))
       refine F3 h fun c17 h => CP (f := Ak) As As CJ Ko Ja c17 rfl (qf Bd rfl (qs Ix rfl (AK (by kernel_rfl) (wq rfl (qf FF rfl (ql A4 rfl (qf FF rfl (ql A4 rfl (qm rfl ?_)))))))))
       refine BE h fun v18 a18 b18 h => qi As CJ a18 (Af b18) rfl (qk B5 rfl (Dt As CJ Ja rfl ?_))
       refine F3 h fun c19 h => CP (f := Ak) As As CJ Ko Ja c19 rfl (qf FF rfl (qs Ix rfl (AK (by kernel_rfl) (Ah Ax rfl (qf GF rfl (ql A4 rfl (qf GF rfl (ql A4 rfl (qm rfl ?_)))))))))
       refine BE h fun v20 a20 b20 h => qi As CJ a20 (Af b20) rfl (qk B5 rfl (Dt As CJ Ja rfl ?_))
       refine F3 h fun c21 h => CP (f := Ak) As As CJ Ko Ja c21 rfl (qf GF rfl (qs Ix rfl (AK (by kernel_rfl) (Ah Ax rfl (qm rfl (AY rfl (qe rfl ?_)))))))
       exact sn [(2009, 66), (2010, 76), (2011, 86)] h
    ·refine AU ?_
     exact sn [(2012, 2009), (2013, 2010), (2014, 2011)] h
   ·refine Ad hs (wp rfl (qe rfl ?_))
    refine AC (L := BM N p0 p1) h (fun v22 => mk [(1, pD (.sl (p1.map Ak))), (2, oD (.ptr 2 0)), (4, oD (.ptr 4 0)), (8, oD (.ptr 8 0)), (11, iD v22.2)] [(2, .box (Ag p0)), (4, .box [.pure (.nil0), .pure (.nil0), .pure (.nil0), .pure (.nil0)]), (8, .box [.own 2025, .own 2026, .own 2027, .own 2028]), (2025, .vec 1 (v10.1.map Ak)), (2026, .vec 1 (v10.2.1.map Ak)), (2027, .vec 1 (v10.2.2.map Ak)), (2028, .vec 6 (v22.1.map AP))]) (fun v23 => mk [(4, oD (.ptr 4 0)), (8, oD (.ptr 8 0))] [(4, .box [.pure (.nil0), .pure (.nil0), .pure (.nil0), .pure (.nil0)]), (8, .box [.own 2029, .own 2030, .own 2031, .own 2032]), (2029, .vec 1 (v10.1.map Ak)), (2030, .vec 1 (v10.2.1.map Ak)), (2031, .vec 1 (v10.2.2.map Ak)), (2032, .vec 6 (v23.map AP))]) (fun _ _ => rfl) ((Ar 8 3 2041 6 _ rfl rfl rfl rfl).trans (sm [(2025, 2012), (2026, 2013), (2027, 2014), (2028, 2041)] _ _ rfl rfl)) (fun j22 n22 v22 h => ?_) (fun v23 s h hs => ?_)
    ·unfold BM at h
     refine wp rfl (qm rfl (qf Cl rfl (ql Hn rfl (AF DH rfl (AX rfl (Ac ?_))))))
     refine Ba h (fun h => ?_) fun h => ?_
     ·refine Ai ?_
      refine AS h (fun v25 => mk [(1, pD (.sl (p1.map Ak))), (2, oD (.ptr 2 0)), (4, oD (.ptr 4 0)), (8, oD (.ptr 8 0)), (11, iD v22.2)] [(2, .box (Ag p0)), (4, .box [.pure (.nil0), .pure (.nil0), .pure (.nil0), .pure (.nil0)]), (8, .box [.own 2033, .own 2034, .own 2035, .own 2036]), (2033, .vec 1 (v10.1.map Ak)), (2034, .vec 1 (v10.2.1.map Ak)), (2035, .vec 1 (v10.2.2.map Ak)), (2036, .vec 6 (v25.map AP))]) (fun j25 h => ?_) (fun v25 h => ?_)
      ·refine AJ (wq rfl (qf Cl rfl (ql Hn rfl (qm rfl ?_))))
       refine BE h fun v26 a26 b26 h => qi DH Dv a26 (Af b26) rfl (qK He Dv rfl (qz Jp rfl (qs Dv rfl (Ac (wq rfl (qm rfl (qf Dg rfl (ql B5 rfl ?_))))))))
       refine Bv h fun v27 a27 h => Aw [] (JE N p1 v26.fO v27 a27) ef rfl (qm rfl (qf H1 rfl (ql B5 rfl ?_)))
       refine Bv h fun v28 a28 h => Aw [] (JE N p1 v26.fS v28 a28) ef rfl (qa rfl (qa rfl (AK (by kernel_rfl) ?_)))
       refine AS h (fun v29 => mk [(1, pD (.sl (p1.map Ak))), (2, oD (.ptr 2 0)), (4, oD (.ptr 4 0)), (8, oD (.ptr 8 0)), (11, iD v22.2), (12, oD (.ptr 12 0)), (13, iD v27), (14, iD v28), (113, bD v29)] [(2, .box (Ag p0)), (4, .box [.pure (.nil0), .pure (.nil0), .pure (.nil0), .pure (.nil0)]), (8, .box [.own 2037, .own 2038, .own 2039, .own 2040]), (12, .box (Bf v26)), (2037, .vec 1 (v10.1.map Ak)), (2038, .vec 1 (v10.2.1.map Ak)), (2039, .vec 1 (v10.2.2.map Ak)), (2040, .vec 6 (v22.1.map AP))]) (fun j29 h => ?_) (fun v29 h => ?_)
       ·refine Ah Ax rfl (qm rfl (Ew rfl (qm rfl ?_)))
        refine D4 110 h rfl (fun h => ?_) fun h => ?_
        ·refine qm rfl (Ew rfl (qp rfl (Ac ?_)))
         exact sn [(2037, 2025), (2038, 2026), (2039, 2027), (2040, 2028)] h
        ·refine qw 2 rfl (qp rfl (Ac ?_))
         exact sn [(2037, 2025), (2038, 2026), (2039, 2027), (2040, 2028)] h
       ·refine Ba h (fun h => ?_) fun h => ?_
        ·refine Ah Ax rfl (qf Cl rfl (ql Hn rfl (qL He Dv rfl (qw 2 rfl ?_))))
         refine Bv h fun v32 a32 h => Aw [] ((LP N v26 v27 v28 v32 a32).share rfl) e9 rfl (Dt DH Dv Jp rfl ?_)
         refine F3 h fun c33 h => CP (f := AP) DH DH Dv W9 Jp c33 rfl (qf Cl rfl (qs aV rfl (AK (by kernel_rfl) ?_)))
         exact sn [(2033, 2037), (2034, 2038), (2035, 2039), (2036, 121)] h
        ·refine Ai ?_
         exact sn [(2033, 2037), (2034, 2038), (2035, 2039), (2036, 2040)] h
      ·refine Ah Ax rfl (qm rfl (AY rfl (qe rfl ?_)))
       exact sn [(2025, 2033), (2026, 2034), (2027, 2035), (2028, 2036)] h
     ·refine AU ?_
      exact sn [(2029, 2025), (2030, 2026), (2031, 2027), (2032, 2028)] h
    ·refine Ad hs (wq rfl (qL Ct BQ rfl (qs BQ rfl (qe rfl ?_))))
     obtain rfl := sj h
     refine Ad (sm [(1000, 2029), (1001, 2030), (1002, 2031), (1003, 2032)] [(4, oD (.ptr 4 0)), (5, iD 0)] [(4, .box [.own 1000, .own 1001, .own 1002, .own 1003]), (1000, .vec 1 (v10.1.map Ak)), (1001, .vec 1 (v10.2.1.map Ak)), (1002, .vec 1 (v10.2.2.map Ak)), (1003, .vec 6 (v23.map AP))] rfl rfl) (Aq ?_)
     exact ⟨⟨[_, _], ⟨.cellN _ _ _ _ _ _ _ rfl rfl Ct BQ rfl rfl (JT rfl), tm⟩, rfl⟩, ⟨rfl, rfl, rfl, rfl, tv⟩⟩
theorem Jq (N : Nat) (p0 : Aa) (r : Ab × Int) (h : Ei N p0 = some r) : Al zA 59 [.e (.agg (Ag p0))] [(1, r.1.fL.map Ak), (1, r.1.fI.map Ak), (1, r.1.fN.map Du)] (.tup [.agg [.own 0, .own 1, .own 2], .one (iC r.2)]) := by
 unfold Ei at h
 refine cw (n := 68) (rs := [.cell 2 49, .tmp 3]) Tryz.func59 fun w0 S0 => ?_
 refine wq rfl (qb rfl (qz Ea rfl (qa rfl (Ac (wp rfl (qL Ct BQ rfl ?_))))))
 refine Bv h fun v1 a1 h => Aw [] (Ev N p0 v1 a1) ZG rfl (qa rfl (Ac (wq rfl (qm rfl (Bt rfl (Ac ?_))))))
 refine Ba h (fun h => ?_) fun h => ?_
 ·refine wq rfl (Bm Ea JR rfl (qm rfl (qs AV rfl (qe rfl ?_))))
  obtain rfl := sj h
  refine Ad ((Ar 2 0 2001 1 _ rfl rfl rfl rfl).trans ((Ar 2 1 2002 1 _ rfl rfl rfl rfl).trans ((Ar 2 2 2003 1 _ rfl rfl rfl rfl).trans (sm [(1000, 2001), (1001, 2002), (1002, 2003)] [(2, oD (.ptr 2 0)), (3, iD v1)] [(2, .box [.own 1000, .own 1001, .own 1002]), (1000, .vec 1 ((([] : List Int)).map Ak)), (1001, .vec 1 ((([] : List Int)).map Ak)), (1002, .vec 1 ((([] : List Int)).map Du))] rfl rfl)))) (Aq ?_)
  exact ⟨⟨[_, _], ⟨.cellN _ _ _ _ _ _ _ rfl rfl Bi AV rfl rfl (JT rfl), tm⟩, rfl⟩, ⟨rfl, rfl, rfl, tv⟩⟩
 ·refine Ai (wq rfl (qz Ea rfl (Ac (wp rfl (qe rfl ?_)))))
  refine AC (L := Cq N p0) h (fun v3 => mk [(1, oD (.ptr 1 0)), (2, oD (.ptr 2 0)), (5, oD (.ptr 5 0)), (6, iD v3.2.2)] [(1, .box (Ag p0)), (2, .box [.pure (.nil0), .pure (.nil0), .pure (.nil0)]), (5, .box [.own 2004, .own 2005, .pure (.nil0)]), (2004, .vec 1 (v3.1.map Ak)), (2005, .vec 1 (v3.2.1.map Ak))]) (fun v4 => mk [(1, oD (.ptr 1 0)), (2, oD (.ptr 2 0)), (5, oD (.ptr 5 0))] [(1, .box (Ag p0)), (2, .box [.pure (.nil0), .pure (.nil0), .pure (.nil0)]), (5, .box [.own 2006, .own 2007, .pure (.nil0)]), (2006, .vec 1 (v4.1.map Ak)), (2007, .vec 1 (v4.2.map Ak))]) (fun _ _ => rfl) ((Ar 5 0 2008 1 _ rfl rfl rfl rfl).trans ((Ar 5 1 2009 1 _ rfl rfl rfl rfl).trans (sm [(2004, 2008), (2005, 2009)] _ _ rfl rfl))) (fun j3 n3 v3 h => ?_) (fun v4 s h hs => ?_)
  ·unfold Cq at h
   refine wp rfl (qm rfl (qf Bd rfl (ql A4 rfl (AF As rfl (AX rfl (Ac ?_))))))
   refine Ba h (fun h => ?_) fun h => ?_
   ·refine Ai (AM (AJ (wq rfl (qf CR rfl (ql A4 rfl (qf FF rfl (ql A4 rfl (qm rfl ?_))))))))
    refine BE h fun v6 a6 b6 h => qi As CJ a6 (Af b6) rfl (qk B5 rfl (Dt As CJ Ja rfl ?_))
    refine F3 h fun c7 h => CP (f := Ak) As As CJ Ko Ja c7 rfl (qf CR rfl (qs Ix rfl (AK (by kernel_rfl) (Ah Ax rfl (qf BC rfl (ql A4 rfl (Dt As CJ Ja rfl ?_)))))))
    refine F3 h fun c8 h => CP (f := Ak) As As CJ Ko Ja c8 rfl (qf BC rfl (qs Ix rfl (Ac (Ah Ax rfl (qm rfl (AY rfl (qe rfl ?_)))))))
    exact sn [(2004, 30), (2005, 35)] h
   ·refine AU ?_
    exact sn [(2006, 2004), (2007, 2005)] h
  ·refine Ad hs (wp rfl (qe rfl ?_))
   refine AC (L := Bn N p0) h (fun v9 => mk [(1, oD (.ptr 1 0)), (2, oD (.ptr 2 0)), (5, oD (.ptr 5 0)), (7, iD v9.2)] [(1, .box (Ag p0)), (2, .box [.pure (.nil0), .pure (.nil0), .pure (.nil0)]), (5, .box [.own 2010, .own 2011, .own 2012]), (2010, .vec 1 (v4.1.map Ak)), (2011, .vec 1 (v4.2.map Ak)), (2012, .vec 1 (v9.1.map Du))]) (fun v10 => mk [(2, oD (.ptr 2 0)), (5, oD (.ptr 5 0))] [(2, .box [.pure (.nil0), .pure (.nil0), .pure (.nil0)]), (5, .box [.own 2013, .own 2014, .own 2015]), (2013, .vec 1 (v4.1.map Ak)), (2014, .vec 1 (v4.2.map Ak)), (2015, .vec 1 (v10.map Du))]) (fun _ _ => rfl) ((Ar 5 2 2019 1 _ rfl rfl rfl rfl).trans (sm [(2010, 2006), (2011, 2007), (2012, 2019)] _ _ rfl rfl)) (fun j9 n9 v9 h => ?_) (fun v10 s h hs => ?_)
   ·unfold Bn at h
    refine wp rfl (qm rfl (qf Cl rfl (ql Hn rfl (AF DH rfl (AX rfl (Ac ?_))))))
    refine Ba h (fun h => ?_) fun h => ?_
    ·refine Ai (AM (AJ (wq rfl (qe rfl ?_))))
     refine AS h (fun v12 => mk [(1, oD (.ptr 1 0)), (2, oD (.ptr 2 0)), (5, oD (.ptr 5 0)), (7, iD v9.2), (8, pD (.val (.int .u8 v12)))] [(1, .box (Ag p0)), (2, .box [.pure (.nil0), .pure (.nil0), .pure (.nil0)]), (5, .box [.own 2016, .own 2017, .own 2018]), (2016, .vec 1 (v4.1.map Ak)), (2017, .vec 1 (v4.2.map Ak)), (2018, .vec 1 (v9.1.map Du))]) (fun j12 h => ?_) (fun v12 h => ?_)
     ·refine wq rfl (qf Cl rfl (ql Hn rfl (qm rfl ?_)))
      refine BE h fun v13 a13 b13 h => qi DH Dv a13 (Af b13) rfl (qK He Dv rfl ?_)
      refine Bv h fun v14 a14 h => Aw [] (CE N v13 v14 a14) R8 rfl (Ac ?_)
      refine Ba h (fun h => ?_) fun h => ?_
      ·refine Ah Ax rfl (qf FF rfl (ql A4 rfl (qf Cl rfl (ql Hn rfl (qm rfl ?_)))))
       refine BE h fun v16 a16 b16 h => qi DH Dv a16 (Af b16) rfl (qg Dg rfl (qk B5 rfl ?_))
       refine BE h fun v17 a17 b17 h => qi As CJ a17 (Af b17) rfl (qk B5 rfl ?_)
       refine F3 h fun c18 h => Jy rfl c18 (qa rfl (AK (by kernel_rfl) ?_))
       exact sn [(2016, 2010), (2017, 2011), (2018, 2012)] h
      ·refine Ai ?_
       exact sn [(2016, 2010), (2017, 2011), (2018, 2012)] h
     ·refine Ah Ax rfl (qf CS rfl (ql HE rfl (qm rfl (Dt Dz EF Nv rfl ?_))))
      refine F3 h fun c19 h => CP (f := Du) Dz Dz EF Pv Nv c19 rfl (qf CS rfl (qs fm rfl (Ac (Ah Ax rfl (qm rfl (AY rfl (qe rfl ?_)))))))
      exact sn [(2010, 2016), (2011, 2017), (2012, 65)] h
    ·refine AU ?_
     exact sn [(2013, 2010), (2014, 2011), (2015, 2012)] h
   ·refine Ad hs (wq rfl (qL Bi AV rfl (qs AV rfl (qe rfl ?_))))
    obtain rfl := sj h
    refine Ad (sm [(1000, 2013), (1001, 2014), (1002, 2015)] [(2, oD (.ptr 2 0)), (3, iD 0)] [(2, .box [.own 1000, .own 1001, .own 1002]), (1000, .vec 1 (v4.1.map Ak)), (1001, .vec 1 (v4.2.map Ak)), (1002, .vec 1 (v10.map Du))] rfl rfl) (Aq ?_)
    exact ⟨⟨[_, _], ⟨.cellN _ _ _ _ _ _ _ rfl rfl Bi AV rfl rfl (JT rfl), tm⟩, rfl⟩, ⟨rfl, rfl, rfl, tv⟩⟩
theorem L2 (N : Nat) (p0 : Ab) (r : Ab) (h : EN N p0 = some r) : Al zA 131 [.e (.agg (AE p0))] [(1, r.fL.map Ak), (1, r.fI.map Ak), (1, r.fN.map Du)] (.e (.agg [.own 0, .own 1, .own 2])) := by
 unfold EN at h
 refine cw (n := 16) (rs := [.cell 2 49]) Tryz.func131 fun w0 S0 => ?_
 refine wq rfl (qb rfl (qz Ea rfl (Ac (wq rfl (Dt As CJ Ja rfl (qf CR rfl (ql A4 rfl ?_)))))))
 refine F3 h fun c1 h => IN (f := Ak) As As CJ Ko Ja (fun _ => rfl) c1 rfl (Dt As CJ Ja rfl (qf BC rfl (ql A4 rfl ?_)))
 refine F3 h fun c2 h => IN (f := Ak) As As CJ Ko Ja (fun _ => rfl) c2 rfl (Dt Dz EF Nv rfl (qf CS rfl (ql HE rfl ?_)))
 refine F3 h fun c3 h => IN (f := Du) Dz Dz EF Pv Nv (fun _ => rfl) c3 rfl (Bm Ea JR rfl (qs AV rfl (AK (by kernel_rfl) ?_)))
 obtain rfl := sj h
 refine Ad (sm [(1000, 6), (1001, 10), (1002, 14)] [(2, oD (.ptr 2 0))] [(2, .box [.own 1000, .own 1001, .own 1002]), (1000, .vec 1 (((([] : List Int)) ++ p0.fL).map Ak)), (1001, .vec 1 (((([] : List Int)) ++ p0.fI).map Ak)), (1002, .vec 1 (((([] : List Int)) ++ p0.fN).map Du))] rfl rfl) (Aq ?_)
 exact ⟨⟨[_], ⟨.cellN _ _ _ _ _ _ _ rfl rfl Bi AV rfl rfl (JT rfl), tv⟩, rfl⟩, ⟨rfl, rfl, rfl, tv⟩⟩
theorem N1 (N : Nat) (p0 : Ab) (r : (List Ab)) (h : ER N p0 = some r) : Al zA 93 [.e (.agg (AE p0))] [(3, r.map AW)] (oD (.own 0)) := by
 unfold ER at h
 refine cw (n := 62) (rs := [.tmp 2]) Tryz.func93 fun w0 S0 => ?_
 refine wq rfl (qb rfl (qa rfl (Ac (wq rfl (qa rfl (Ac (wp rfl (qe rfl ?_))))))))
 refine AC (L := CW N p0) h (fun v1 => mk [(1, oD (.ptr 1 0)), (3, iD v1.1), (4, iD v1.2)] [(1, .box (AE p0))]) (fun v2 => mk [(1, oD (.ptr 1 0)), (3, iD v2)] [(1, .box (AE p0))]) (fun _ _ => rfl) (sm [] _ _ rfl rfl) (fun j1 n1 v1 h => ?_) (fun v2 s h hs => ?_)
 ·unfold CW at h
  refine wp rfl (qm rfl (qf BC rfl (ql A4 rfl (AF As rfl (AX rfl (Ac ?_))))))
  refine Ba h (fun h => ?_) fun h => ?_
  ·refine Ai ?_
   refine AS h (fun v4 => mk [(1, oD (.ptr 1 0)), (3, iD v4), (4, iD v1.2)] [(1, .box (AE p0))]) (fun j4 h => ?_) (fun v4 h => ?_)
   ·refine AJ (wq rfl (qf BC rfl (ql A4 rfl (qm rfl ?_))))
    refine BE h fun v5 a5 b5 h => qi As CJ a5 (Af b5) rfl (qk B5 rfl (Ew rfl (Ac ?_)))
    refine Ba h (fun h => ?_) fun h => ?_
    ·refine Ah Ax rfl (qm rfl (AY rfl (qe rfl ?_)))
     exact sn [] h
    ·refine Ai ?_
     exact sn [] h
   ·refine Ah Ax rfl (qm rfl (AY rfl (qe rfl ?_)))
    exact sn [] h
  ·refine AU ?_
   exact sn [] h
 ·refine Ad hs (wq rfl (qa rfl (Ac (wp rfl (qe rfl ?_)))))
  refine AC (L := BK N p0 v2) h (fun v7 => mk [(1, oD (.ptr 1 0)), (3, iD v2), (5, oD (.own 2001)), (6, iD v7.2)] [(1, .box (AE p0)), (2001, .vec 3 (v7.1.map AW))]) (fun v8 => mk [(5, oD (.own 2002))] [(2002, .vec 3 (v8.map AW))]) (fun _ _ => rfl) ((A9 5 2022 3 rfl rfl rfl).trans (sm [(2001, 2022)] _ _ rfl rfl)) (fun j7 n7 v7 h => ?_) (fun v8 s h hs => ?_)
  ·unfold BK at h
   refine wp rfl (qw 2 rfl ?_)
   refine F3 h fun c9 h => Jy rfl c9 (AX rfl (Ac ?_))
   refine Ba h (fun h => ?_) fun h => ?_
   ·refine Ai (AM (AJ (wq rfl (qL Bi AV rfl ?_))))
    refine Bv h fun v11 a11 h => Aw [2003, 2004, 2005] (L2 N p0 v11 a11) cK rfl (qz Ea rfl (qs AV rfl (Ac (wq rfl (qa rfl (Ac (wp rfl (qe rfl ?_))))))))
    refine AC (L := Ca N p0 v7) h (fun v12 => mk [(1, oD (.ptr 1 0)), (3, iD v2), (5, oD (.own 2009)), (6, iD v7.2), (7, oD (.ptr 7 0)), (8, iD v12.2.1), (9, iD v12.2.2)] [(1, .box (AE p0)), (7, .box [.own 2006, .own 2007, .own 2008]), (2006, .vec 1 (v11.fL.map Ak)), (2007, .vec 1 (v12.1.map Ak)), (2008, .vec 1 (v11.fN.map Du)), (2009, .vec 3 (v7.1.map AW))]) (fun v13 => mk [(1, oD (.ptr 1 0)), (3, iD v2), (5, oD (.own 2013)), (6, iD v7.2), (7, oD (.ptr 7 0))] [(1, .box (AE p0)), (7, .box [.own 2010, .own 2011, .own 2012]), (2010, .vec 1 (v11.fL.map Ak)), (2011, .vec 1 (v13.map Ak)), (2012, .vec 1 (v11.fN.map Du)), (2013, .vec 3 (v7.1.map AW))]) (fun _ _ => rfl) (sm [(2006, 2003), (2007, 2004), (2008, 2005), (2009, 2001)] _ _ rfl rfl) (fun j12 n12 v12 h => ?_) (fun v13 s h hs => ?_)
    ·unfold Ca at h
     refine wp rfl (qm rfl (qf BC rfl (ql A4 rfl (AF As rfl (AX rfl (Ac ?_))))))
     refine Ba h (fun h => ?_) fun h => ?_
     ·refine Ai ?_
      refine AS h (fun v15 => mk [(1, oD (.ptr 1 0)), (3, iD v2), (5, oD (.own 2017)), (6, iD v7.2), (7, oD (.ptr 7 0)), (8, iD v15.2), (9, iD v12.2.2)] [(1, .box (AE p0)), (7, .box [.own 2014, .own 2015, .own 2016]), (2014, .vec 1 (v11.fL.map Ak)), (2015, .vec 1 (v15.1.map Ak)), (2016, .vec 1 (v11.fN.map Du)), (2017, .vec 3 (v7.1.map AW))]) (fun j15 h => ?_) (fun v15 h => ?_)
      ·refine AJ (wp rfl (qf BC rfl (ql A4 rfl (qm rfl ?_))))
       refine BE h fun v16 a16 b16 h => qi As CJ a16 (Af b16) rfl (qk B5 rfl (AX rfl (Ac ?_)))
       refine Ba h (fun h => ?_) fun h => ?_
       ·refine AU ?_
        exact sn [(2014, 2006), (2015, 2007), (2016, 2008), (2017, 2009)] h
       ·refine Ai ?_
        refine AS h (fun v18 => mk [(1, oD (.ptr 1 0)), (3, iD v2), (5, oD (.own 2021)), (6, iD v7.2), (7, oD (.ptr 7 0)), (8, iD v12.2.1), (9, iD v12.2.2)] [(1, .box (AE p0)), (7, .box [.own 2018, .own 2019, .own 2020]), (2018, .vec 1 (v11.fL.map Ak)), (2019, .vec 1 (v18.map Ak)), (2020, .vec 1 (v11.fN.map Du)), (2021, .vec 3 (v7.1.map AW))]) (fun j18 h => ?_) (fun v18 h => ?_)
        ·refine wq rfl (qw 2 rfl ?_)
         refine F3 h fun c19 h => GM rfl c19 (MQ rfl (by decide) (B7 rfl (Ac ?_)))
         refine Ba h (fun h => ?_) fun h => ?_
         ·refine Ah Ax rfl (qf BC rfl (ql A4 rfl (qm rfl ?_)))
          refine BE h fun v21 a21 b21 h => qI As CJ a21 (Af b21) rfl ?_
          refine DM rfl rfl rfl rfl (Af b21) rfl CJ rfl (Jt rfl) (DF Ak v12.1 _ ((-1))) ?_
          refine Ac ?_
          exact sn [(2018, 2006), (2019, 2007), (2020, 2008), (2021, 2009)] h
         ·refine Ai ?_
          exact sn [(2018, 2006), (2019, 2007), (2020, 2008), (2021, 2009)] h
        ·refine Ah Ax rfl (qm rfl (AY rfl (qe rfl ?_)))
         exact sn [(2014, 2018), (2015, 2019), (2016, 2020), (2017, 2021)] h
      ·refine Ah Ax rfl (qm rfl (AY rfl (qe rfl ?_)))
       exact sn [(2006, 2014), (2007, 2015), (2008, 2016), (2009, 2017)] h
     ·refine AU ?_
      exact sn [(2010, 2006), (2011, 2007), (2012, 2008), (2013, 2009)] h
    ·refine Ad hs (Ah Ax rfl (qm rfl (qL Bi AV rfl (Dn (Bp 2010 _ _ rfl rfl) (Dn (Bp 2011 _ _ rfl rfl) (Dn (Bp 2012 _ _ rfl rfl) (Dt Eu AV Ea rfl ?_)))))))
     refine F3 h fun c22 h => CP (f := AW) Eu Eu AV Yb Ea c22 rfl (qa rfl (Ac (Ah Ax rfl (qm rfl (AY rfl (qe rfl ?_))))))
     exact sn [(2001, 60)] h
   ·refine AU ?_
    exact sn [(2002, 2001)] h
  ·refine Ad hs (wq rfl (qm rfl (qe rfl ?_)))
   obtain rfl := sj h
   refine Ad (sm [(1000, 2002)] [(2, oD (.own 1000))] [(1000, .vec 3 (v8.map AW))] rfl rfl) (Aq ?_)
   exact ⟨⟨[_], tm, rfl⟩, ⟨rfl, tv⟩⟩
theorem EK (N : Nat) (p0 : Ab) (p1 : Int) (r : Int) (h : B9 N p0 p1 = some r) : Al zA 96 [.e (.agg (AE p0)), iD p1] [] (pD (.val (.int .u8 r))) := by
 unfold B9 at h
 refine cw (n := 27) (rs := [.tmp 4]) Tryz.func96 fun w0 S0 => ?_
 refine wq rfl (qb rfl (qa rfl (Ac (wq rfl (qf CR rfl (ql A4 rfl (qm rfl ?_)))))))
 refine BE h fun v1 a1 b1 h => qi As CJ a1 (Af b1) rfl (qk B5 rfl ?_)
 refine F3 h fun c2 h => Jy rfl c2 (qe rfl ?_)
 refine AS h (fun v3 => mk [(5, pD (.val (.int .u8 v3)))] []) (fun j3 h => ?_) (fun v3 h => ?_)
 ·refine wq rfl (qf BC rfl (ql A4 rfl (qm rfl ?_)))
  refine BE h fun v4 a4 b4 h => qi As CJ a4 (Af b4) rfl (qk B5 rfl (Ew rfl (Ac ?_)))
  refine Ba h (fun h => ?_) fun h => ?_
  ·refine Ah Ax rfl (qm rfl (qf BC rfl (ql A4 rfl (qm rfl ?_))))
   refine BE h fun v6 a6 b6 h => qi As CJ a6 (Af b6) rfl (qk B5 rfl ?_)
   refine F3 h fun c7 h => Jy rfl c7 (Xf rfl (qe rfl ?_))
   exact sn [] h
  ·refine Ai ?_
   exact sn [] h
 ·refine wq rfl (qm rfl (qe rfl ?_))
  obtain rfl := sj h
  refine Ad (sm [] [(4, pD (.val (.int .u8 v3)))] [] rfl rfl) (Aq ?_)
  exact ⟨⟨[_], tm, rfl⟩, tv⟩
theorem G7 (N : Nat) (p0 : Int) (p1 : Int) (r : Bool) (h : CN N p0 p1 = some r) : Al zA 97 [pD (.val (.int .u8 p0)), iD p1] [] (bD r) := by
 unfold CN at h
 refine cw (n := 10) (rs := [.tmp 4]) Tryz.func97 fun w0 S0 => ?_
 refine wq rfl (qa rfl (Ac (wq rfl (qw 2 rfl ?_))))
 refine F3 h fun c1 h => GM rfl c1 (IJ rfl (B7 rfl (qe rfl ?_)))
 obtain rfl := sj h
 refine Ad (sm [] [(4, bD (((AL .u8 ((A0 .u8 p0 p1)) 1) == 1)))] [] rfl rfl) (Aq ?_)
 exact ⟨⟨[_], tm, rfl⟩, tv⟩
theorem ML (N : Nat) (p0 : Aa) (p1 : Ab) (r : (List Ap)) (h : E8 N p0 p1 = some r) : Al zA 132 [.e (.agg (Ag p0)), .e (.agg (AE p1))] [(3, r.map A5)] (oD (.own 0)) := by
 unfold E8 at h
 refine cw (n := 111) (rs := [.tmp 4]) Tryz.func132 fun w0 S0 => ?_
 refine wq rfl (qb rfl (qb rfl (qa rfl (Ac (wq rfl (qa rfl (Ac (wp rfl (qe rfl ?_)))))))))
 refine AC (L := C1 N p0 p1) h (fun v1 => mk [(2, oD (.ptr 2 0)), (3, oD (.ptr 3 0)), (5, oD (.own 2001)), (6, iD v1.2)] [(2, .box (Ag p0)), (3, .box (AE p1)), (2001, .vec 3 (v1.1.map A5))]) (fun v2 => mk [(5, oD (.own 2002))] [(2002, .vec 3 (v2.map A5))]) (fun _ _ => rfl) ((A9 5 2013 3 rfl rfl rfl).trans (sm [(2001, 2013)] _ _ rfl rfl)) (fun j1 n1 v1 h => ?_) (fun v2 s h hs => ?_)
 ·unfold C1 at h
  refine wp rfl (qm rfl (qf Cl rfl (ql Hn rfl (AF DH rfl (AX rfl (Ac ?_))))))
  refine Ba h (fun h => ?_) fun h => ?_
  ·refine Ai (AM (AJ (wq rfl (qf Cl rfl (ql Hn rfl (qm rfl ?_))))))
   refine BE h fun v4 a4 b4 h => qi DH Dv a4 (Af b4) rfl (qK He Dv rfl (qz Jp rfl (qs Dv rfl (Ac (wq rfl (qL Bi AV rfl (qf Dg rfl (ql B5 rfl ?_))))))))
   refine Bv h fun v5 a5 h => Aw [] (EK N p1 v4.fO v5 a5) XE rfl (qe rfl ?_)
   refine AS h (fun v6 => mk [(2, oD (.ptr 2 0)), (3, oD (.ptr 3 0)), (5, oD (.own 2003)), (6, iD v1.2), (7, oD (.ptr 7 0)), (8, pD (.val (.int .u8 v6)))] [(2, .box (Ag p0)), (3, .box (AE p1)), (7, .box (Bf v4)), (2003, .vec 3 (v1.1.map A5))]) (fun j6 h => ?_) (fun v6 h => ?_)
   ·refine wq rfl (qL He Dv rfl ?_)
    refine Bv h fun v7 a7 h => Aw [] (CE N v4 v7 a7) R8 rfl (Ac ?_)
    refine Ba h (fun h => ?_) fun h => ?_
    ·refine Ah Ax rfl (qf CS rfl (ql HE rfl (qm rfl ?_)))
     refine BE h fun v9 a9 b9 h => qi Dz EF a9 (Af b9) rfl (qk Iz rfl (qe rfl ?_))
     exact sn [(2003, 2001)] h
    ·refine Ai ?_
     exact sn [(2003, 2001)] h
   ·refine wq rfl (qe rfl ?_)
    refine AC (L := BU N p0 p1 v1 v4 v6) h (fun v10 => mk [(2, oD (.ptr 2 0)), (3, oD (.ptr 3 0)), (5, oD (.own 2004)), (6, iD v1.2), (7, oD (.ptr 7 0)), (8, pD (.val (.int .u8 v6))), (9, iD v10.2)] [(2, .box (Ag p0)), (3, .box (AE p1)), (7, .box (Bf v4)), (2004, .vec 3 (v10.1.map A5))]) (fun v11 => mk [(2, oD (.ptr 2 0)), (3, oD (.ptr 3 0)), (5, oD (.own 2005)), (6, iD v1.2)] [(2, .box (Ag p0)), (3, .box (AE p1)), (2005, .vec 3 (v11.map A5))]) (fun _ _ => rfl) (sm [(2004, 2003)] _ _ rfl rfl) (fun j10 n10 v10 h => ?_) (fun v11 s h hs => ?_)
    ·unfold BU at h
     refine wp rfl (qm rfl (qf Bd rfl (ql A4 rfl (qf Dg rfl (ql B5 rfl ?_)))))
     refine BE h fun v12 a12 b12 h => qi As CJ a12 (Af b12) rfl (qk B5 rfl (AX rfl (Ac ?_)))
     refine Ba h (fun h => ?_) fun h => ?_
     ·refine Ai ?_
      refine AS h (fun v14 => mk [(2, oD (.ptr 2 0)), (3, oD (.ptr 3 0)), (5, oD (.own 2006)), (6, iD v1.2), (7, oD (.ptr 7 0)), (8, pD (.val (.int .u8 v6))), (9, iD v10.2)] [(2, .box (Ag p0)), (3, .box (AE p1)), (7, .box (Bf v4)), (2006, .vec 3 (v14.map A5))]) (fun j14 h => ?_) (fun v14 h => ?_)
      ·refine AJ (wp rfl (qw 2 rfl ?_))
       refine Bv h fun v15 a15 h => Aw [] (G7 N v6 v10.2 v15 a15) Y5 rfl (Cg rfl (Ac ?_))
       refine Ba h (fun h => ?_) fun h => ?_
       ·refine AU ?_
        exact sn [(2006, 2004)] h
       ·refine Ai (wq rfl (qa rfl (Ac (wp rfl (qe rfl ?_)))))
        refine AC (L := Bu N p0 p1 v1 v4 v10) h (fun v17 => mk [(2, oD (.ptr 2 0)), (3, oD (.ptr 3 0)), (5, oD (.own 2007)), (6, iD v1.2), (7, oD (.ptr 7 0)), (8, pD (.val (.int .u8 v6))), (9, iD v10.2), (10, bD v17.2.1), (11, iD v17.2.2)] [(2, .box (Ag p0)), (3, .box (AE p1)), (7, .box (Bf v4)), (2007, .vec 3 (v17.1.map A5))]) (fun v18 => mk [(2, oD (.ptr 2 0)), (3, oD (.ptr 3 0)), (5, oD (.own 2008)), (6, iD v1.2), (7, oD (.ptr 7 0)), (8, pD (.val (.int .u8 v6))), (9, iD v10.2), (10, bD v18.2)] [(2, .box (Ag p0)), (3, .box (AE p1)), (7, .box (Bf v4)), (2008, .vec 3 (v18.1.map A5))]) (fun _ _ => rfl) (sm [(2007, 2004)] _ _ rfl rfl) (fun j17 n17 v17 h => ?_) (fun v18 s h hs => ?_)
        ·unfold Bu at h
         refine wp rfl (qm rfl (qf Bd rfl (ql A4 rfl (qf H1 rfl (ql B5 rfl ?_)))))
         refine BE h fun v19 a19 b19 h => qi As CJ a19 (Af b19) rfl (qk B5 rfl (AX rfl (Ac ?_)))
         refine Ba h (fun h => ?_) fun h => ?_
         ·refine Ai ?_
          refine AS h (fun v21 => mk [(2, oD (.ptr 2 0)), (3, oD (.ptr 3 0)), (5, oD (.own 2009)), (6, iD v1.2), (7, oD (.ptr 7 0)), (8, pD (.val (.int .u8 v6))), (9, iD v10.2), (10, bD v21.2), (11, iD v17.2.2)] [(2, .box (Ag p0)), (3, .box (AE p1)), (7, .box (Bf v4)), (2009, .vec 3 (v21.1.map A5))]) (fun j21 h => ?_) (fun v21 h => ?_)
          ·refine AJ (wp rfl (qL Bi AV rfl (qf H1 rfl (ql B5 rfl ?_))))
           refine Bv h fun v22 a22 h => Aw [] (EK N p1 v4.fS v22 a22) XE rfl (qm rfl ?_)
           refine Bv h fun v23 a23 h => Aw [] (G7 N v22 v17.2.2 v23 a23) Y5 rfl (Cg rfl (Ac ?_))
           refine Ba h (fun h => ?_) fun h => ?_
           ·refine AU ?_
            exact sn [(2009, 2007)] h
           ·refine Ai ?_
            refine AS h (fun v25 => mk [(2, oD (.ptr 2 0)), (3, oD (.ptr 3 0)), (5, oD (.own 2010)), (6, iD v1.2), (7, oD (.ptr 7 0)), (8, pD (.val (.int .u8 v6))), (9, iD v10.2), (10, bD v25), (11, iD v17.2.2)] [(2, .box (Ag p0)), (3, .box (AE p1)), (7, .box (Bf v4)), (2010, .vec 3 (v17.1.map A5))]) (fun j25 h => ?_) (fun v25 h => ?_)
            ·refine Ah Ax rfl (qw 2 rfl ?_)
             refine D4 67 h rfl (fun h => ?_) fun h => ?_
             ·refine qw 8 rfl (qp rfl (qe rfl ?_))
              exact sn [(2010, 2007)] h
             ·refine qf Hx rfl (ql IL rfl (qm rfl ?_))
              refine BE h fun v27 a27 b27 h => qi EM Kd a27 (Af b27) rfl (qk O3 rfl (qm rfl ?_))
              refine BE h fun v28 a28 b28 h => qi Fw PQ a28 (Af b28) rfl (qk Un rfl (qp rfl (qe rfl ?_)))
              exact sn [(2010, 2007)] h
            ·refine AS h (fun v29 => mk [(2, oD (.ptr 2 0)), (3, oD (.ptr 3 0)), (5, oD (.own 2011)), (6, iD v1.2), (7, oD (.ptr 7 0)), (8, pD (.val (.int .u8 v6))), (9, iD v10.2), (10, bD v25), (11, iD v17.2.2), (90, bD v29)] [(2, .box (Ag p0)), (3, .box (AE p1)), (7, .box (Bf v4)), (2011, .vec 3 (v17.1.map A5))]) (fun j29 h => ?_) (fun v29 h => ?_)
             ·refine Ah Ax rfl (qf JQ rfl (ql Un rfl (Cg rfl (qm rfl ?_))))
              refine D4 80 h rfl (fun h => ?_) fun h => ?_
              ·refine qf Hx rfl (ql IL rfl (qm rfl ?_))
               refine BE h fun v31 a31 b31 h => qi EM Kd a31 (Af b31) rfl (qk O3 rfl (qm rfl ?_))
               refine BE h fun v32 a32 b32 h => qi Fw PQ a32 (Af b32) rfl (qk Un rfl (Cg rfl (qp rfl (Ac ?_))))
               exact sn [(2011, 2010)] h
              ·refine qw 9 rfl (qp rfl (Ac ?_))
               exact sn [(2011, 2010)] h
             ·refine Ba h (fun h => ?_) fun h => ?_
              ·refine Ah Ax rfl (qw 4 rfl (Bm JB RD rfl (Dt H5 Jd JB rfl ?_)))
               refine F3 h fun c34 h => CP (f := A5) H5 H5 Jd SB JB c34 rfl (qe rfl ?_)
               exact sn [(2009, 97)] h
              ·refine Ai ?_
               exact sn [(2009, 2011)] h
          ·refine Ah Ax rfl (qm rfl (AY rfl (qe rfl ?_)))
           exact sn [(2007, 2009)] h
         ·refine AU ?_
          exact sn [(2008, 2007)] h
        ·refine Ad hs ?_
         refine AS h (fun v35 => mk [(2, oD (.ptr 2 0)), (3, oD (.ptr 3 0)), (5, oD (.own 2012)), (6, iD v1.2), (7, oD (.ptr 7 0)), (8, pD (.val (.int .u8 v6))), (9, iD v10.2), (103, bD v35)] [(2, .box (Ag p0)), (3, .box (AE p1)), (7, .box (Bf v4)), (2012, .vec 3 (v18.1.map A5))]) (fun j35 h => ?_) (fun v35 h => ?_)
         ·refine Ah Ax rfl (qf JQ rfl (ql Un rfl (qm rfl ?_)))
          refine D4 100 h rfl (fun h => ?_) fun h => ?_
          ·refine qm rfl (Cg rfl (qp rfl (Ac ?_)))
           exact sn [(2012, 2008)] h
          ·refine qw 2 rfl (qp rfl (Ac ?_))
           exact sn [(2012, 2008)] h
         ·refine Ba h (fun h => ?_) fun h => ?_
          ·refine Ah Ax rfl (qw 3 rfl (Bm JB RD rfl (Dt H5 Jd JB rfl ?_)))
           refine F3 h fun c38 h => CP (f := A5) H5 H5 Jd SB JB c38 rfl (qe rfl ?_)
           exact sn [(2006, 109)] h
          ·refine Ai ?_
           exact sn [(2006, 2012)] h
      ·refine Ah Ax rfl (qm rfl (AY rfl (qe rfl ?_)))
       exact sn [(2004, 2006)] h
     ·refine AU ?_
      exact sn [(2005, 2004)] h
    ·refine Ad hs (Ah Ax rfl (qm rfl (AY rfl (qe rfl ?_))))
     exact sn [(2001, 2005)] h
  ·refine AU ?_
   exact sn [(2002, 2001)] h
 ·refine Ad hs (wq rfl (qm rfl (qe rfl ?_)))
  obtain rfl := sj h
  refine Ad (sm [(1000, 2002)] [(4, oD (.own 1000))] [(1000, .vec 3 (v2.map A5))] rfl rfl) (Aq ?_)
  exact ⟨⟨[_], tm, rfl⟩, ⟨rfl, tv⟩⟩
theorem L3 (N : Nat) (p0 : Aa) (p1 : Ab) (r : Bool) (h : EJ N p0 p1 = some r) : Al zA 94 [.e (.agg (Ag p0)), .e (.agg (AE p1))] [] (bD r) := by
 unfold EJ at h
 refine cw (n := 10) (rs := [.tmp 4]) Tryz.func94 fun w0 S0 => ?_
 refine wq rfl (qb rfl (qb rfl (qa rfl (Ac (wq rfl (qL Ct BQ rfl (qL Bi AV rfl ?_)))))))
 refine Bv h fun v1 a1 h => Aw [2001] (ML N p0 p1 v1 a1) dW rfl (Fm H5 rfl (B7 rfl (qe rfl ?_)))
 obtain rfl := sj h
 refine Ad (sm [] [(4, bD (((v1.length : Int) == 0)))] [] rfl rfl) (Aq ?_)
 exact ⟨⟨[_], tm, rfl⟩, tv⟩
theorem Et (N : Nat) (p0 : Aa) (p1 : Ab) (r : Bool) (h : BJ N p0 p1 = some r) : Al zA 60 [.e (.agg (Ag p0)), .e (.agg (AE p1))] [] (bD r) := by
 unfold BJ at h
 refine cw (n := 22) (rs := [.tmp 4]) Tryz.func60 fun w0 S0 => ?_
 refine wq rfl (qb rfl (qb rfl (qa rfl (Ac (wq rfl (qL Bi AV rfl ?_))))))
 refine Bv h fun v1 a1 h => Aw [2001] (N1 N p1 v1 a1) eN rfl (qa rfl (Ac (wp rfl (qe rfl ?_))))
 refine AC (L := Cj N p0 v1) h (fun v2 => mk [(2, oD (.ptr 2 0)), (5, oD (.own 2002)), (6, iD v2)] [(2, .box (Ag p0)), (2002, .vec 3 (v1.map AW))]) (fun v3 => mk [] []) (fun _ _ => rfl) (sm [(2002, 2001)] _ _ rfl rfl) (fun j2 n2 v2 h => ?_) (fun v3 s h hs => ?_)
 ·unfold Cj at h
  refine wp rfl (qw 2 rfl (Fm Eu rfl (AX rfl (Ac ?_))))
  refine Ba h (fun h => ?_) fun h => ?_
  ·refine Ai (AM (AJ (wq rfl (qL Ct BQ rfl (qw 2 rfl ?_)))))
   refine BE h fun v5 a5 b5 h => qI Eu AV a5 (Af b5) rfl (qJ Bi AV (Af b5) rfl ?_)
   refine Bv h fun v6 a6 h => Aw [] (L3 N p0 v5 v6 a6) ff rfl (Cg rfl (AK (by kernel_rfl) ?_))
   refine Ba h (fun h => ?_) fun h => ?_
   ·refine wq rfl (qe rfl ?_)
    obtain rfl := sj h
    refine Ad (sm [] [(4, bD false)] [] rfl rfl) (Aq ?_)
    exact ⟨⟨[_], tm, rfl⟩, tv⟩
   ·refine Ai (Ah Ax rfl (qm rfl (AY rfl (qe rfl ?_))))
    exact sn [] h
  ·refine AU ?_
   exact sn [] h
 ·refine Ad hs (wq rfl (qe rfl ?_))
  obtain rfl := sj h
  refine Ad (sm [] [(4, bD true)] [] rfl rfl) (Aq ?_)
  exact ⟨⟨[_], tm, rfl⟩, tv⟩
end Go.Lift
