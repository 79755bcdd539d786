/- Lemmas for CoreAllCardSaid, which YtbfklmmnpdifaaaGreatDoorFinC6 proves. -/
import Derived.Test.YtbfklmmnpdifaaaGreatDoorTypes
import Derived.Test.YtbfklmmnpdifaaaGreatDoorProg
import Derived.KernelRfl
open Int renaming tmod → zX
open List renaming append → yY, replicate → zH
open Nat renaming min → y9
open Go.Proofs.Tryz renaming prog → zA
namespace Go.Lift
open IntKind renaming wrap → wI
def Ex (_ : Nat) (p0 : List Int) (p1 : Int) : Option Int :=
 AO ((decide (p1 < (p0.length : Int))))
  ((Bj p0 p1).bind fun v2 =>
  some ((wI .i64 v2)))
  (some 0)
def Ba (_ : Nat) (p0 : An) : Option Bool :=
 Bd (fun (v1 : Bool) =>
  some v1)
 fun j1 =>
 AO ((p0.fg == 3))
  (j1 true)
  (j1 (p0.fg == 4))
def Cv (N : Nat) (p1 : Int) (p2 : Int) (p3 : Bool) (v1 : (List (List Bool)) × Int) (j4 : ((List Bool)) → Option ((List (List Bool)))) : Nat → ((List Bool) × Int) → Option ((List (List Bool)))
 | 0, _ => none
 | n4 + 1, v4 =>
  AO ((decide (v4.2 < p1)))
   (Bd (fun (v7 : (List Bool)) =>
    Cv N p1 p2 p3 v1 j4 n4 (v7, (wI .i64 (v4.2 + 1))))
   fun j7 =>
   AO p3
    (AO ((v1.2 == v4.2))
     ((DI (v4.1.length + (([true] : List Bool)).length ≤ C4)).bind fun _ =>
     j7 (v4.1 ++ (([true] : List Bool))))
     ((DI (0 ≤ (wI .i64 ((wI .i64 (3 * v1.2)) + v4.2)))).bind fun _ =>
     (DI (v4.1.length + (([((zX ((AZ .u16 p2 ((wI .i64 ((wI .i64 (3 * v1.2)) + v4.2))))) 2) == 0)] : List Bool)).length ≤ C4)).bind fun _ =>
     j7 (v4.1 ++ (([((zX ((AZ .u16 p2 ((wI .i64 ((wI .i64 (3 * v1.2)) + v4.2))))) 2) == 0)] : List Bool)))))
    ((DI (0 ≤ (wI .i64 ((wI .i64 (3 * v1.2)) + v4.2)))).bind fun _ =>
    (DI (v4.1.length + (([((zX ((AZ .u16 p2 ((wI .i64 ((wI .i64 (3 * v1.2)) + v4.2))))) 2) == 0)] : List Bool)).length ≤ C4)).bind fun _ =>
    j7 (v4.1 ++ (([((zX ((AZ .u16 p2 ((wI .i64 ((wI .i64 (3 * v1.2)) + v4.2))))) 2) == 0)] : List Bool)))))
   (j4 v4.1)
def Ct (N : Nat) (p0 : Int) (p1 : Int) (p2 : Int) (p3 : Bool) (j1 : ((List (List Bool))) → Option ((List (List Bool)))) : Nat → ((List (List Bool)) × Int) → Option ((List (List Bool)))
 | 0, _ => none
 | n1 + 1, v1 =>
  AO ((decide (v1.2 < p0)))
   (Cv N p1 p2 p3 v1 (fun (v5 : (List Bool)) =>
    (DI (v1.1.length + (([v5] : List (List Bool))).length ≤ C4)).bind fun _ =>
    Ct N p0 p1 p2 p3 j1 n1 (v1.1 ++ (([v5] : List (List Bool))), (wI .i64 (v1.2 + 1)))) N (([] : List Bool), 0))
   (j1 v1.1)
def Ew (N : Nat) (p0 : Int) (p1 : Int) (p2 : Int) (p3 : Bool) : Option ((List (List Bool))) :=
 Ct N p0 p1 p2 p3 (fun (v2 : (List (List Bool))) =>
  some v2) N (([] : List (List Bool)), 0)
def C1 (N : Nat) (p0 : BJ) (j4 : ((List Int) × (List Int) × (List Int)) → Option (Aa × Bool)) : Nat → ((List Int) × (List Int) × (List Int) × Int) → Option (Aa × Bool)
 | 0, _ => none
 | n4 + 1, v4 =>
  AO ((decide (v4.2.2.2 < (p0.fb.length : Int))))
   ((Bj p0.fb v4.2.2.2).bind fun v7 =>
   (DI (v4.1.length + (([(wI .i64 (1 + (wI .i64 ((zX v7 3)))))] : List Int)).length ≤ C4)).bind fun _ =>
   (Ex N p0.fj v4.2.2.2).bind fun v9 =>
   (DI ((wI .i64 (1 + (wI .i64 ((zX v7 3))))) ≠ 0)).bind fun _ =>
   (DI (v4.2.1.length + (([(zX v9 ((wI .i64 (1 + (wI .i64 ((zX v7 3)))))))] : List Int)).length ≤ C4)).bind fun _ =>
   (Ex N p0.fo v4.2.2.2).bind fun v12 =>
   (DI ((wI .i64 (1 + (wI .i64 ((zX v7 3))))) ≠ 0)).bind fun _ =>
   (DI (v4.2.2.1.length + (([(zX v12 ((wI .i64 (1 + (wI .i64 ((zX v7 3)))))))] : List Int)).length ≤ C4)).bind fun _ =>
   C1 N p0 j4 n4 (v4.1 ++ (([(wI .i64 (1 + (wI .i64 ((zX v7 3)))))] : List Int)), v4.2.1 ++ (([(zX v9 ((wI .i64 (1 + (wI .i64 ((zX v7 3)))))))] : List Int)), v4.2.2.1 ++ (([(zX v12 ((wI .i64 (1 + (wI .i64 ((zX v7 3)))))))] : List Int)), (wI .i64 (v4.2.2.2 + 1))))
   (j4 (v4.1, v4.2.1, v4.2.2.1))
def BE (N : Nat) (p0 : BJ) (v5 : (List Int) × (List Int) × (List Int)) (j15 : ((List An)) → Option (Aa × Bool)) : Nat → ((List An) × Int) → Option (Aa × Bool)
 | 0, _ => none
 | n15 + 1, v15 =>
  Bd (fun (v17 : Bool) =>
   AO v17
    ((Bj p0.fw v15.2).bind fun v20 =>
    (DI ((v5.1.length : Int) ≠ 0)).bind fun _ =>
    (DI ((v5.1.length : Int) ≠ 0)).bind fun _ =>
    Bd (fun (v23 : Bool) =>
     (Bj v5.1 ((zX ((wI .i64 v20.fh)) ((v5.1.length : Int))))).bind fun v26 =>
     (Bj v5.1 ((zX ((wI .i64 v20.fk)) ((v5.1.length : Int))))).bind fun v27 =>
     (Ew N v26 v27 v20.fy false).bind fun v28 =>
     Bd (fun (v29 : (List (List Bool))) =>
      (DI (v15.1.length + (([(An.mk ((wI .i64 (1 + (wI .i64 ((zX v20.fg 4)))))) ((zX ((wI .i64 v20.fh)) ((v5.1.length : Int)))) ((zX ((wI .i64 v20.fk)) ((v5.1.length : Int)))) v23 v28 v29)] : List An)).length ≤ C4)).bind fun _ =>
      BE N p0 v5 j15 n15 (v15.1 ++ (([(An.mk ((wI .i64 (1 + (wI .i64 ((zX v20.fg 4)))))) ((zX ((wI .i64 v20.fh)) ((v5.1.length : Int)))) ((zX ((wI .i64 v20.fk)) ((v5.1.length : Int)))) v23 v28 v29)] : List An)), (wI .i64 (v15.2 + 1))))
     fun j29 =>
     AO (((wI .i64 (1 + (wI .i64 ((zX v20.fg 4))))) == 4))
      ((Bj v5.1 ((zX ((wI .i64 v20.fh)) ((v5.1.length : Int))))).bind fun v31 =>
      (Bj v5.1 ((zX ((wI .i64 v20.fh)) ((v5.1.length : Int))))).bind fun v32 =>
      (Ew N v31 v32 v20.fA true).bind fun v33 =>
      j29 v33)
      (j29 ([] : List (List Bool))))
    fun j23 =>
    AO v20.ft
     ((Ba N ((An.mk ((wI .i64 (1 + (wI .i64 ((zX v20.fg 4)))))) ((zX ((wI .i64 v20.fh)) ((v5.1.length : Int)))) ((zX ((wI .i64 v20.fk)) ((v5.1.length : Int)))) false (([] : List (List Bool))) (([] : List (List Bool)))))).bind fun v25 =>
     j23 (!v25))
     (j23 false))
    (j15 v15.1))
  fun j17 =>
  AO ((decide (v15.2 < (p0.fw.length : Int))))
   (j17 (decide (0 < (v5.1.length : Int))))
   (j17 false)
def FW (N : Nat) (p0 : BJ) : Option (Aa × Bool) :=
 Bd (fun (v1 : Bool) =>
  AO v1
   (some ((Aa.mk (([] : List Int)) (([] : List Int)) (([] : List Int)) (([] : List An))), false))
   (C1 N p0 (fun (v5 : (List Int) × (List Int) × (List Int)) =>
    BE N p0 v5 (fun (v16 : (List An)) =>
     some ((Aa.mk v5.1 v5.2.1 v5.2.2 v16), true)) N (([] : List An), 0)) N (([] : List Int), ([] : List Int), ([] : List Int), 0)))
 fun j1 =>
 AO ((decide (3 < (p0.fb.length : Int))))
  (j1 true)
  (j1 (decide (4 < (p0.fw.length : Int))))
def CC (N : Nat) (p0 : List (List Bool)) (p1 : Int) (p2 : Int) (j2 : Unit → Option Bool) : Nat → Int → Option Bool
 | 0, _ => none
 | n2 + 1, v2 =>
  AO ((decide (v2 < p1)))
   ((Bj p0 v2).bind fun v5 =>
   AO (((v5.length : Int) != p2))
    (some false)
    (CC N p0 p1 p2 j2 n2 (wI .i64 (v2 + 1))))
   (j2 ())
def DX (N : Nat) (p0 : List (List Bool)) (p1 : Int) (p2 : Int) : Option Bool :=
 AO (((p0.length : Int) != p1))
  (some false)
  (CC N p0 p1 p2 (fun (_ : Unit) =>
   some true) N 0)
def Cc (N : Nat) (p1 : An) (j22 : Unit → Option Int) : Nat → Int → Option Int
 | 0, _ => none
 | n22 + 1, v22 =>
  AO ((decide (v22 < (p1.fm.length : Int))))
   ((Bj p1.fm v22).bind fun v25 =>
   (Bj v25 v22).bind fun v26 =>
   AO ((!v26))
    (some 1)
    (Cc N p1 j22 n22 (wI .i64 (v22 + 1))))
   (j22 ())
def E8 (N : Nat) (p0 : Aa) (p1 : An) : Option Int :=
 Bd (fun (v1 : Bool) =>
  AO v1
   (some 1)
   (Bd (fun (v7 : Bool) =>
    AO v7
     (some 4)
     ((Bj p0.fb p1.fh).bind fun v12 =>
     (Bj p0.fb p1.fk).bind fun v13 =>
     (DX N p1.fr v12 v13).bind fun v14 =>
     AO ((!v14))
      (some 6)
      (AO ((p1.fg != 4))
       (AO (((p1.fm.length : Int) != 0))
        (some 6)
        (some 0))
       ((Bj p0.fb p1.fh).bind fun v18 =>
       (Bj p0.fb p1.fh).bind fun v19 =>
       (DX N p1.fm v18 v19).bind fun v20 =>
       AO ((!v20))
        (some 6)
        (Cc N p1 (fun (_ : Unit) =>
         some 0) N 0)))))
   fun j7 =>
   AO ((decide (p1.fh < 0)))
    (j7 true)
    (AO ((decide ((p0.fb.length : Int) ≤ p1.fh)))
     (j7 true)
     (AO ((decide (p1.fk < 0)))
      (j7 true)
      (j7 (decide ((p0.fb.length : Int) ≤ p1.fk)))))))
 fun j1 =>
 AO ((decide (p1.fg < 1)))
  (j1 true)
  (AO ((decide (4 < p1.fg)))
   (j1 true)
   (AO p1.ft
    ((Ba N p1).bind fun v5 =>
    j1 v5)
    (j1 false)))
def Bm (N : Nat) (p0 : Aa) (j7 : Unit → Option Int) : Nat → Int → Option Int
 | 0, _ => none
 | n7 + 1, v7 =>
  AO ((decide (v7 < (p0.fb.length : Int))))
   ((Bj p0.fb v7).bind fun v10 =>
   Bd (fun (v11 : Bool) =>
    AO v11
     (some 7)
     (Bm N p0 j7 n7 (wI .i64 (v7 + 1))))
   fun j11 =>
   AO ((decide (v10 < 1)))
    (j11 true)
    (AO ((decide (6 < v10)))
     (j11 true)
     ((Bj p0.fj v7).bind fun v14 =>
     AO ((decide (v14 < 0)))
      (j11 true)
      ((Bj p0.fj v7).bind fun v16 =>
      AO ((decide (v10 ≤ v16)))
       (j11 true)
       ((Bj p0.fo v7).bind fun v18 =>
       AO ((decide (v18 < 0)))
        (j11 true)
        ((Bj p0.fo v7).bind fun v20 =>
        j11 (decide (v10 ≤ v20))))))))
   (j7 ())
def Bh (N : Nat) (p0 : Aa) (j22 : Unit → Option Int) : Nat → Int → Option Int
 | 0, _ => none
 | n22 + 1, v22 =>
  AO ((decide (v22 < (p0.fd.length : Int))))
   ((Bj p0.fd v22).bind fun v25 =>
   (E8 N p0 v25).bind fun v26 =>
   AO ((v26 != 0))
    (some v26)
    (Bh N p0 j22 n22 (wI .i64 (v22 + 1))))
   (j22 ())
def Br (N : Nat) (p0 : Aa) : Option Int :=
 Bd (fun (v1 : Bool) =>
  AO v1
   (some 3)
   (Bd (fun (v4 : Bool) =>
    AO v4
     (some 6)
     (Bm N p0 (fun (_ : Unit) =>
      Bh N p0 (fun (_ : Unit) =>
       some 0) N 0) N 0))
   fun j4 =>
   AO (((p0.fj.length : Int) != (p0.fb.length : Int)))
    (j4 true)
    (j4 ((p0.fo.length : Int) != (p0.fb.length : Int)))))
 fun j1 =>
 AO ((decide (6 < (p0.fb.length : Int))))
  (j1 true)
  (j1 (decide (12 < (p0.fd.length : Int))))
def FJ (N : Nat) (p0 : Int) (j1 : ((List Int)) → Option ((List Int))) : Nat → ((List Int) × Int) → Option ((List Int))
 | 0, _ => none
 | n1 + 1, v1 =>
  (DI (0 ≤ v1.2)).bind fun _ =>
  AO ((decide (0 < (AZ .i64 p0 v1.2))))
   (Bd (fun (v5 : (List Int)) =>
    FJ N p0 j1 n1 (v5, (wI .i64 (v1.2 + 1))))
   fun j5 =>
   (DI (0 ≤ v1.2)).bind fun _ =>
   AO (((zX ((AZ .i64 p0 v1.2)) 2) == 1))
    ((DI (v1.1.length + (([v1.2] : List Int)).length ≤ C4)).bind fun _ =>
    j5 (v1.1 ++ (([v1.2] : List Int))))
    (j5 v1.1))
   (j1 v1.1)
def HX (N : Nat) (p0 : Int) : Option ((List Int)) :=
 FJ N p0 (fun (v2 : (List Int)) =>
  some v2) N (([] : List Int), 0)
def EW (N : Nat) (p0 : List Int) (p1 : List Int) (j2 : Unit → Option Bool) : Nat → Int → Option Bool
 | 0, _ => none
 | n2 + 1, v2 =>
  AO ((decide (v2 < (p0.length : Int))))
   ((Bj p0 v2).bind fun v5 =>
   (Bj p1 v2).bind fun v6 =>
   AO ((v5 != v6))
    ((Bj p0 v2).bind fun v8 =>
    (Bj p1 v2).bind fun v9 =>
    some ((decide (v8 < v9))))
    (EW N p0 p1 j2 n2 (wI .i64 (v2 + 1))))
   (j2 ())
def GZ (N : Nat) (p0 : List Int) (p1 : List Int) : Option Bool :=
 AO (((p0.length : Int) != (p1.length : Int)))
  (some ((decide ((p0.length : Int) < (p1.length : Int)))))
  (EW N p0 p1 (fun (_ : Unit) =>
   some false) N 0)
def Fr (N : Nat) (j7 : ((List (List Int))) → Option ((List (List Int)))) : Nat → ((List (List Int)) × Int) → Option ((List (List Int)))
 | 0, _ => none
 | n7 + 1, v7 =>
  Bd (fun (v9 : Bool) =>
   AO v9
    ((Bj v7.1 ((wI .i64 (v7.2 - 1)))).bind fun v15 =>
    (Bj v7.1 v7.2).bind fun v16 =>
    (Bj v7.1 v7.2).bind fun _ =>
    (Bj (v7.1.set ((v7.2).toNat) v15) ((wI .i64 (v7.2 - 1)))).bind fun _ =>
    Fr N j7 n7 ((v7.1.set ((v7.2).toNat) v15).set (((wI .i64 (v7.2 - 1))).toNat) v16, (wI .i64 (v7.2 - 1))))
    (j7 v7.1))
  fun j9 =>
  AO ((decide (0 < v7.2)))
   ((Bj v7.1 v7.2).bind fun v11 =>
   (Bj v7.1 ((wI .i64 (v7.2 - 1)))).bind fun v12 =>
   (GZ N v11 v12).bind fun v13 =>
   j9 v13)
   (j9 false)
def Fs (N : Nat) (p0 : Int) (j1 : ((List (List Int))) → Option ((List (List Int)))) : Nat → ((List (List Int)) × Int) → Option ((List (List Int)))
 | 0, _ => none
 | n1 + 1, v1 =>
  (DI (0 ≤ p0)).bind fun _ =>
  AO ((decide (v1.2 < (D1 .i64 1 p0))))
   ((HX N v1.2).bind fun v5 =>
   (DI (v1.1.length + (([v5] : List (List Int))).length ≤ C4)).bind fun _ =>
   Fr N (fun (v8 : (List (List Int))) =>
    Fs N p0 j1 n1 (v8, (wI .i64 (v1.2 + 1)))) N (v1.1 ++ (([v5] : List (List Int))), (wI .i64 (((v1.1 ++ (([v5] : List (List Int)))).length : Int) - 1))))
   (j1 v1.1)
def CK (N : Nat) (p0 : Int) : Option ((List (List Int))) :=
 Fs N p0 (fun (v2 : (List (List Int))) =>
  some v2) N (([] : List (List Int)), 0)
def Ch (N : Nat) (p0 : List Int) (p1 : Int) (j1 : Unit → Option Int) : Nat → Int → Option Int
 | 0, _ => none
 | n1 + 1, v1 =>
  AO ((decide (v1 < (p0.length : Int))))
   ((Bj p0 v1).bind fun v4 =>
   AO ((v4 == p1))
    (some v1)
    (Ch N p0 p1 j1 n1 (wI .i64 (v1 + 1))))
   (j1 ())
def Ef (N : Nat) (p0 : List Int) (p1 : Int) : Option Int :=
 Ch N p0 p1 (fun (_ : Unit) =>
  some ((-1))) N 0
def CE (N : Nat) (p0 : List (List Bool)) (j1 : ((List (List Bool))) → Option ((List (List Bool)))) : Nat → ((List (List Bool)) × Int) → Option ((List (List Bool)))
 | 0, _ => none
 | n1 + 1, v1 =>
  AO ((decide (v1.2 < (p0.length : Int))))
   ((Bj p0 v1.2).bind fun v4 =>
   (DI ((([] : List Bool)).length + v4.length ≤ C4)).bind fun _ =>
   (DI (v1.1.length + (([(([] : List Bool)) ++ v4] : List (List Bool))).length ≤ C4)).bind fun _ =>
   CE N p0 j1 n1 (v1.1 ++ (([(([] : List Bool)) ++ v4] : List (List Bool))), (wI .i64 (v1.2 + 1))))
   (j1 v1.1)
def DT (N : Nat) (p0 : List (List Bool)) : Option ((List (List Bool))) :=
 CE N p0 (fun (v2 : (List (List Bool))) =>
  some v2) N (([] : List (List Bool)), 0)
def FD (N : Nat) (p0 : An) (p1 : Int) (p2 : Int) : Option An :=
 (DT N p0.fr).bind fun v1 =>
 (DT N p0.fm).bind fun v2 =>
 some ((An.mk p0.fg p1 p2 p0.ft v1 v2))
def A1 (N : Nat) (p1 : List Int) (j3 : Unit → Option (Aa × Int)) : Nat → Int → Option (Aa × Int)
 | 0, _ => none
 | n3 + 1, v3 =>
  AO ((decide (v3 < (p1.length : Int))))
   ((Bj p1 v3).bind fun v6 =>
   (Bj p1 ((wI .i64 (v3 - 1)))).bind fun v7 =>
   AO ((decide (v6 ≤ v7)))
    (some ((Aa.mk (([] : List Int)) (([] : List Int)) (([] : List Int)) (([] : List An))), 1))
    (A1 N p1 j3 n3 (wI .i64 (v3 + 1))))
   (j3 ())
def CM (N : Nat) (p0 : Aa) (p1 : List Int) (j9 : ((List Int) × (List Int) × (List Int)) → Option (Aa × Int)) : Nat → ((List Int) × (List Int) × (List Int) × Int) → Option (Aa × Int)
 | 0, _ => none
 | n9 + 1, v9 =>
  AO ((decide (v9.2.2.2 < (p1.length : Int))))
   ((Bj p1 v9.2.2.2).bind fun v12 =>
   Bd (fun (v13 : Bool) =>
    AO v13
     (some ((Aa.mk (([] : List Int)) (([] : List Int)) (([] : List Int)) (([] : List An))), 4))
     ((Bj p0.fb v12).bind fun v16 =>
     (DI (v9.1.length + (([v16] : List Int)).length ≤ C4)).bind fun _ =>
     (Bj p0.fj v12).bind fun v18 =>
     (DI (v9.2.1.length + (([v18] : List Int)).length ≤ C4)).bind fun _ =>
     (Bj p0.fo v12).bind fun v20 =>
     (DI (v9.2.2.1.length + (([v20] : List Int)).length ≤ C4)).bind fun _ =>
     CM N p0 p1 j9 n9 (v9.1 ++ (([v16] : List Int)), v9.2.1 ++ (([v18] : List Int)), v9.2.2.1 ++ (([v20] : List Int)), (wI .i64 (v9.2.2.2 + 1)))))
   fun j13 =>
   AO ((decide (v12 < 0)))
    (j13 true)
    (j13 (decide ((p0.fb.length : Int) ≤ v12))))
   (j9 (v9.1, v9.2.1, v9.2.2.1))
def BH (N : Nat) (p0 : Aa) (p1 : List Int) (j22 : ((List An)) → Option (Aa × Int)) : Nat → ((List An) × Int) → Option (Aa × Int)
 | 0, _ => none
 | n22 + 1, v22 =>
  AO ((decide (v22.2 < (p0.fd.length : Int))))
   (Bd (fun (v25 : (List An)) =>
    BH N p0 p1 j22 n22 (v25, (wI .i64 (v22.2 + 1))))
   fun j25 =>
   (Bj p0.fd v22.2).bind fun v26 =>
   (Ef N p1 v26.fh).bind fun v27 =>
   (Ef N p1 v26.fk).bind fun v28 =>
   Bd (fun (v29 : Bool) =>
    AO v29
     ((FD N v26 v27 v28).bind fun v32 =>
     (DI (v22.1.length + (([v32] : List An)).length ≤ C4)).bind fun _ =>
     j25 (v22.1 ++ (([v32] : List An))))
     (j25 v22.1))
   fun j29 =>
   AO ((decide (0 ≤ v27)))
    (j29 (decide (0 ≤ v28)))
    (j29 false))
   (j22 v22.1)
def Dq (N : Nat) (p0 : Aa) (p1 : List Int) : Option (Aa × Int) :=
 (Br N p0).bind fun v1 =>
 AO ((v1 != 0))
  (some ((Aa.mk (([] : List Int)) (([] : List Int)) (([] : List Int)) (([] : List An))), v1))
  (A1 N p1 (fun (_ : Unit) =>
   CM N p0 p1 (fun (v10 : (List Int) × (List Int) × (List Int)) =>
    BH N p0 p1 (fun (v23 : (List An)) =>
     some ((Aa.mk v10.1 v10.2.1 v10.2.2 v23), 0)) N (([] : List An), 0)) N (([] : List Int), ([] : List Int), ([] : List Int), 0)) N 1)
def Cj (N : Nat) (p0 : Aa) (j3 : ((List Int) × (List Int)) → Option (Ac × Int)) : Nat → ((List Int) × (List Int) × Int) → Option (Ac × Int)
 | 0, _ => none
 | n3 + 1, v3 =>
  AO ((decide (v3.2.2 < (p0.fb.length : Int))))
   ((Bj p0.fj v3.2.2).bind fun v6 =>
   (DI (v3.1.length + (([v6] : List Int)).length ≤ C4)).bind fun _ =>
   (DI (v3.2.1.length + (([(-1)] : List Int)).length ≤ C4)).bind fun _ =>
   Cj N p0 j3 n3 (v3.1 ++ (([v6] : List Int)), v3.2.1 ++ (([(-1)] : List Int)), (wI .i64 (v3.2.2 + 1))))
   (j3 (v3.1, v3.2.1))
def Bp (N : Nat) (p0 : Aa) (j9 : ((List Int)) → Option (Ac × Int)) : Nat → ((List Int) × Int) → Option (Ac × Int)
 | 0, _ => none
 | n9 + 1, v9 =>
  AO ((decide (v9.2 < (p0.fd.length : Int))))
   (Bd (fun (v12 : Int) =>
    (DI (v9.1.length + (([v12] : List Int)).length ≤ C4)).bind fun _ =>
    Bp N p0 j9 n9 (v9.1 ++ (([v12] : List Int)), (wI .i64 (v9.2 + 1))))
   fun j12 =>
   (Bj p0.fd v9.2).bind fun v13 =>
   (Ba N v13).bind fun v14 =>
   AO v14
    ((Bj p0.fd v9.2).bind fun v16 =>
    (Bj p0.fj v16.fh).bind fun v17 =>
    (DI (0 ≤ v17)).bind fun _ =>
    j12 (D1 .u8 1 v17))
    (j12 0))
   (j9 v9.1)
def Ee (N : Nat) (p0 : Aa) : Option (Ac × Int) :=
 (Br N p0).bind fun v1 =>
 AO ((v1 != 0))
  (some ((Ac.mk (([] : List Int)) (([] : List Int)) (([] : List Int))), v1))
  (Cj N p0 (fun (v4 : (List Int) × (List Int)) =>
   Bp N p0 (fun (v10 : (List Int)) =>
    some ((Ac.mk v4.1 v4.2 v10), 0)) N (([] : List Int), 0)) N (([] : List Int), ([] : List Int), 0))
def EK (_ : Nat) (p0 : Ac) : Option Ac :=
 (DI ((([] : List Int)).length + p0.fe.length ≤ C4)).bind fun _ =>
 (DI ((([] : List Int)).length + p0.fc.length ≤ C4)).bind fun _ =>
 (DI ((([] : List Int)).length + p0.ff.length ≤ C4)).bind fun _ =>
 some ((Ac.mk ((([] : List Int)) ++ p0.fe) ((([] : List Int)) ++ p0.fc) ((([] : List Int)) ++ p0.ff)))
def CI (N : Nat) (p0 : Ac) (j1 : Int → Option ((List Ac))) : Nat → (Int × Int) → Option ((List Ac))
 | 0, _ => none
 | n1 + 1, v1 =>
  AO ((decide (v1.2 < (p0.fc.length : Int))))
   (Bd (fun (v4 : Int) =>
    CI N p0 j1 n1 (v4, (wI .i64 (v1.2 + 1))))
   fun j4 =>
   (Bj p0.fc v1.2).bind fun v5 =>
   AO ((decide (0 ≤ v5)))
    (j4 (wI .i64 (v1.1 + 1)))
    (j4 v1.1))
   (j1 v1.1)
def B6 (N : Nat) (p0 : Ac) (v7 : (List Ac) × Int) (j12 : ((List Int)) → Option ((List Ac))) : Nat → ((List Int) × Int × Int) → Option ((List Ac))
 | 0, _ => none
 | n12 + 1, v12 =>
  AO ((decide (v12.2.2 < (p0.fc.length : Int))))
   (Bd (fun (v15 : (List Int) × Int) =>
    B6 N p0 v7 j12 n12 (v15.1, v15.2, (wI .i64 (v12.2.2 + 1))))
   fun j15 =>
   (Bj p0.fc v12.2.2).bind fun v16 =>
   AO ((decide (v16 < 0)))
    (j15 (v12.1, v12.2.1))
    (Bd (fun (v18 : (List Int)) =>
     j15 (v18, (wI .i64 (v12.2.1 + 1))))
    fun j18 =>
    (DI (0 ≤ v12.2.1)).bind fun _ =>
    AO (((zX ((AZ .i64 v7.2 v12.2.1)) 2) == 1))
     ((Bj v12.1 v12.2.2).bind fun _ =>
     j18 (v12.1.set ((v12.2.2).toNat) ((-1))))
     (j18 v12.1)))
   (j12 v12.1)
def BF (N : Nat) (p0 : Ac) (v2 : Int) (j7 : ((List Ac)) → Option ((List Ac))) : Nat → ((List Ac) × Int) → Option ((List Ac))
 | 0, _ => none
 | n7 + 1, v7 =>
  (DI (0 ≤ v2)).bind fun _ =>
  AO ((decide (v7.2 < (D1 .i64 1 v2))))
   ((EK N p0).bind fun v11 =>
   B6 N p0 v7 (fun (v13 : (List Int)) =>
    (DI (v7.1.length + (([(Ac.mk v11.fe v13 v11.ff)] : List Ac)).length ≤ C4)).bind fun _ =>
    BF N p0 v2 j7 n7 (v7.1 ++ (([(Ac.mk v11.fe v13 v11.ff)] : List Ac)), (wI .i64 (v7.2 + 1)))) N (v11.fc, 0, 0))
   (j7 v7.1)
def EP (N : Nat) (p0 : Ac) : Option ((List Ac)) :=
 CI N p0 (fun (v2 : Int) =>
  BF N p0 v2 (fun (v8 : (List Ac)) =>
   some v8) N (([] : List Ac), 0)) N (0, 0)
def B7 (_ : Nat) (p0 : Ac) (p1 : Int) : Option Int :=
 (Bj p0.fe p1).bind fun v1 =>
 (DI (0 ≤ v1)).bind fun _ =>
 Bd (fun (v3 : Int) =>
  some v3)
 fun j3 =>
 (Bj p0.fc p1).bind fun v4 =>
 AO ((decide (0 ≤ v4)))
  ((Bj p0.fc p1).bind fun v6 =>
  (DI (0 ≤ v6)).bind fun _ =>
  j3 (PI .u8 ((D1 .u8 1 v1)) ((D1 .u8 1 v6))))
  (j3 (D1 .u8 1 v1))
def CD (_ : Nat) (p0 : Int) (p1 : Int) : Option Bool :=
 (DI (0 ≤ p1)).bind fun _ =>
 some (((AK .u8 ((AZ .u8 p0 p1)) 1) == 1))
def Bt (N : Nat) (p0 : Aa) (p1 : Ac) (v1 : (List Ap) × Int) (v4 : An) (v10 : (List Ap) × Int) (j17 : ((List Ap) × Bool) → Option ((List Ap))) : Nat → ((List Ap) × Bool × Int) → Option ((List Ap))
 | 0, _ => none
 | n17 + 1, v17 =>
  (Bj p0.fb v4.fk).bind fun v19 =>
  AO ((decide (v17.2.2 < v19)))
   (Bd (fun (v21 : (List Ap) × Bool) =>
    Bt N p0 p1 v1 v4 v10 j17 n17 (v21.1, v21.2, (wI .i64 (v17.2.2 + 1))))
   fun j21 =>
   (B7 N p1 v4.fk).bind fun v22 =>
   (CD N v22 v17.2.2).bind fun v23 =>
   AO ((!v23))
    (j21 (v17.1, v17.2.1))
    (Bd (fun (v25 : Bool) =>
     Bd (fun (v29 : Bool) =>
      AO v29
       ((DI (v17.1.length + (([(Ap.mk v1.2 v10.2 v17.2.2)] : List Ap)).length ≤ C4)).bind fun _ =>
       j21 (v17.1 ++ (([(Ap.mk v1.2 v10.2 v17.2.2)] : List Ap)), v25))
       (j21 (v17.1, v25)))
     fun j29 =>
     AO ((!v4.ft))
      ((Bj v4.fr v10.2).bind fun v31 =>
      (Bj v31 v17.2.2).bind fun v32 =>
      j29 (!v32))
      (j29 false))
    fun j25 =>
    AO v17.2.1
     (j25 true)
     ((Bj v4.fr v10.2).bind fun v27 =>
     (Bj v27 v17.2.2).bind fun v28 =>
     j25 v28)))
   (j17 (v17.1, v17.2.1))
def BM (N : Nat) (p0 : Aa) (p1 : Ac) (v1 : (List Ap) × Int) (v4 : An) (v6 : Int) (j10 : ((List Ap)) → Option ((List Ap))) : Nat → ((List Ap) × Int) → Option ((List Ap))
 | 0, _ => none
 | n10 + 1, v10 =>
  (Bj p0.fb v4.fh).bind fun v12 =>
  AO ((decide (v10.2 < v12)))
   (Bd (fun (v14 : (List Ap)) =>
    BM N p0 p1 v1 v4 v6 j10 n10 (v14, (wI .i64 (v10.2 + 1))))
   fun j14 =>
   (CD N v6 v10.2).bind fun v15 =>
   AO ((!v15))
    (j14 v10.1)
    (Bt N p0 p1 v1 v4 v10 (fun (v18 : (List Ap) × Bool) =>
     Bd (fun (v35 : Bool) =>
      AO v35
       ((DI (v18.1.length + (([(Ap.mk v1.2 v10.2 ((-1)))] : List Ap)).length ≤ C4)).bind fun _ =>
       j14 (v18.1 ++ (([(Ap.mk v1.2 v10.2 ((-1)))] : List Ap))))
       (j14 v18.1))
     fun j35 =>
     AO v4.ft
      (j35 (!v18.2))
      (j35 false)) N (v10.1, false, 0)))
   (j10 v10.1)
def CR (N : Nat) (p0 : Aa) (p1 : Ac) (j1 : ((List Ap)) → Option ((List Ap))) : Nat → ((List Ap) × Int) → Option ((List Ap))
 | 0, _ => none
 | n1 + 1, v1 =>
  AO ((decide (v1.2 < (p0.fd.length : Int))))
   ((Bj p0.fd v1.2).bind fun v4 =>
   (B7 N p1 v4.fh).bind fun v5 =>
   Bd (fun (v6 : Int) =>
    BM N p0 p1 v1 v4 v6 (fun (v11 : (List Ap)) =>
     CR N p0 p1 j1 n1 (v11, (wI .i64 (v1.2 + 1)))) N (v1.1, 0))
   fun j6 =>
   (Ba N v4).bind fun v7 =>
   AO v7
    ((Bj p1.ff v1.2).bind fun v9 =>
    j6 v9)
    (j6 v5))
   (j1 v1.1)
def E0 (N : Nat) (p0 : Aa) (p1 : Ac) : Option ((List Ap)) :=
 CR N p0 p1 (fun (v2 : (List Ap)) =>
  some v2) N (([] : List Ap), 0)
def EF (N : Nat) (p0 : Aa) (p1 : Ac) : Option Bool :=
 (E0 N p0 p1).bind fun v1 =>
 some (((v1.length : Int) == 0))
def Cd (N : Nat) (p0 : Aa) (v1 : (List Ac)) (j2 : Unit → Option Bool) : Nat → Int → Option Bool
 | 0, _ => none
 | n2 + 1, v2 =>
  AO ((decide (v2 < (v1.length : Int))))
   ((Bj v1 v2).bind fun v5 =>
   (EF N p0 v5).bind fun v6 =>
   AO ((!v6))
    (some false)
    (Cd N p0 v1 j2 n2 (wI .i64 (v2 + 1))))
   (j2 ())
def CP (N : Nat) (p0 : Aa) (p1 : Ac) : Option Bool :=
 (EP N p1).bind fun v1 =>
 Cd N p0 v1 (fun (_ : Unit) =>
  some true) N 0
def Cm (N : Nat) (p0 : Aa) (p1 : Ac) (j7 : Unit → Option Int) : Nat → Int → Option Int
 | 0, _ => none
 | n7 + 1, v7 =>
  AO ((decide (v7 < (p0.fb.length : Int))))
   (Bd (fun (v10 : Bool) =>
    AO v10
     (some 7)
     ((Bj p1.fe v7).bind fun v21 =>
     (Bj p1.fc v7).bind fun v22 =>
     AO ((v21 == v22))
      (some 1)
      (Cm N p0 p1 j7 n7 (wI .i64 (v7 + 1)))))
   fun j10 =>
   (Bj p1.fe v7).bind fun v11 =>
   AO ((decide (v11 < 0)))
    (j10 true)
    ((Bj p1.fe v7).bind fun v13 =>
    (Bj p0.fb v7).bind fun v14 =>
    AO ((decide (v14 ≤ v13)))
     (j10 true)
     ((Bj p1.fc v7).bind fun v16 =>
     AO ((decide (v16 < (-1))))
      (j10 true)
      ((Bj p1.fc v7).bind fun v18 =>
      (Bj p0.fb v7).bind fun v19 =>
      j10 (decide (v19 ≤ v18))))))
   (j7 ())
def Ca (N : Nat) (p0 : Aa) (p1 : Ac) (j24 : Unit → Option Int) : Nat → Int → Option Int
 | 0, _ => none
 | n24 + 1, v24 =>
  AO ((decide (v24 < (p0.fd.length : Int))))
   ((Bj p0.fd v24).bind fun v27 =>
   (Bj p0.fb v27.fh).bind fun v28 =>
   (DI (0 ≤ v28)).bind fun _ =>
   Bd (fun (v30 : Bool) =>
    AO v30
     (some 1)
     (Ca N p0 p1 j24 n24 (wI .i64 (v24 + 1))))
   fun j30 =>
   (Ba N v27).bind fun v31 =>
   AO ((!v31))
    ((Bj p1.ff v24).bind fun v33 =>
    AO ((v33 != 0))
     (j30 true)
     ((Ba N v27).bind fun v35 =>
     AO v35
      ((Bj p1.ff v24).bind fun v37 =>
      AO (((Df .u8 v37 ((wI .u8 ((D1 .u8 1 v28) - 1)))) != 0))
       (j30 true)
       ((B7 N p1 v27.fh).bind fun v39 =>
       (Bj p1.ff v24).bind fun v40 =>
       j30 ((Df .u8 v39 v40) != 0)))
      (j30 false)))
    ((Ba N v27).bind fun v41 =>
    AO v41
     ((Bj p1.ff v24).bind fun v43 =>
     AO (((Df .u8 v43 ((wI .u8 ((D1 .u8 1 v28) - 1)))) != 0))
      (j30 true)
      ((B7 N p1 v27.fh).bind fun v45 =>
      (Bj p1.ff v24).bind fun v46 =>
      j30 ((Df .u8 v45 v46) != 0)))
     (j30 false)))
   (j24 ())
def Dy (N : Nat) (p0 : Aa) (p1 : Ac) : Option Int :=
 (Br N p0).bind fun v1 =>
 AO ((v1 != 0))
  (some v1)
  (Bd (fun (v3 : Bool) =>
   AO v3
    (some 6)
    (Cm N p0 p1 (fun (_ : Unit) =>
     Ca N p0 p1 (fun (_ : Unit) =>
      some 0) N 0) N 0))
  fun j3 =>
  AO (((p1.fe.length : Int) != (p0.fb.length : Int)))
   (j3 true)
   (AO (((p1.fc.length : Int) != (p0.fb.length : Int)))
    (j3 true)
    (j3 ((p1.ff.length : Int) != (p0.fd.length : Int)))))
def Fe (_ : Nat) (p0 : Ad) : Option Bool :=
 Bd (fun (v1 : Bool) =>
  some v1)
 fun j1 =>
 AO ((decide (1 ≤ p0.fg)))
  (AO ((decide (p0.fg ≤ 4)))
   (AO ((decide (0 ≤ p0.fi)))
    (AO ((decide (0 ≤ p0.fp)))
     (AO ((p0.fg == 1))
      (j1 true)
      (j1 (p0.fp == 0)))
     (j1 false))
    (j1 false))
   (j1 false))
  (j1 false)
def B8 (N : Nat) (p0 : Aa) (p2 : Ad) (j12 : ((List Int)) → Option (Ac × Bool)) : Nat → ((List Int) × Int) → Option (Ac × Bool)
 | 0, _ => none
 | n12 + 1, v12 =>
  AO ((decide (v12.2 < (p0.fd.length : Int))))
   (Bd (fun (v15 : (List Int)) =>
    B8 N p0 p2 j12 n12 (v15, (wI .i64 (v12.2 + 1))))
   fun j15 =>
   Bd (fun (v16 : Bool) =>
    AO v16
     ((Bj v12.1 v12.2).bind fun v22 =>
     (DI (0 ≤ p2.fp)).bind fun _ =>
     (Bj v12.1 v12.2).bind fun _ =>
     j15 (v12.1.set ((v12.2).toNat) ((PI .u8 v22 ((D1 .u8 1 p2.fp))))))
     (j15 v12.1))
   fun j16 =>
   (Bj p0.fd v12.2).bind fun v17 =>
   AO ((v17.fh == p2.fi))
    ((Bj p0.fd v12.2).bind fun v19 =>
    (Ba N v19).bind fun v20 =>
    j16 v20)
    (j16 false))
   (j12 v12.1)
def BL (N : Nat) (p0 : Aa) (p1 : Ac) (p2 : Ad) (v32 : An) (v35 : Int) (j38 : Unit → Option (Ac × Bool)) : Nat → Int → Option (Ac × Bool)
 | 0, _ => none
 | n38 + 1, v38 =>
  (Bj p0.fb v32.fh).bind fun v40 =>
  AO ((decide (v38 < v40)))
   (Bd (fun (v42 : Bool) =>
    Bd (fun (v47 : Bool) =>
     AO v47
      (some ((Ac.mk (([] : List Int)) (([] : List Int)) (([] : List Int))), false))
      (BL N p0 p1 p2 v32 v35 j38 n38 (wI .i64 (v38 + 1))))
    fun j47 =>
    AO v42
     (AO ((v32.fg == 4))
      ((Bj v32.fm v38).bind fun v50 =>
      (Bj p1.fe v32.fh).bind fun v51 =>
      (Bj v50 v51).bind fun v52 =>
      j47 (!v52))
      (j47 false))
     (j47 false))
   fun j42 =>
   (Bj p1.ff p2.fi).bind fun v43 =>
   (CD N v43 v38).bind fun v44 =>
   AO v44
    ((CD N v35 v38).bind fun v46 =>
    j42 (!v46))
    (j42 false))
   (j38 ())
def CY (N : Nat) (p0 : Aa) (p1 : Ac) (p2 : Ad) : Option (Ac × Bool) :=
 (DI ((([] : List Int)).length + p1.fe.length ≤ C4)).bind fun _ =>
 (DI ((([] : List Int)).length + p1.fc.length ≤ C4)).bind fun _ =>
 (DI ((([] : List Int)).length + p1.ff.length ≤ C4)).bind fun _ =>
 Bd (fun (v4 : (List Int) × (List Int) × (List Int)) =>
  some ((Ac.mk v4.1 v4.2.1 v4.2.2), true))
 fun j4 =>
 AO ((p2.fg == 1))
  (Bd (fun (v6 : Bool) =>
   AO v6
    (some ((Ac.mk (([] : List Int)) (([] : List Int)) (([] : List Int))), false))
    ((Bj ((([] : List Int)) ++ p1.fc) p2.fi).bind fun _ =>
    B8 N p0 p2 (fun (v13 : (List Int)) =>
     j4 ((([] : List Int)) ++ p1.fe, ((([] : List Int)) ++ p1.fc).set ((p2.fi).toNat) p2.fp, v13)) N ((([] : List Int)) ++ p1.ff, 0)))
  fun j6 =>
  (Bj p1.fc p2.fi).bind fun v7 =>
  AO ((decide (0 ≤ v7)))
   (j6 true)
   ((Bj p1.fe p2.fi).bind fun v9 =>
   j6 (p2.fp == v9)))
  (AO ((p2.fg == 2))
   ((Bj p1.fc p2.fi).bind fun v26 =>
   AO ((decide (v26 < 0)))
    (some ((Ac.mk (([] : List Int)) (([] : List Int)) (([] : List Int))), false))
    ((Bj p1.fc p2.fi).bind fun v28 =>
    (Bj ((([] : List Int)) ++ p1.fe) p2.fi).bind fun _ =>
    (Bj ((([] : List Int)) ++ p1.fc) p2.fi).bind fun _ =>
    j4 (((([] : List Int)) ++ p1.fe).set ((p2.fi).toNat) v28, ((([] : List Int)) ++ p1.fc).set ((p2.fi).toNat) ((-1)), (([] : List Int)) ++ p1.ff)))
   (AO ((p2.fg == 3))
    ((Bj p0.fd p2.fi).bind fun v32 =>
    (Ba N v32).bind fun v33 =>
    AO ((!v33))
     (some ((Ac.mk (([] : List Int)) (([] : List Int)) (([] : List Int))), false))
     ((B7 N p1 v32.fh).bind fun v35 =>
     (Bj p1.ff p2.fi).bind fun v36 =>
     AO ((v36 == v35))
      (some ((Ac.mk (([] : List Int)) (([] : List Int)) (([] : List Int))), false))
      (BL N p0 p1 p2 v32 v35 (fun (_ : Unit) =>
       (Bj ((([] : List Int)) ++ p1.ff) p2.fi).bind fun _ =>
       j4 ((([] : List Int)) ++ p1.fe, (([] : List Int)) ++ p1.fc, ((([] : List Int)) ++ p1.ff).set ((p2.fi).toNat) v35)) N 0)))
    ((Bj p1.fc p2.fi).bind fun v55 =>
    AO ((decide (v55 < 0)))
     (some ((Ac.mk (([] : List Int)) (([] : List Int)) (([] : List Int))), false))
     ((Bj ((([] : List Int)) ++ p1.fc) p2.fi).bind fun _ =>
     j4 ((([] : List Int)) ++ p1.fe, ((([] : List Int)) ++ p1.fc).set ((p2.fi).toNat) ((-1)), (([] : List Int)) ++ p1.ff)))))
def E9 (N : Nat) (p0 : Aa) (p1 : Ac) (p2 : Ad) : Option (Ac × Int) :=
 (Dy N p0 p1).bind fun v1 =>
 AO ((v1 != 0))
  (some ((Ac.mk (([] : List Int)) (([] : List Int)) (([] : List Int))), v1))
  ((Fe N p2).bind fun v3 =>
  AO ((!v3))
   (some ((Ac.mk (([] : List Int)) (([] : List Int)) (([] : List Int))), 1))
   (Bd (fun (v5 : Bool) =>
    AO v5
     (some ((Ac.mk (([] : List Int)) (([] : List Int)) (([] : List Int))), 4))
     (Bd (fun (v11 : Bool) =>
      AO v11
       (some ((Ac.mk (([] : List Int)) (([] : List Int)) (([] : List Int))), 4))
       ((CY N p0 p1 p2).bind fun v15 =>
       AO ((!v15.2))
        (some ((Ac.mk (([] : List Int)) (([] : List Int)) (([] : List Int))), 11))
        (some (v15.1, 0))))
     fun j11 =>
     AO ((p2.fg == 1))
      ((Bj p0.fb p2.fi).bind fun v13 =>
      j11 (decide (v13 ≤ p2.fp)))
      (j11 false)))
   fun j5 =>
   AO ((p2.fg == 3))
    (AO ((decide ((p0.fd.length : Int) ≤ p2.fi)))
     (j5 true)
     (AO ((p2.fg != 3))
      (j5 (decide ((p0.fb.length : Int) ≤ p2.fi)))
      (j5 false)))
    (AO ((p2.fg != 3))
     (j5 (decide ((p0.fb.length : Int) ≤ p2.fi)))
     (j5 false))))
def Ck (N : Nat) (p0 : Aa) (p1 : Ac) (v1 : (List Ad) × Int) (v4 : (List Ad) × Int) (j7 : ((List Ad)) → Option ((List Ad))) : Nat → ((List Ad) × Int) → Option ((List Ad))
 | 0, _ => none
 | n7 + 1, v7 =>
  AO ((decide (v7.2 < 6)))
   (Bd (fun (v10 : (List Ad)) =>
    Ck N p0 p1 v1 v4 j7 n7 (v10, (wI .i64 (v7.2 + 1))))
   fun j10 =>
   (E9 N p0 p1 ((Ad.mk v1.2 v4.2 v7.2))).bind fun v11 =>
   AO ((v11.2 == 0))
    ((DI (v7.1.length + (([(Ad.mk v1.2 v4.2 v7.2)] : List Ad)).length ≤ C4)).bind fun _ =>
    j10 (v7.1 ++ (([(Ad.mk v1.2 v4.2 v7.2)] : List Ad))))
    (j10 v7.1))
   (j7 v7.1)
def Ci (N : Nat) (p0 : Aa) (p1 : Ac) (v1 : (List Ad) × Int) (j4 : ((List Ad)) → Option ((List Ad))) : Nat → ((List Ad) × Int) → Option ((List Ad))
 | 0, _ => none
 | n4 + 1, v4 =>
  AO ((decide (v4.2 < (V2 ((p0.fb.length : Int)) ((p0.fd.length : Int))))))
   (Ck N p0 p1 v1 v4 (fun (v8 : (List Ad)) =>
    Ci N p0 p1 v1 j4 n4 (v8, (wI .i64 (v4.2 + 1)))) N (v4.1, 0))
   (j4 v4.1)
def BA (N : Nat) (p0 : Aa) (p1 : Ac) (j1 : ((List Ad)) → Option ((List Ad))) : Nat → ((List Ad) × Int) → Option ((List Ad))
 | 0, _ => none
 | n1 + 1, v1 =>
  AO ((decide (v1.2 ≤ 3)))
   (Ci N p0 p1 v1 (fun (v5 : (List Ad)) =>
    BA N p0 p1 j1 n1 (v5, (wI .i64 (v1.2 + 1)))) N (v1.1, 0))
   (j1 v1.1)
def E1 (N : Nat) (p0 : Aa) (p1 : Ac) : Option ((List Ad)) :=
 BA N p0 p1 (fun (v2 : (List Ad)) =>
  some v2) N (([] : List Ad), 1)
def DG (N : Nat) (p0 : List Int) (p1 : List Int) (j1 : Unit → Option Int) : Nat → Int → Option Int
 | 0, _ => none
 | n1 + 1, v1 =>
  Bd (fun (v3 : Bool) =>
   AO v3
    ((Bj p0 v1).bind fun v6 =>
    (Bj p1 v1).bind fun v7 =>
    AO ((decide (v6 < v7)))
     (some ((-1)))
     ((Bj p0 v1).bind fun v9 =>
     (Bj p1 v1).bind fun v10 =>
     AO ((decide (v10 < v9)))
      (some 1)
      (DG N p0 p1 j1 n1 (wI .i64 (v1 + 1)))))
    (j1 ()))
  fun j3 =>
  AO ((decide (v1 < (p0.length : Int))))
   (j3 (decide (v1 < (p1.length : Int))))
   (j3 false)
def DN (N : Nat) (p0 : List Int) (p1 : List Int) : Option Int :=
 DG N p0 p1 (fun (_ : Unit) =>
  AO ((decide ((p0.length : Int) < (p1.length : Int))))
   (some ((-1)))
   (AO ((decide ((p1.length : Int) < (p0.length : Int))))
    (some 1)
    (some 0))) N 0
def C2 (N : Nat) (p0 : List Int) (j1 : ((List Int)) → Option ((List Int))) : Nat → ((List Int) × Int) → Option ((List Int))
 | 0, _ => none
 | n1 + 1, v1 =>
  AO ((decide (v1.2 < (p0.length : Int))))
   ((Bj p0 v1.2).bind fun v4 =>
   (DI (v1.1.length + (([(wI .i64 v4)] : List Int)).length ≤ C4)).bind fun _ =>
   C2 N p0 j1 n1 (v1.1 ++ (([(wI .i64 v4)] : List Int)), (wI .i64 (v1.2 + 1))))
   (j1 v1.1)
def DF (N : Nat) (p0 : List Int) : Option ((List Int)) :=
 C2 N p0 (fun (v2 : (List Int)) =>
  some v2) N (([] : List Int), 0)
def Er (N : Nat) (p0 : Ac) (p1 : Ac) : Option Int :=
 (DN N p0.fe p1.fe).bind fun v1 =>
 AO ((v1 != 0))
  (some v1)
  ((DN N p0.fc p1.fc).bind fun v3 =>
  AO ((v3 != 0))
   (some v3)
   ((DF N p0.ff).bind fun v5 =>
   (DF N p1.ff).bind fun v6 =>
   (DN N v5 v6).bind fun v7 =>
   some v7))
def Fd (N : Nat) (p0 : Ac) (p1 : Ac) : Option Bool :=
 (Er N p0 p1).bind fun v1 =>
 some ((v1 == 0))
def Cw (N : Nat) (p0 : List AD) (p1 : Ac) (j1 : Unit → Option Int) : Nat → Int → Option Int
 | 0, _ => none
 | n1 + 1, v1 =>
  AO ((decide (v1 < (p0.length : Int))))
   ((Bj p0 v1).bind fun v4 =>
   (Fd N ((Ac.mk v4.fv.fe v4.fv.fc v4.fv.ff)) p1).bind fun v5 =>
   AO v5
    (some v1)
    (Cw N p0 p1 j1 n1 (wI .i64 (v1 + 1))))
   (j1 ())
def Ev (N : Nat) (p0 : List AD) (p1 : Ac) : Option Int :=
 Cw N p0 p1 (fun (_ : Unit) =>
  some ((-1))) N 0
def BV (N : Nat) (p0 : Aa) (p2 : Int) (v1 : (List AD) × Int) (v5 : (List Ad)) (j6 : ((List AD)) → Option ((List AD) × Bool)) : Nat → ((List AD) × Int) → Option ((List AD) × Bool)
 | 0, _ => none
 | n6 + 1, v6 =>
  AO ((decide (v6.2 < (v5.length : Int))))
   ((Bj v6.1 v1.2).bind fun v9 =>
   (Bj v5 v6.2).bind fun v10 =>
   (CY N p0 ((Ac.mk v9.fv.fe v9.fv.fc v9.fv.ff)) v10).bind fun v11 =>
   Bd (fun (v12 : (List AD)) =>
    AO ((decide (p2 < (v12.length : Int))))
     (some (([] : List AD), false))
     (BV N p0 p2 v1 v5 j6 n6 (v12, (wI .i64 (v6.2 + 1)))))
   fun j12 =>
   Bd (fun (v13 : Bool) =>
    AO v13
     ((Bj v5 v6.2).bind fun v18 =>
     (DI (v6.1.length + (([(AD.mk v11.1 v1.2 v18)] : List AD)).length ≤ C4)).bind fun _ =>
     j12 (v6.1 ++ (([(AD.mk v11.1 v1.2 v18)] : List AD))))
     (j12 v6.1))
   fun j13 =>
   (CP N p0 v11.1).bind fun v14 =>
   AO v14
    ((Ev N v6.1 v11.1).bind fun v16 =>
    j13 (decide (v16 < 0)))
    (j13 false))
   (j6 v6.1)
def BX (N : Nat) (p0 : Aa) (p2 : Int) (j1 : ((List AD)) → Option ((List AD) × Bool)) : Nat → ((List AD) × Int) → Option ((List AD) × Bool)
 | 0, _ => none
 | n1 + 1, v1 =>
  AO ((decide (v1.2 < (v1.1.length : Int))))
   ((Bj v1.1 v1.2).bind fun v4 =>
   (E1 N p0 ((Ac.mk v4.fv.fe v4.fv.fc v4.fv.ff))).bind fun v5 =>
   BV N p0 p2 v1 v5 (fun (v7 : (List AD)) =>
    BX N p0 p2 j1 n1 (v7, (wI .i64 (v1.2 + 1)))) N (v1.1, 0))
   (j1 v1.1)
def CZ (N : Nat) (p0 : Aa) (p1 : Ac) (p2 : Int) : Option ((List AD) × Bool) :=
 BX N p0 p2 (fun (v2 : (List AD)) =>
  some (v2, true)) N (([(AD.mk p1 ((-1)) ((Ad.mk 0 0 0)))] : List AD), 0)
def Fc (N : Nat) (p0 : Aa) (p1 : Int) : Option Bool :=
 (Ee N p0).bind fun v1 =>
 Bd (fun (v2 : Bool) =>
  AO v2
   (some true)
   ((CZ N p0 v1.1 p1).bind fun v6 =>
   some v6.2))
 fun j2 =>
 AO ((v1.2 != 0))
  (j2 true)
  ((CP N p0 v1.1).bind fun v4 =>
  j2 (!v4))
def CQ (N : Nat) (p0 : Aa) (v4 : (List (List Int))) (j5 : Unit → Option Bool) : Nat → Int → Option Bool
 | 0, _ => none
 | n5 + 1, v5 =>
  AO ((decide (v5 < (v4.length : Int))))
   ((Bj v4 v5).bind fun v8 =>
   (Dq N p0 v8).bind fun v9 =>
   Bd (fun (v10 : Bool) =>
    AO v10
     (some false)
     (CQ N p0 v4 j5 n5 (wI .i64 (v5 + 1))))
   fun j10 =>
   AO ((v9.2 != 0))
    (j10 true)
    ((Fc N v9.1 120).bind fun v12 =>
    j10 (!v12)))
   (j5 ())
def FR (N : Nat) (p0 : Aa) : Option Bool :=
 (Br N p0).bind fun v1 =>
 AO ((v1 != 0))
  (some true)
  (AO ((decide (3 < (p0.fb.length : Int))))
   (some false)
   ((CK N ((p0.fb.length : Int))).bind fun v4 =>
   CQ N p0 v4 (fun (_ : Unit) =>
    some true) N 0))
def FY (N : Nat) (p0 : BJ) : Option (Aa × Bool) :=
 (FW N p0).bind fun v1 =>
 Bd (fun (v2 : Bool) =>
  some (v1.1, v2))
 fun j2 =>
 AO v1.2
  ((FR N v1.1).bind fun v4 =>
  j2 v4)
  (j2 false)
def EZ (_ : Nat) : Option ((List (List Bool))) :=
 some (([([true, false] : List Bool), ([false, true] : List Bool)] : List (List Bool)))
def Es (N : Nat) (p0 : Bool) : Option Aa :=
 (EZ N).bind fun v1 =>
 (EZ N).bind fun v2 =>
 some ((Aa.mk (([2, 2, 2] : List Int)) (([0, 0, 0] : List Int)) (([1, 1, 1] : List Int)) (([(An.mk 1 0 1 p0 v1 (([] : List (List Bool)))), (An.mk 1 1 0 p0 v2 (([] : List (List Bool))))] : List An))))
def DD (_ : Nat) (p0 : Int) (p1 : Int) : Option Bool :=
 Bd (fun (v1 : Bool) =>
  some v1)
 fun j1 =>
 AO ((decide (0 ≤ p0)))
  (j1 (decide (p0 < p1)))
  (j1 false)
def HD (_ : Nat) (p0 : Int) (p1 : Bool) : Option Bool :=
 Bd (fun (v1 : Bool) =>
  some v1)
 fun j1 =>
 AO ((p0 == 1))
  (j1 true)
  (AO ((p0 == 2))
   (j1 true)
   (AO ((p0 == 3))
    (j1 (!p1))
    (AO ((p0 == 4))
     (j1 (!p1))
     (j1 false))))
def Et (_ : Nat) (p0 : List Bool) (p1 : Int) : Option Bool :=
 some (((p0.length : Int) != p1))
def Bv (N : Nat) (p0 : List (List Bool)) (p1 : (List Bool) → Option Bool) (j1 : Unit → Option Int) : Nat → Int → Option Int
 | 0, _ => none
 | n1 + 1, v1 =>
  AO ((decide (v1 < (p0.length : Int))))
   ((Bj p0 v1).bind fun v4 =>
   (p1 v4).bind fun v5 =>
   AO v5
    (some v1)
    (Bv N p0 p1 j1 n1 (wI .i64 (v1 + 1))))
   (j1 ())
def DQ (N : Nat) (p0 : List (List Bool)) (p1 : (List Bool) → Option Bool) : Option Int :=
 Bv N p0 p1 (fun (_ : Unit) =>
  some ((-1))) N 0
def Di (N : Nat) (p0 : List (List Bool)) (p1 : (List Bool) → Option Bool) : Option Bool :=
 (DQ N p0 p1).bind fun v1 =>
 some ((decide (0 ≤ v1)))
def FO (N : Nat) (p0 : List (List Bool)) (p1 : Int) (p2 : Int) : Option Bool :=
 Bd (fun (v1 : Bool) =>
  some v1)
 fun j1 =>
 AO (((p0.length : Int) == p1))
  ((Di N p0 ((fun (x : List Bool) => Et N x p2))).bind fun v3 =>
  j1 (!v3))
  (j1 false)
def Dz (N : Nat) (p1 : An) (j19 : Unit → Option Int) : Nat → Int → Option Int
 | 0, _ => none
 | n19 + 1, v19 =>
  AO ((decide (v19 < (p1.fm.length : Int))))
   ((Bj p1.fm v19).bind fun v22 =>
   (Bj v22 v19).bind fun v23 =>
   AO ((!v23))
    (some 1)
    (Dz N p1 j19 n19 (wI .i64 (v19 + 1))))
   (j19 ())
def Ha (N : Nat) (p0 : Aa) (p1 : An) : Option Int :=
 (HD N p1.fg p1.ft).bind fun v1 =>
 AO ((!v1))
  (some 1)
  (Bd (fun (v3 : Bool) =>
   AO v3
    (some 4)
    ((Bj p0.fb p1.fh).bind fun v8 =>
    Bd (fun (v9 : Bool) =>
     AO v9
      (some 6)
      (Dz N p1 (fun (_ : Unit) =>
       some 0) N 0))
    fun j9 =>
    (Bj p0.fb p1.fk).bind fun v10 =>
    (FO N p1.fr v8 v10).bind fun v11 =>
    AO ((!v11))
     (j9 true)
     (AO ((p1.fg == 4))
      ((FO N p1.fm v8 v8).bind fun v14 =>
      AO ((!v14))
       (j9 true)
       (AO ((!((p1.fg == 4))))
        (j9 (decide (0 < (p1.fm.length : Int))))
        (j9 false)))
      (AO ((!((p1.fg == 4))))
       (j9 (decide (0 < (p1.fm.length : Int))))
       (j9 false)))))
  fun j3 =>
  (DD N p1.fh ((p0.fb.length : Int))).bind fun v4 =>
  AO ((!v4))
   (j3 true)
   ((DD N p1.fk ((p0.fb.length : Int))).bind fun v6 =>
   j3 (!v6)))
def Cb (N : Nat) (p0 : Aa) (j7 : Unit → Option Int) : Nat → Int → Option Int
 | 0, _ => none
 | n7 + 1, v7 =>
  AO ((decide (v7 < (p0.fb.length : Int))))
   ((Bj p0.fb v7).bind fun v10 =>
   Bd (fun (v11 : Bool) =>
    AO v11
     (some 7)
     (Cb N p0 j7 n7 (wI .i64 (v7 + 1))))
   fun j11 =>
   AO ((decide (v10 < 1)))
    (j11 true)
    (AO ((decide (6 < v10)))
     (j11 true)
     ((Bj p0.fj v7).bind fun v14 =>
     (DD N v14 v10).bind fun v15 =>
     AO ((!v15))
      (j11 true)
      ((Bj p0.fo v7).bind fun v17 =>
      (DD N v17 v10).bind fun v18 =>
      j11 (!v18)))))
   (j7 ())
def B0 (N : Nat) (p0 : Aa) (j20 : Unit → Option Int) : Nat → Int → Option Int
 | 0, _ => none
 | n20 + 1, v20 =>
  AO ((decide (v20 < (p0.fd.length : Int))))
   ((Bj p0.fd v20).bind fun v23 =>
   (Ha N p0 v23).bind fun v24 =>
   AO ((v24 != 0))
    (some v24)
    (B0 N p0 j20 n20 (wI .i64 (v20 + 1))))
   (j20 ())
def Cf (N : Nat) (p0 : Aa) : Option Int :=
 Bd (fun (v1 : Bool) =>
  AO v1
   (some 3)
   (Bd (fun (v4 : Bool) =>
    AO v4
     (some 6)
     (Cb N p0 (fun (_ : Unit) =>
      B0 N p0 (fun (_ : Unit) =>
       some 0) N 0) N 0))
   fun j4 =>
   AO (((p0.fj.length : Int) != (p0.fb.length : Int)))
    (j4 true)
    (j4 ((p0.fo.length : Int) != (p0.fb.length : Int)))))
 fun j1 =>
 AO ((decide (6 < (p0.fb.length : Int))))
  (j1 true)
  (j1 (decide (12 < (p0.fd.length : Int))))
def By (_ : Nat) (p0 : List Int) (p1 : (Int × Int) → Option Int) : Option (List Int) := UM p1 (fun a b => decide (a = b)) p0
def F8 (_ : Nat) (p0 : Int) : Option Int :=
 (Sy ((⟨⟨(yY (yY [0, 1, 1, 2, 1, 2, 2, 3, 1, 2, 2, 3, 2, 3, 3, 4, 1, 2, 2, 3, 2, 3, 3, 4, 2, 3, 3, 4, 3, 4, 4, 5, 1, 2, 2, 3, 2, 3, 3, 4, 2, 3, 3, 4, 3, 4, 4, 5, 2, 3, 3, 4, 3, 4, 4, 5, 3, 4, 4, 5, 4, 5, 5, 6] [1, 2, 2, 3, 2, 3, 3, 4, 2, 3, 3, 4, 3, 4, 4, 5, 2, 3, 3, 4, 3, 4, 4, 5, 3, 4, 4, 5, 4, 5, 5, 6, 2, 3, 3, 4, 3, 4, 4, 5, 3, 4, 4, 5, 4, 5, 5, 6, 3, 4, 4, 5, 4, 5, 5, 6, 4, 5, 5, 6, 5, 6, 6, 7]) (yY [1, 2, 2, 3, 2, 3, 3, 4, 2, 3, 3, 4, 3, 4, 4, 5, 2, 3, 3, 4, 3, 4, 4, 5, 3, 4, 4, 5, 4, 5, 5, 6, 2, 3, 3, 4, 3, 4, 4, 5, 3, 4, 4, 5, 4, 5, 5, 6, 3, 4, 4, 5, 4, 5, 5, 6, 4, 5, 5, 6, 5, 6, 6, 7] [2, 3, 3, 4, 3, 4, 4, 5, 3, 4, 4, 5, 4, 5, 5, 6, 3, 4, 4, 5, 4, 5, 5, 6, 4, 5, 5, 6, 5, 6, 6, 7, 3, 4, 4, 5, 4, 5, 5, 6, 4, 5, 5, 6, 5, 6, 6, 7, 4, 5, 5, 6, 5, 6, 6, 7, 5, 6, 6, 7, 6, 7, 7, 8]))⟩⟩ : ByteArray)) ((AZ .u32 p0 24))).bind fun v1 =>
 (Sy ((⟨⟨(yY (yY [0, 1, 1, 2, 1, 2, 2, 3, 1, 2, 2, 3, 2, 3, 3, 4, 1, 2, 2, 3, 2, 3, 3, 4, 2, 3, 3, 4, 3, 4, 4, 5, 1, 2, 2, 3, 2, 3, 3, 4, 2, 3, 3, 4, 3, 4, 4, 5, 2, 3, 3, 4, 3, 4, 4, 5, 3, 4, 4, 5, 4, 5, 5, 6] [1, 2, 2, 3, 2, 3, 3, 4, 2, 3, 3, 4, 3, 4, 4, 5, 2, 3, 3, 4, 3, 4, 4, 5, 3, 4, 4, 5, 4, 5, 5, 6, 2, 3, 3, 4, 3, 4, 4, 5, 3, 4, 4, 5, 4, 5, 5, 6, 3, 4, 4, 5, 4, 5, 5, 6, 4, 5, 5, 6, 5, 6, 6, 7]) (yY [1, 2, 2, 3, 2, 3, 3, 4, 2, 3, 3, 4, 3, 4, 4, 5, 2, 3, 3, 4, 3, 4, 4, 5, 3, 4, 4, 5, 4, 5, 5, 6, 2, 3, 3, 4, 3, 4, 4, 5, 3, 4, 4, 5, 4, 5, 5, 6, 3, 4, 4, 5, 4, 5, 5, 6, 4, 5, 5, 6, 5, 6, 6, 7] [2, 3, 3, 4, 3, 4, 4, 5, 3, 4, 4, 5, 4, 5, 5, 6, 3, 4, 4, 5, 4, 5, 5, 6, 4, 5, 5, 6, 5, 6, 6, 7, 3, 4, 4, 5, 4, 5, 5, 6, 4, 5, 5, 6, 5, 6, 6, 7, 4, 5, 5, 6, 5, 6, 6, 7, 5, 6, 6, 7, 6, 7, 7, 8]))⟩⟩ : ByteArray)) ((AK .u32 ((AZ .u32 p0 16)) 255))).bind fun v2 =>
 (Sy ((⟨⟨(yY (yY [0, 1, 1, 2, 1, 2, 2, 3, 1, 2, 2, 3, 2, 3, 3, 4, 1, 2, 2, 3, 2, 3, 3, 4, 2, 3, 3, 4, 3, 4, 4, 5, 1, 2, 2, 3, 2, 3, 3, 4, 2, 3, 3, 4, 3, 4, 4, 5, 2, 3, 3, 4, 3, 4, 4, 5, 3, 4, 4, 5, 4, 5, 5, 6] [1, 2, 2, 3, 2, 3, 3, 4, 2, 3, 3, 4, 3, 4, 4, 5, 2, 3, 3, 4, 3, 4, 4, 5, 3, 4, 4, 5, 4, 5, 5, 6, 2, 3, 3, 4, 3, 4, 4, 5, 3, 4, 4, 5, 4, 5, 5, 6, 3, 4, 4, 5, 4, 5, 5, 6, 4, 5, 5, 6, 5, 6, 6, 7]) (yY [1, 2, 2, 3, 2, 3, 3, 4, 2, 3, 3, 4, 3, 4, 4, 5, 2, 3, 3, 4, 3, 4, 4, 5, 3, 4, 4, 5, 4, 5, 5, 6, 2, 3, 3, 4, 3, 4, 4, 5, 3, 4, 4, 5, 4, 5, 5, 6, 3, 4, 4, 5, 4, 5, 5, 6, 4, 5, 5, 6, 5, 6, 6, 7] [2, 3, 3, 4, 3, 4, 4, 5, 3, 4, 4, 5, 4, 5, 5, 6, 3, 4, 4, 5, 4, 5, 5, 6, 4, 5, 5, 6, 5, 6, 6, 7, 3, 4, 4, 5, 4, 5, 5, 6, 4, 5, 5, 6, 5, 6, 6, 7, 4, 5, 5, 6, 5, 6, 6, 7, 5, 6, 6, 7, 6, 7, 7, 8]))⟩⟩ : ByteArray)) ((AK .u32 ((AZ .u32 p0 8)) 255))).bind fun v3 =>
 (Sy ((⟨⟨(yY (yY [0, 1, 1, 2, 1, 2, 2, 3, 1, 2, 2, 3, 2, 3, 3, 4, 1, 2, 2, 3, 2, 3, 3, 4, 2, 3, 3, 4, 3, 4, 4, 5, 1, 2, 2, 3, 2, 3, 3, 4, 2, 3, 3, 4, 3, 4, 4, 5, 2, 3, 3, 4, 3, 4, 4, 5, 3, 4, 4, 5, 4, 5, 5, 6] [1, 2, 2, 3, 2, 3, 3, 4, 2, 3, 3, 4, 3, 4, 4, 5, 2, 3, 3, 4, 3, 4, 4, 5, 3, 4, 4, 5, 4, 5, 5, 6, 2, 3, 3, 4, 3, 4, 4, 5, 3, 4, 4, 5, 4, 5, 5, 6, 3, 4, 4, 5, 4, 5, 5, 6, 4, 5, 5, 6, 5, 6, 6, 7]) (yY [1, 2, 2, 3, 2, 3, 3, 4, 2, 3, 3, 4, 3, 4, 4, 5, 2, 3, 3, 4, 3, 4, 4, 5, 3, 4, 4, 5, 4, 5, 5, 6, 2, 3, 3, 4, 3, 4, 4, 5, 3, 4, 4, 5, 4, 5, 5, 6, 3, 4, 4, 5, 4, 5, 5, 6, 4, 5, 5, 6, 5, 6, 6, 7] [2, 3, 3, 4, 3, 4, 4, 5, 3, 4, 4, 5, 4, 5, 5, 6, 3, 4, 4, 5, 4, 5, 5, 6, 4, 5, 5, 6, 5, 6, 6, 7, 3, 4, 4, 5, 4, 5, 5, 6, 4, 5, 5, 6, 5, 6, 6, 7, 4, 5, 5, 6, 5, 6, 6, 7, 5, 6, 6, 7, 6, 7, 7, 8]))⟩⟩ : ByteArray)) ((AK .u32 p0 255))).bind fun v4 =>
 some ((wI .i64 ((wI .u8 ((wI .u8 ((wI .u8 (v1 + v2)) + v3)) + v4)))))
def F1 (_ : Nat) (p0 : Int) : Option Int :=
 some ((AK .i64 ((wI .i64 ((wI .u64 ((wI .u64 ((wI .u64 ((AK .u64 ((wI .u64 ((AZ .u64 ((wI .u64 ((AK .u64 ((AZ .u64 ((wI .u64 ((AK .u64 ((AZ .u64 p0 1)) 6148914691236517205) + (AK .u64 p0 6148914691236517205)))) 2)) 3689348814741910323) + (AK .u64 ((wI .u64 ((AK .u64 ((AZ .u64 p0 1)) 6148914691236517205) + (AK .u64 p0 6148914691236517205)))) 3689348814741910323)))) 4) + (wI .u64 ((AK .u64 ((AZ .u64 ((wI .u64 ((AK .u64 ((AZ .u64 p0 1)) 6148914691236517205) + (AK .u64 p0 6148914691236517205)))) 2)) 3689348814741910323) + (AK .u64 ((wI .u64 ((AK .u64 ((AZ .u64 p0 1)) 6148914691236517205) + (AK .u64 p0 6148914691236517205)))) 3689348814741910323)))))) 1085102592571150095) + (AZ .u64 ((AK .u64 ((wI .u64 ((AZ .u64 ((wI .u64 ((AK .u64 ((AZ .u64 ((wI .u64 ((AK .u64 ((AZ .u64 p0 1)) 6148914691236517205) + (AK .u64 p0 6148914691236517205)))) 2)) 3689348814741910323) + (AK .u64 ((wI .u64 ((AK .u64 ((AZ .u64 p0 1)) 6148914691236517205) + (AK .u64 p0 6148914691236517205)))) 3689348814741910323)))) 4) + (wI .u64 ((AK .u64 ((AZ .u64 ((wI .u64 ((AK .u64 ((AZ .u64 p0 1)) 6148914691236517205) + (AK .u64 p0 6148914691236517205)))) 2)) 3689348814741910323) + (AK .u64 ((wI .u64 ((AK .u64 ((AZ .u64 p0 1)) 6148914691236517205) + (AK .u64 p0 6148914691236517205)))) 3689348814741910323)))))) 1085102592571150095)) 8))) + (AZ .u64 ((wI .u64 ((AK .u64 ((wI .u64 ((AZ .u64 ((wI .u64 ((AK .u64 ((AZ .u64 ((wI .u64 ((AK .u64 ((AZ .u64 p0 1)) 6148914691236517205) + (AK .u64 p0 6148914691236517205)))) 2)) 3689348814741910323) + (AK .u64 ((wI .u64 ((AK .u64 ((AZ .u64 p0 1)) 6148914691236517205) + (AK .u64 p0 6148914691236517205)))) 3689348814741910323)))) 4) + (wI .u64 ((AK .u64 ((AZ .u64 ((wI .u64 ((AK .u64 ((AZ .u64 p0 1)) 6148914691236517205) + (AK .u64 p0 6148914691236517205)))) 2)) 3689348814741910323) + (AK .u64 ((wI .u64 ((AK .u64 ((AZ .u64 p0 1)) 6148914691236517205) + (AK .u64 p0 6148914691236517205)))) 3689348814741910323)))))) 1085102592571150095) + (AZ .u64 ((AK .u64 ((wI .u64 ((AZ .u64 ((wI .u64 ((AK .u64 ((AZ .u64 ((wI .u64 ((AK .u64 ((AZ .u64 p0 1)) 6148914691236517205) + (AK .u64 p0 6148914691236517205)))) 2)) 3689348814741910323) + (AK .u64 ((wI .u64 ((AK .u64 ((AZ .u64 p0 1)) 6148914691236517205) + (AK .u64 p0 6148914691236517205)))) 3689348814741910323)))) 4) + (wI .u64 ((AK .u64 ((AZ .u64 ((wI .u64 ((AK .u64 ((AZ .u64 p0 1)) 6148914691236517205) + (AK .u64 p0 6148914691236517205)))) 2)) 3689348814741910323) + (AK .u64 ((wI .u64 ((AK .u64 ((AZ .u64 p0 1)) 6148914691236517205) + (AK .u64 p0 6148914691236517205)))) 3689348814741910323)))))) 1085102592571150095)) 8)))) 16))) + (AZ .u64 ((wI .u64 ((wI .u64 ((AK .u64 ((wI .u64 ((AZ .u64 ((wI .u64 ((AK .u64 ((AZ .u64 ((wI .u64 ((AK .u64 ((AZ .u64 p0 1)) 6148914691236517205) + (AK .u64 p0 6148914691236517205)))) 2)) 3689348814741910323) + (AK .u64 ((wI .u64 ((AK .u64 ((AZ .u64 p0 1)) 6148914691236517205) + (AK .u64 p0 6148914691236517205)))) 3689348814741910323)))) 4) + (wI .u64 ((AK .u64 ((AZ .u64 ((wI .u64 ((AK .u64 ((AZ .u64 p0 1)) 6148914691236517205) + (AK .u64 p0 6148914691236517205)))) 2)) 3689348814741910323) + (AK .u64 ((wI .u64 ((AK .u64 ((AZ .u64 p0 1)) 6148914691236517205) + (AK .u64 p0 6148914691236517205)))) 3689348814741910323)))))) 1085102592571150095) + (AZ .u64 ((AK .u64 ((wI .u64 ((AZ .u64 ((wI .u64 ((AK .u64 ((AZ .u64 ((wI .u64 ((AK .u64 ((AZ .u64 p0 1)) 6148914691236517205) + (AK .u64 p0 6148914691236517205)))) 2)) 3689348814741910323) + (AK .u64 ((wI .u64 ((AK .u64 ((AZ .u64 p0 1)) 6148914691236517205) + (AK .u64 p0 6148914691236517205)))) 3689348814741910323)))) 4) + (wI .u64 ((AK .u64 ((AZ .u64 ((wI .u64 ((AK .u64 ((AZ .u64 p0 1)) 6148914691236517205) + (AK .u64 p0 6148914691236517205)))) 2)) 3689348814741910323) + (AK .u64 ((wI .u64 ((AK .u64 ((AZ .u64 p0 1)) 6148914691236517205) + (AK .u64 p0 6148914691236517205)))) 3689348814741910323)))))) 1085102592571150095)) 8))) + (AZ .u64 ((wI .u64 ((AK .u64 ((wI .u64 ((AZ .u64 ((wI .u64 ((AK .u64 ((AZ .u64 ((wI .u64 ((AK .u64 ((AZ .u64 p0 1)) 6148914691236517205) + (AK .u64 p0 6148914691236517205)))) 2)) 3689348814741910323) + (AK .u64 ((wI .u64 ((AK .u64 ((AZ .u64 p0 1)) 6148914691236517205) + (AK .u64 p0 6148914691236517205)))) 3689348814741910323)))) 4) + (wI .u64 ((AK .u64 ((AZ .u64 ((wI .u64 ((AK .u64 ((AZ .u64 p0 1)) 6148914691236517205) + (AK .u64 p0 6148914691236517205)))) 2)) 3689348814741910323) + (AK .u64 ((wI .u64 ((AK .u64 ((AZ .u64 p0 1)) 6148914691236517205) + (AK .u64 p0 6148914691236517205)))) 3689348814741910323)))))) 1085102592571150095) + (AZ .u64 ((AK .u64 ((wI .u64 ((AZ .u64 ((wI .u64 ((AK .u64 ((AZ .u64 ((wI .u64 ((AK .u64 ((AZ .u64 p0 1)) 6148914691236517205) + (AK .u64 p0 6148914691236517205)))) 2)) 3689348814741910323) + (AK .u64 ((wI .u64 ((AK .u64 ((AZ .u64 p0 1)) 6148914691236517205) + (AK .u64 p0 6148914691236517205)))) 3689348814741910323)))) 4) + (wI .u64 ((AK .u64 ((AZ .u64 ((wI .u64 ((AK .u64 ((AZ .u64 p0 1)) 6148914691236517205) + (AK .u64 p0 6148914691236517205)))) 2)) 3689348814741910323) + (AK .u64 ((wI .u64 ((AK .u64 ((AZ .u64 p0 1)) 6148914691236517205) + (AK .u64 p0 6148914691236517205)))) 3689348814741910323)))))) 1085102592571150095)) 8)))) 16)))) 32)))))) 127))
def Fp (N : Nat) (p0 : Int) : Option Int :=
 AO false
  ((F8 N ((wI .u32 p0))).bind fun v2 =>
  some v2)
  ((F1 N p0).bind fun v3 =>
  some v3)
def Hh (_ : Nat) (p0 : Int) : Option Int := dY p0
def GD (N : Nat) (j1 : ((List Int)) → Option ((List Int))) : Nat → ((List Int) × Int) → Option ((List Int))
 | 0, _ => none
 | n1 + 1, v1 =>
  AO ((v1.2 != 0))
   ((Hh N v1.2).bind fun v4 =>
   (DI (v1.1.length + (([v4] : List Int)).length ≤ C4)).bind fun _ =>
   GD N j1 n1 (v1.1 ++ (([v4] : List Int)), (AK .u64 v1.2 ((wI .u64 (v1.2 - 1))))))
   (j1 v1.1)
def Bs (N : Nat) (p0 : Int) : Option ((List Int)) :=
 GD N (fun (v2 : (List Int)) =>
  some v2) N (([] : List Int), p0)
def Hk (_ : Nat) (p0 : Int) : Option Bool :=
 some ((p0 != p0))
def HW (N : Nat) (p0 : Int) (p1 : Int) : Option Int :=
 (Hk N p0).bind fun v1 =>
 (Hk N p1).bind fun v2 =>
 AO v1
  (AO v2
   (some 0)
   (some ((-1))))
  (AO v2
   (some 1)
   (AO ((decide (p0 < p1)))
    (some ((-1)))
    (AO ((decide (p1 < p0)))
     (some 1)
     (some 0))))
def D3 (N : Nat) (p0 : List Int) (p1 : List Int) (j1 : Unit → Option Int) : Nat → Int → Option Int
 | 0, _ => none
 | n1 + 1, v1 =>
  AO ((decide (v1 < (p0.length : Int))))
   ((Bj p0 v1).bind fun v4 =>
   AO ((decide ((p1.length : Int) ≤ v1)))
    (some 1)
    ((Bj p1 v1).bind fun v6 =>
    (HW N v4 v6).bind fun v7 =>
    AO ((v7 != 0))
     (some v7)
     (D3 N p0 p1 j1 n1 (wI .i64 (v1 + 1)))))
   (j1 ())
def FM (N : Nat) (p0 : List Int) (p1 : List Int) : Option Int :=
 D3 N p0 p1 (fun (_ : Unit) =>
  AO ((decide ((p0.length : Int) < (p1.length : Int))))
   (some ((-1)))
   (some 0)) N 0
def DE (N : Nat) (p0 : Int) (p1 : Int) : Option Int :=
 (Fp N p0).bind fun v1 =>
 (Fp N p1).bind fun v2 =>
 AO (((wI .i64 (v1 - v2)) != 0))
  (some ((wI .i64 (v1 - v2))))
  ((Bs N p0).bind fun v4 =>
  (Bs N p1).bind fun v5 =>
  (FM N v4 v5).bind fun v6 =>
  some v6)
def BS (N : Nat) (p0 : List Int) (p1 : Int) (j1 : Unit → Option Int) : Nat → Int → Option Int
 | 0, _ => none
 | n1 + 1, v1 =>
  AO ((decide (v1 < (p0.length : Int))))
   ((Bj p0 v1).bind fun v4 =>
   AO ((p1 == v4))
    (some v1)
    (BS N p0 p1 j1 n1 (wI .i64 (v1 + 1))))
   (j1 ())
def Dp (N : Nat) (p0 : List Int) (p1 : Int) : Option Int :=
 BS N p0 p1 (fun (_ : Unit) =>
  some ((-1))) N 0
def C3 (_ : Nat) (p0 : List (List Bool)) : Option ((List (List Bool))) :=
 (DI ((([] : List (List Bool))).length + p0.length ≤ C4)).bind fun _ =>
 some ((([] : List (List Bool))) ++ p0)
def CF (_ : Nat) (p0 : List Bool) : Option ((List Bool)) :=
 (DI ((([] : List Bool)).length + p0.length ≤ C4)).bind fun _ =>
 some ((([] : List Bool)) ++ p0)
def D5 (N : Nat) (v1 : (List (List Bool))) (j3 : ((List (List Bool))) → Option An) : Nat → ((List (List Bool)) × Int) → Option An
 | 0, _ => none
 | n3 + 1, v3 =>
  AO ((decide (v3.2 < (v1.length : Int))))
   ((Bj v3.1 v3.2).bind fun v6 =>
   (CF N v6).bind fun v7 =>
   (Bj v3.1 v3.2).bind fun _ =>
   D5 N v1 j3 n3 (v3.1.set ((v3.2).toNat) v7, (wI .i64 (v3.2 + 1))))
   (j3 v3.1)
def C7 (N : Nat) (v2 : (List (List Bool))) (j9 : ((List (List Bool))) → Option An) : Nat → ((List (List Bool)) × Int) → Option An
 | 0, _ => none
 | n9 + 1, v9 =>
  AO ((decide (v9.2 < (v2.length : Int))))
   ((Bj v9.1 v9.2).bind fun v12 =>
   (CF N v12).bind fun v13 =>
   (Bj v9.1 v9.2).bind fun _ =>
   C7 N v2 j9 n9 (v9.1.set ((v9.2).toNat) v13, (wI .i64 (v9.2 + 1))))
   (j9 v9.1)
def GO (N : Nat) (p0 : An) : Option An :=
 (C3 N p0.fr).bind fun v1 =>
 (C3 N p0.fm).bind fun v2 =>
 D5 N v1 (fun (v4 : (List (List Bool))) =>
  C7 N v2 (fun (v10 : (List (List Bool))) =>
   some ((An.mk p0.fg p0.fh p0.fk p0.ft v4 v10))) N (v2, 0)) N (v1, 0)
def Cx (N : Nat) (p1 : List Int) (j3 : Unit → Option (Aa × Int)) : Nat → Int → Option (Aa × Int)
 | 0, _ => none
 | n3 + 1, v3 =>
  AO ((decide (v3 < (p1.length : Int))))
   (Bd (fun (v6 : Bool) =>
    AO v6
     (some ((Aa.mk (([] : List Int)) (([] : List Int)) (([] : List Int)) (([] : List An))), 1))
     (Cx N p1 j3 n3 (wI .i64 (v3 + 1))))
   fun j6 =>
   AO ((decide (0 < v3)))
    ((Bj p1 v3).bind fun v8 =>
    (Bj p1 ((wI .i64 (v3 - 1)))).bind fun v9 =>
    j6 (decide (v8 ≤ v9)))
    (j6 false))
   (j3 ())
def DV (N : Nat) (p0 : Aa) (p1 : List Int) (j11 : ((List Int) × (List Int) × (List Int)) → Option (Aa × Int)) : Nat → ((List Int) × (List Int) × (List Int) × Int) → Option (Aa × Int)
 | 0, _ => none
 | n11 + 1, v11 =>
  AO ((decide (v11.2.2.2 < (p1.length : Int))))
   ((Bj p1 v11.2.2.2).bind fun v14 =>
   (DD N v14 ((p0.fb.length : Int))).bind fun v15 =>
   AO ((!v15))
    (some ((Aa.mk (([] : List Int)) (([] : List Int)) (([] : List Int)) (([] : List An))), 4))
    ((Bj p0.fb v14).bind fun v17 =>
    (DI (v11.1.length + (([v17] : List Int)).length ≤ C4)).bind fun _ =>
    (Bj p0.fj v14).bind fun v19 =>
    (DI (v11.2.1.length + (([v19] : List Int)).length ≤ C4)).bind fun _ =>
    (Bj p0.fo v14).bind fun v21 =>
    (DI (v11.2.2.1.length + (([v21] : List Int)).length ≤ C4)).bind fun _ =>
    DV N p0 p1 j11 n11 (v11.1 ++ (([v17] : List Int)), v11.2.1 ++ (([v19] : List Int)), v11.2.2.1 ++ (([v21] : List Int)), (wI .i64 (v11.2.2.2 + 1)))))
   (j11 (v11.1, v11.2.1, v11.2.2.1))
def CJ (N : Nat) (p0 : Aa) (p1 : List Int) (j23 : ((List An)) → Option (Aa × Int)) : Nat → ((List An) × Int) → Option (Aa × Int)
 | 0, _ => none
 | n23 + 1, v23 =>
  AO ((decide (v23.2 < (p0.fd.length : Int))))
   (Bd (fun (v26 : (List An)) =>
    CJ N p0 p1 j23 n23 (v26, (wI .i64 (v23.2 + 1))))
   fun j26 =>
   (Bj p0.fd v23.2).bind fun v27 =>
   (Dp N p1 v27.fh).bind fun v28 =>
   (Dp N p1 v27.fk).bind fun v29 =>
   Bd (fun (v30 : Bool) =>
    AO v30
     ((GO N v27).bind fun v33 =>
     (DI (v23.1.length + (([(An.mk v33.fg v28 v29 v33.ft v33.fr v33.fm)] : List An)).length ≤ C4)).bind fun _ =>
     j26 (v23.1 ++ (([(An.mk v33.fg v28 v29 v33.ft v33.fr v33.fm)] : List An))))
     (j26 v23.1))
   fun j30 =>
   AO ((decide (0 ≤ v28)))
    (j30 (decide (0 ≤ v29)))
    (j30 false))
   (j23 v23.1)
def FV (N : Nat) (p0 : Aa) (p1 : List Int) : Option (Aa × Int) :=
 (Cf N p0).bind fun v1 =>
 AO ((v1 != 0))
  (some ((Aa.mk (([] : List Int)) (([] : List Int)) (([] : List Int)) (([] : List An))), v1))
  (Cx N p1 (fun (_ : Unit) =>
   DV N p0 p1 (fun (v12 : (List Int) × (List Int) × (List Int)) =>
    CJ N p0 p1 (fun (v24 : (List An)) =>
     some ((Aa.mk v12.1 v12.2.1 v12.2.2 v24), 0)) N (([] : List An), 0)) N (([] : List Int), ([] : List Int), ([] : List Int), 0)) N 0)
def BW (_ : Nat) (p0 : List Int) : Option ((List Int)) :=
 (DI ((([] : List Int)).length + p0.length ≤ C4)).bind fun _ =>
 some ((([] : List Int)) ++ p0)
def H1 (_ : Nat) (p0 : Int) (p1 : Int) : Option (Int × Int) :=
 some ((wI .u32 ((AZ .u64 ((wI .u64 ((wI .u64 p0) * (wI .u64 p1)))) 32))), (wI .u32 ((wI .u64 ((wI .u64 p0) * (wI .u64 p1))))))
def HZ (_ : Nat) (p0 : Int) (p1 : Int) : Option (Int × Int) :=
 some ((wI .u64 ((wI .u64 ((wI .u64 ((AZ .u64 p0 32) * (AZ .u64 p1 32))) + (AZ .u64 ((wI .u64 ((wI .u64 ((AZ .u64 p0 32) * (AK .u64 p1 4294967295))) + (AZ .u64 ((wI .u64 ((AK .u64 p0 4294967295) * (AK .u64 p1 4294967295)))) 32)))) 32))) + (AZ .u64 ((wI .u64 ((AK .u64 ((wI .u64 ((wI .u64 ((AZ .u64 p0 32) * (AK .u64 p1 4294967295))) + (AZ .u64 ((wI .u64 ((AK .u64 p0 4294967295) * (AK .u64 p1 4294967295)))) 32)))) 4294967295) + (wI .u64 ((AK .u64 p0 4294967295) * (AZ .u64 p1 32)))))) 32))), (wI .u64 (p0 * p1)))
def IF (N : Nat) (p0 : Int) (p1 : Int) : Option (Int × Int) :=
 AO false
  ((H1 N ((wI .u32 p0)) ((wI .u32 p1))).bind fun v2 =>
  some ((wI .u64 v2.1), (wI .u64 v2.2)))
  ((HZ N p0 p1).bind fun v3 =>
  some (v3.1, v3.2))
def Ej (N : Nat) (j9 : ((List Int)) → Option ((List Int))) : Nat → ((List Int) × Int) → Option ((List Int))
 | 0, _ => none
 | n9 + 1, v9 =>
  AO ((decide (v9.2 < (v9.1.length : Int))))
   ((DI ((0 : Int) ≤ v9.2 ∧ (v9.2).toNat ≤ v9.1.length ∧ v9.1.length ≤ v9.1.length)).bind fun _ =>
   (DI ((0 : Int) ≤ v9.2 ∧ 0 ≤ (v9.2).toNat ∧ (v9.2).toNat ≤ v9.1.length)).bind fun _ =>
   Ej N j9 n9 (JC v9.1 ((v9.2).toNat) ((((v9.1.drop 0).take ((v9.2).toNat))).take (y9 (((v9.1.drop 0).take ((v9.2).toNat))).length ((v9.1.length - (v9.2).toNat)))), (wI .i64 (v9.2 + (((y9 (((v9.1.drop 0).take ((v9.2).toNat))).length ((v9.1.length - (v9.2).toNat))) : Nat) : Int)))))
   (j9 v9.1)
def EY (N : Nat) (p0 : List Int) (p1 : Int) : Option ((List Int)) :=
 Bd (fun (_ : Unit) =>
  (IF N ((wI .u64 ((p0.length : Int)))) ((wI .u64 p1))).bind fun v3 =>
  Bd (fun (_ : Unit) =>
   (DI ((0 : Int) ≤ (wI .i64 v3.2) ∧ (wI .i64 v3.2) ≤ (wI .i64 v3.2) ∧ (wI .i64 v3.2) ≤ (C4 : Int))).bind fun _ =>
   Ej N (fun (v10 : (List Int)) =>
    some v10) N (JC (zH ((wI .i64 v3.2)).toNat ((0 : Int))) 0 (p0.take (y9 p0.length ((zH ((wI .i64 v3.2)).toNat ((0 : Int))).length))), (((y9 p0.length ((zH ((wI .i64 v3.2)).toNat ((0 : Int))).length)) : Nat) : Int)))
  fun j4 =>
  Bd (fun (v5 : Bool) =>
   AO v5
    (none)
    (j4 ()))
  fun j5 =>
  AO ((decide (0 < v3.1)))
   (j5 true)
   (j5 (decide (9223372036854775807 < v3.2))))
 fun j1 =>
 AO ((decide (p1 < 0)))
  (none)
  (j1 ())
def F4 (_ : Nat) (p0 : An) : Option Bool :=
 Bd (fun (v1 : Bool) =>
  some v1)
 fun j1 =>
 AO ((p0.fg == 3))
  (j1 true)
  (j1 (p0.fg == 4))
def EC (N : Nat) (p0 : Aa) (j6 : ((List Int)) → Option (Ac × Int)) : Nat → ((List Int) × Int) → Option (Ac × Int)
 | 0, _ => none
 | n6 + 1, v6 =>
  AO ((decide (v6.2 < (p0.fd.length : Int))))
   (Bd (fun (v9 : (List Int)) =>
    EC N p0 j6 n6 (v9, (wI .i64 (v6.2 + 1))))
   fun j9 =>
   (Bj p0.fd v6.2).bind fun v10 =>
   (F4 N v10).bind fun v11 =>
   AO v11
    ((Bj p0.fj v10.fh).bind fun v13 =>
    (DI (0 ≤ v13)).bind fun _ =>
    (Bj v6.1 v6.2).bind fun _ =>
    j9 (v6.1.set ((v6.2).toNat) ((D1 .u8 1 v13))))
    (j9 v6.1))
   (j6 v6.1)
def Ij (N : Nat) (p0 : Aa) : Option (Ac × Int) :=
 (Cf N p0).bind fun v1 =>
 AO ((v1 != 0))
  (some ((Ac.mk (([] : List Int)) (([] : List Int)) (([] : List Int))), v1))
  ((BW N p0.fj).bind fun v3 =>
  (EY N (([(-1)] : List Int)) ((p0.fj.length : Int))).bind fun v4 =>
  (DI ((0 : Int) ≤ (p0.fd.length : Int) ∧ (p0.fd.length : Int) ≤ (p0.fd.length : Int) ∧ (p0.fd.length : Int) ≤ (C4 : Int))).bind fun _ =>
  EC N p0 (fun (v7 : (List Int)) =>
   some ((Ac.mk v3 v4 v7), 0)) N (zH ((p0.fd.length : Int)).toNat ((0 : Int)), 0))
def FB (_ : Nat) (p0 : Ac) (p1 : Int) : Option Int :=
 (Bj p0.fe p1).bind fun v1 =>
 (DI (0 ≤ v1)).bind fun _ =>
 Bd (fun (v3 : Int) =>
  some v3)
 fun j3 =>
 (Bj p0.fc p1).bind fun v4 =>
 AO ((decide (0 ≤ v4)))
  ((Bj p0.fc p1).bind fun v6 =>
  (DI (0 ≤ v6)).bind fun _ =>
  j3 (PI .u8 ((D1 .u8 1 v1)) ((D1 .u8 1 v6))))
  (j3 (D1 .u8 1 v1))
def EA (N : Nat) (p0 : Aa) (p1 : Ac) (j7 : Unit → Option Int) : Nat → Int → Option Int
 | 0, _ => none
 | n7 + 1, v7 =>
  AO ((decide (v7 < (p0.fb.length : Int))))
   ((Bj p0.fb v7).bind fun v10 =>
   Bd (fun (v11 : Bool) =>
    AO v11
     (some 7)
     ((Bj p1.fe v7).bind fun v20 =>
     (Bj p1.fc v7).bind fun v21 =>
     AO ((v20 == v21))
      (some 1)
      (EA N p0 p1 j7 n7 (wI .i64 (v7 + 1)))))
   fun j11 =>
   (Bj p1.fe v7).bind fun v12 =>
   AO ((decide (v12 < 0)))
    (j11 true)
    ((Bj p1.fe v7).bind fun v14 =>
    AO ((decide (v10 ≤ v14)))
     (j11 true)
     ((Bj p1.fc v7).bind fun v16 =>
     AO ((decide (v16 < (-1))))
      (j11 true)
      ((Bj p1.fc v7).bind fun v18 =>
      j11 (decide (v10 ≤ v18))))))
   (j7 ())
def Eb (N : Nat) (p0 : Aa) (p1 : Ac) (j23 : Unit → Option Int) : Nat → Int → Option Int
 | 0, _ => none
 | n23 + 1, v23 =>
  AO ((decide (v23 < (p0.fd.length : Int))))
   ((Bj p0.fd v23).bind fun v26 =>
   Bd (fun (v27 : Int × Int) =>
    Bd (fun (v33 : Bool) =>
     AO v33
      (some 1)
      (Eb N p0 p1 j23 n23 (wI .i64 (v23 + 1))))
    fun j33 =>
    (Bj p1.ff v23).bind fun v34 =>
    AO (((Df .u8 v27.1 v34) != 0))
     (j33 true)
     ((Bj p1.ff v23).bind fun v36 =>
     j33 ((Df .u8 v36 v27.2) != 0)))
   fun j27 =>
   (F4 N v26).bind fun v28 =>
   AO v28
    ((FB N p1 v26.fh).bind fun v30 =>
    (Bj p0.fb v26.fh).bind fun v31 =>
    (DI (0 ≤ v31)).bind fun _ =>
    j27 (v30, (wI .u8 ((D1 .u8 1 v31) - 1))))
    (j27 (0, 0)))
   (j23 ())
def FX (N : Nat) (p0 : Aa) (p1 : Ac) : Option Int :=
 (Cf N p0).bind fun v1 =>
 AO ((v1 != 0))
  (some v1)
  (Bd (fun (v3 : Bool) =>
   AO v3
    (some 6)
    (EA N p0 p1 (fun (_ : Unit) =>
     Eb N p0 p1 (fun (_ : Unit) =>
      some 0) N 0) N 0))
  fun j3 =>
  AO (((p1.fe.length : Int) != (p0.fb.length : Int)))
   (j3 true)
   (AO (((p1.fc.length : Int) != (p0.fb.length : Int)))
    (j3 true)
    (j3 ((p1.ff.length : Int) != (p0.fd.length : Int)))))
def B3 (_ : Nat) (p0 : List Int) : Option ((List Int)) :=
 (DI ((([] : List Int)).length + p0.length ≤ C4)).bind fun _ =>
 some ((([] : List Int)) ++ p0)
def Ed (N : Nat) (p1 : Ac) (j3 : ((List Int)) → Option ((List Ac) × Int)) : Nat → ((List Int) × Int) → Option ((List Ac) × Int)
 | 0, _ => none
 | n3 + 1, v3 =>
  AO ((decide (v3.2 < (p1.fc.length : Int))))
   (Bd (fun (v6 : (List Int)) =>
    Ed N p1 j3 n3 (v6, (wI .i64 (v3.2 + 1))))
   fun j6 =>
   (Bj p1.fc v3.2).bind fun v7 =>
   AO ((decide (0 ≤ v7)))
    ((DI (v3.1.length + (([v3.2] : List Int)).length ≤ C4)).bind fun _ =>
    j6 (v3.1 ++ (([v3.2] : List Int))))
    (j6 v3.1))
   (j3 v3.1)
def Dl (N : Nat) (v4 : (List Int)) (v11 : (List Ac) × Int) (j17 : ((List Int)) → Option ((List Ac) × Int)) : Nat → ((List Int) × Int) → Option ((List Ac) × Int)
 | 0, _ => none
 | n17 + 1, v17 =>
  AO ((decide (v17.2 < (v4.length : Int))))
   (Bd (fun (v20 : (List Int)) =>
    Dl N v4 v11 j17 n17 (v20, (wI .i64 (v17.2 + 1))))
   fun j20 =>
   (Bj v4 v17.2).bind fun v21 =>
   (DI (0 ≤ v17.2)).bind fun _ =>
   AO (((AK .i64 ((AZ .i64 v11.2 v17.2)) 1) == 1))
    ((Bj v17.1 v21).bind fun _ =>
    j20 (v17.1.set ((v21).toNat) ((-1))))
    (j20 v17.1))
   (j17 v17.1)
def Dj (N : Nat) (p1 : Ac) (v4 : (List Int)) (j11 : ((List Ac)) → Option ((List Ac) × Int)) : Nat → ((List Ac) × Int) → Option ((List Ac) × Int)
 | 0, _ => none
 | n11 + 1, v11 =>
  AO ((decide (v11.2 < (D1 .i64 1 ((v4.length : Int))))))
   ((BW N p1.fe).bind fun v14 =>
   (BW N p1.fc).bind fun v15 =>
   (B3 N p1.ff).bind fun v16 =>
   Dl N v4 v11 (fun (v18 : (List Int)) =>
    (DI (v11.1.length + (([(Ac.mk v14 v18 v16)] : List Ac)).length ≤ C4)).bind fun _ =>
    Dj N p1 v4 j11 n11 (v11.1 ++ (([(Ac.mk v14 v18 v16)] : List Ac)), (wI .i64 (v11.2 + 1)))) N (v15, 0))
   (j11 v11.1)
def HC (N : Nat) (p0 : Aa) (p1 : Ac) : Option ((List Ac) × Int) :=
 (FX N p0 p1).bind fun v1 =>
 AO ((v1 != 0))
  (some (([] : List Ac), v1))
  (Ed N p1 (fun (v4 : (List Int)) =>
   (DI (0 ≤ (v4.length : Int))).bind fun _ =>
   Dj N p1 v4 (fun (v12 : (List Ac)) =>
    some (v12, 0)) N (([] : List Ac), 0)) N (([] : List Int), 0))
def B9 (N : Nat) (v1 : (List Ap) × Int) (v4 : An) (v6 : Int) (v11 : (List Ap) × Int) (v17 : List Bool) (j18 : ((List Ap) × Bool) → Option ((List Ap))) : Nat → ((List Ap) × Bool × Int) → Option ((List Ap))
 | 0, _ => none
 | n18 + 1, v18 =>
  AO ((decide (v18.2.2 < (v17.length : Int))))
   (Bd (fun (v21 : (List Ap) × Bool) =>
    B9 N v1 v4 v6 v11 v17 j18 n18 (v21.1, v21.2, (wI .i64 (v18.2.2 + 1))))
   fun j21 =>
   (Bj v17 v18.2.2).bind fun v22 =>
   (DI (0 ≤ v18.2.2)).bind fun _ =>
   AO (((AK .u8 ((AZ .u8 v6 v18.2.2)) 1) == 0))
    (j21 (v18.1, v18.2.1))
    (Bd (fun (v25 : Bool) =>
     Bd (fun (v27 : Bool) =>
      AO v27
       ((DI (v18.1.length + (([(Ap.mk v1.2 v11.2 v18.2.2)] : List Ap)).length ≤ C4)).bind fun _ =>
       j21 (v18.1 ++ (([(Ap.mk v1.2 v11.2 v18.2.2)] : List Ap)), v25))
       (j21 (v18.1, v25)))
     fun j27 =>
     AO ((!v22))
      (j27 (!v4.ft))
      (j27 false))
    fun j25 =>
    AO v18.2.1
     (j25 true)
     (j25 v22)))
   (j18 (v18.1, v18.2.1))
def Cs (N : Nat) (v1 : (List Ap) × Int) (v4 : An) (v6 : Int) (v7 : Int) (j11 : ((List Ap)) → Option ((List Ap))) : Nat → ((List Ap) × Int) → Option ((List Ap))
 | 0, _ => none
 | n11 + 1, v11 =>
  AO ((decide (v11.2 < (v4.fr.length : Int))))
   (Bd (fun (v14 : (List Ap)) =>
    Cs N v1 v4 v6 v7 j11 n11 (v14, (wI .i64 (v11.2 + 1))))
   fun j14 =>
   (DI (0 ≤ v11.2)).bind fun _ =>
   AO (((AK .u8 ((AZ .u8 v7 v11.2)) 1) == 0))
    (j14 v11.1)
    ((Bj v4.fr v11.2).bind fun v17 =>
    B9 N v1 v4 v6 v11 v17 (fun (v19 : (List Ap) × Bool) =>
     Bd (fun (v31 : Bool) =>
      AO v31
       ((DI (v19.1.length + (([(Ap.mk v1.2 v11.2 ((-1)))] : List Ap)).length ≤ C4)).bind fun _ =>
       j14 (v19.1 ++ (([(Ap.mk v1.2 v11.2 ((-1)))] : List Ap))))
       (j14 v19.1))
     fun j31 =>
     AO v4.ft
      (j31 (!v19.2))
      (j31 false)) N (v11.1, false, 0)))
   (j11 v11.1)
def DM (N : Nat) (p0 : Aa) (p1 : Ac) (j1 : ((List Ap)) → Option ((List Ap))) : Nat → ((List Ap) × Int) → Option ((List Ap))
 | 0, _ => none
 | n1 + 1, v1 =>
  AO ((decide (v1.2 < (p0.fd.length : Int))))
   ((Bj p0.fd v1.2).bind fun v4 =>
   (FB N p1 v4.fh).bind fun v5 =>
   (FB N p1 v4.fk).bind fun v6 =>
   Bd (fun (v7 : Int) =>
    Cs N v1 v4 v6 v7 (fun (v12 : (List Ap)) =>
     DM N p0 p1 j1 n1 (v12, (wI .i64 (v1.2 + 1)))) N (v1.1, 0))
   fun j7 =>
   (F4 N v4).bind fun v8 =>
   AO v8
    ((Bj p1.ff v1.2).bind fun v10 =>
    j7 v10)
    (j7 v5))
   (j1 v1.1)
def Gr (N : Nat) (p0 : Aa) (p1 : Ac) : Option ((List Ap)) :=
 DM N p0 p1 (fun (v2 : (List Ap)) =>
  some v2) N (([] : List Ap), 0)
def Fk (N : Nat) (p0 : Aa) (v1 : (List Ac) × Int) (j3 : Unit → Option (Ac × Ap × Int)) : Nat → Int → Option (Ac × Ap × Int)
 | 0, _ => none
 | n3 + 1, v3 =>
  AO ((decide (v3 < (v1.1.length : Int))))
   ((Bj v1.1 v3).bind fun v6 =>
   (Gr N p0 v6).bind fun v7 =>
   AO ((decide (0 < (v7.length : Int))))
    ((Bj v7 0).bind fun v9 =>
    some (v6, v9, 0))
    (Fk N p0 v1 j3 n3 (wI .i64 (v3 + 1))))
   (j3 ())
def Iw (N : Nat) (p0 : Aa) (p1 : Ac) : Option (Ac × Ap × Int) :=
 (HC N p0 p1).bind fun v1 =>
 AO ((v1.2 != 0))
  (some ((Ac.mk (([] : List Int)) (([] : List Int)) (([] : List Int))), (Ap.mk 0 0 0), v1.2))
  (Fk N p0 v1 (fun (_ : Unit) =>
   some ((Ac.mk (([] : List Int)) (([] : List Int)) (([] : List Int))), (Ap.mk 0 0 0), 15)) N 0)
def GW (N : Nat) (p0 : Aa) (p1 : Ac) : Option (Bool × Int) :=
 (Iw N p0 p1).bind fun v1 =>
 AO ((v1.2.2 == 0))
  (some (false, 0))
  (AO ((v1.2.2 == 15))
   (some (true, 0))
   (some (false, v1.2.2)))
def E2 (N : Nat) (p0 : Ac) (j2 : ((List Int)) → Option ByteArray) : Nat → ((List Int) × Int) → Option ByteArray
 | 0, _ => none
 | n2 + 1, v2 =>
  AO ((decide (v2.2 < (p0.fe.length : Int))))
   ((Bj p0.fe v2.2).bind fun v5 =>
   (Bj p0.fc v2.2).bind fun v6 =>
   (DI (v2.1.length + (([(wI .u8 v5), (wI .u8 ((wI .i64 (v6 + 1))))] : List Int)).length ≤ C4)).bind fun _ =>
   E2 N p0 j2 n2 (v2.1 ++ (([(wI .u8 v5), (wI .u8 ((wI .i64 (v6 + 1))))] : List Int)), (wI .i64 (v2.2 + 1))))
   (j2 v2.1)
def DZ (N : Nat) (p0 : Ac) (j8 : ((List Int)) → Option ByteArray) : Nat → ((List Int) × Int) → Option ByteArray
 | 0, _ => none
 | n8 + 1, v8 =>
  AO ((decide (v8.2 < (p0.ff.length : Int))))
   ((Bj p0.ff v8.2).bind fun v11 =>
   (DI (v8.1.length + (([v11] : List Int)).length ≤ C4)).bind fun _ =>
   DZ N p0 j8 n8 (v8.1 ++ (([v11] : List Int)), (wI .i64 (v8.2 + 1))))
   (j8 v8.1)
def H7 (N : Nat) (p0 : Ac) : Option ByteArray :=
 (DI ((0 : Int) ≤ 0 ∧ 0 ≤ (wI .i64 ((wI .i64 (2 * (p0.fe.length : Int))) + (p0.ff.length : Int))) ∧ (wI .i64 ((wI .i64 (2 * (p0.fe.length : Int))) + (p0.ff.length : Int))) ≤ (C4 : Int))).bind fun _ =>
 E2 N p0 (fun (v3 : (List Int)) =>
  DZ N p0 (fun (v9 : (List Int)) =>
   some ((CL v9))) N (v3, 0)) N (zH (0 : Int).toNat ((0 : Int)), 0)
def Fa (N : Nat) (v1 : (List Ad) × Int) (v4 : Int) (j5 : ((List Ad)) → Option ((List Ad))) : Nat → ((List Ad) × Int) → Option ((List Ad))
 | 0, _ => none
 | n5 + 1, v5 =>
  AO ((decide (v5.2 < v4)))
   ((DI (v5.1.length + (([(Ad.mk 1 v1.2 v5.2)] : List Ad)).length ≤ C4)).bind fun _ =>
   Fa N v1 v4 j5 n5 (v5.1 ++ (([(Ad.mk 1 v1.2 v5.2)] : List Ad)), (wI .i64 (v5.2 + 1))))
   (j5 v5.1)
def Dx (N : Nat) (p0 : Aa) (j1 : ((List Ad)) → Option ((List Ad))) : Nat → ((List Ad) × Int) → Option ((List Ad))
 | 0, _ => none
 | n1 + 1, v1 =>
  AO ((decide (v1.2 < (p0.fb.length : Int))))
   ((Bj p0.fb v1.2).bind fun v4 =>
   Fa N v1 v4 (fun (v6 : (List Ad)) =>
    Dx N p0 j1 n1 (v6, (wI .i64 (v1.2 + 1)))) N (v1.1, 0))
   (j1 v1.1)
def Cz (N : Nat) (p0 : Aa) (j9 : ((List Ad)) → Option ((List Ad))) : Nat → ((List Ad) × Int) → Option ((List Ad))
 | 0, _ => none
 | n9 + 1, v9 =>
  AO ((decide (v9.2 < (p0.fb.length : Int))))
   ((DI (v9.1.length + (([(Ad.mk 2 v9.2 0)] : List Ad)).length ≤ C4)).bind fun _ =>
   Cz N p0 j9 n9 (v9.1 ++ (([(Ad.mk 2 v9.2 0)] : List Ad)), (wI .i64 (v9.2 + 1))))
   (j9 v9.1)
def Bx (N : Nat) (p0 : Aa) (j13 : ((List Ad)) → Option ((List Ad))) : Nat → ((List Ad) × Int) → Option ((List Ad))
 | 0, _ => none
 | n13 + 1, v13 =>
  AO ((decide (v13.2 < (p0.fd.length : Int))))
   ((DI (v13.1.length + (([(Ad.mk 3 v13.2 0)] : List Ad)).length ≤ C4)).bind fun _ =>
   Bx N p0 j13 n13 (v13.1 ++ (([(Ad.mk 3 v13.2 0)] : List Ad)), (wI .i64 (v13.2 + 1))))
   (j13 v13.1)
def I0 (N : Nat) (p0 : Aa) : Option ((List Ad)) :=
 Dx N p0 (fun (v2 : (List Ad)) =>
  Cz N p0 (fun (v10 : (List Ad)) =>
   Bx N p0 (fun (v14 : (List Ad)) =>
    some v14) N (v10, 0)) N (v2, 0)) N (([] : List Ad), 0)
def Hg (N : Nat) (p0 : Ac) : Option Ac :=
 (BW N p0.fe).bind fun v1 =>
 (BW N p0.fc).bind fun v2 =>
 (B3 N p0.ff).bind fun v3 =>
 some ((Ac.mk v1 v2 v3))
def Gm (_ : Nat) (p0 : An) : Option Bool :=
 Bd (fun (v1 : Bool) =>
  some v1)
 fun j1 =>
 AO ((p0.fg == 3))
  (j1 true)
  (j1 (p0.fg == 4))
def Ec (N : Nat) (p0 : Aa) (p2 : Ad) (j7 : ((List Int)) → Option (Bool × (List Int) × (List Int))) : Nat → ((List Int) × Int) → Option (Bool × (List Int) × (List Int))
 | 0, _ => none
 | n7 + 1, v7 =>
  AO ((decide (v7.2 < (p0.fd.length : Int))))
   (Bd (fun (v10 : (List Int)) =>
    Ec N p0 p2 j7 n7 (v10, (wI .i64 (v7.2 + 1))))
   fun j10 =>
   (Bj p0.fd v7.2).bind fun v11 =>
   Bd (fun (v12 : Bool) =>
    AO v12
     ((Bj v7.1 v7.2).bind fun v16 =>
     (DI (0 ≤ p2.fp)).bind fun _ =>
     (Bj v7.1 v7.2).bind fun _ =>
     j10 (v7.1.set ((v7.2).toNat) ((PI .u8 v16 ((D1 .u8 1 p2.fp))))))
     (j10 v7.1))
   fun j12 =>
   AO ((v11.fh == p2.fi))
    ((Gm N v11).bind fun v14 =>
    j12 v14)
    (j12 false))
   (j7 v7.1)
def IP (N : Nat) (p0 : Aa) (p1 : Ac) (p2 : Ad) : Option (Bool × (List Int) × (List Int)) :=
 Bd (fun (v1 : Bool) =>
  AO v1
   (some (false, p1.fc, p1.ff))
   ((Bj p1.fc p2.fi).bind fun _ =>
   Ec N p0 p2 (fun (v8 : (List Int)) =>
    some (true, p1.fc.set ((p2.fi).toNat) p2.fp, v8)) N (p1.ff, 0)))
 fun j1 =>
 (Bj p1.fc p2.fi).bind fun v2 =>
 AO ((decide (0 ≤ v2)))
  (j1 true)
  ((Bj p1.fe p2.fi).bind fun v4 =>
  j1 (v4 == p2.fp))
def GS (_ : Nat) (p0 : Ac) (p1 : Int) : Option Int :=
 (Bj p0.fe p1).bind fun v1 =>
 (DI (0 ≤ v1)).bind fun _ =>
 Bd (fun (v3 : Int) =>
  some v3)
 fun j3 =>
 (Bj p0.fc p1).bind fun v4 =>
 AO ((decide (0 ≤ v4)))
  ((Bj p0.fc p1).bind fun v6 =>
  (DI (0 ≤ v6)).bind fun _ =>
  j3 (PI .u8 ((D1 .u8 1 v1)) ((D1 .u8 1 v6))))
  (j3 (D1 .u8 1 v1))
def Dm (_ : Nat) (p0 : Int) : Option Int :=
 (Sy ((⟨⟨(yY (yY [8, 0, 1, 0, 2, 0, 1, 0, 3, 0, 1, 0, 2, 0, 1, 0, 4, 0, 1, 0, 2, 0, 1, 0, 3, 0, 1, 0, 2, 0, 1, 0, 5, 0, 1, 0, 2, 0, 1, 0, 3, 0, 1, 0, 2, 0, 1, 0, 4, 0, 1, 0, 2, 0, 1, 0, 3, 0, 1, 0, 2, 0, 1, 0] [6, 0, 1, 0, 2, 0, 1, 0, 3, 0, 1, 0, 2, 0, 1, 0, 4, 0, 1, 0, 2, 0, 1, 0, 3, 0, 1, 0, 2, 0, 1, 0, 5, 0, 1, 0, 2, 0, 1, 0, 3, 0, 1, 0, 2, 0, 1, 0, 4, 0, 1, 0, 2, 0, 1, 0, 3, 0, 1, 0, 2, 0, 1, 0]) (yY [7, 0, 1, 0, 2, 0, 1, 0, 3, 0, 1, 0, 2, 0, 1, 0, 4, 0, 1, 0, 2, 0, 1, 0, 3, 0, 1, 0, 2, 0, 1, 0, 5, 0, 1, 0, 2, 0, 1, 0, 3, 0, 1, 0, 2, 0, 1, 0, 4, 0, 1, 0, 2, 0, 1, 0, 3, 0, 1, 0, 2, 0, 1, 0] [6, 0, 1, 0, 2, 0, 1, 0, 3, 0, 1, 0, 2, 0, 1, 0, 4, 0, 1, 0, 2, 0, 1, 0, 3, 0, 1, 0, 2, 0, 1, 0, 5, 0, 1, 0, 2, 0, 1, 0, 3, 0, 1, 0, 2, 0, 1, 0, 4, 0, 1, 0, 2, 0, 1, 0, 3, 0, 1, 0, 2, 0, 1, 0]))⟩⟩ : ByteArray)) p0).bind fun v1 =>
 some ((wI .i64 v1))
def DY (N : Nat) (p0 : An) (p2 : Int) (j1 : Unit → Option Bool) : Nat → Int → Option Bool
 | 0, _ => none
 | n1 + 1, v1 =>
  AO ((v1 != 0))
   ((Dm N v1).bind fun v4 =>
   (Bj p0.fm v4).bind fun v5 =>
   (Bj v5 p2).bind fun v6 =>
   AO ((!v6))
    (some false)
    (DY N p0 p2 j1 n1 (AK .u8 v1 ((wI .u8 (v1 - 1))))))
   (j1 ())
def GH (N : Nat) (p0 : An) (p1 : Int) (p2 : Int) : Option Bool :=
 DY N p0 p2 (fun (_ : Unit) =>
  some true) N p1
def HB (N : Nat) (p0 : Aa) (p1 : Ac) (p2 : Int) : Option (Bool × (List Int)) :=
 (Bj p0.fd p2).bind fun v1 =>
 (Gm N v1).bind fun v2 =>
 AO ((!v2))
  (some (false, p1.ff))
  ((GS N p1 v1.fh).bind fun v4 =>
  (Bj p1.ff p2).bind fun v5 =>
  Bd (fun (v6 : Bool) =>
   AO v6
    (some (false, p1.ff))
    ((Bj p1.ff p2).bind fun _ =>
    some (true, p1.ff.set ((p2).toNat) v4)))
  fun j6 =>
  (Bj p1.ff p2).bind fun v7 =>
  AO ((v7 == v4))
   (j6 true)
   (AO ((v1.fg == 4))
    ((Bj p1.fe v1.fh).bind fun v10 =>
    (GH N v1 ((Df .u8 v5 v4)) v10).bind fun v11 =>
    j6 (!v11))
    (j6 false)))
def F6 (N : Nat) (p0 : Aa) (p1 : Ac) (p2 : Ad) : Option (Ac × Bool) :=
 (Hg N p1).bind fun v1 =>
 AO ((p2.fg == 1))
  ((IP N p0 v1 p2).bind fun v3 =>
  some ((Ac.mk v1.fe v3.2.1 v3.2.2), v3.1))
  (AO ((p2.fg == 3))
   ((HB N p0 v1 p2.fi).bind fun v5 =>
   some ((Ac.mk v1.fe v1.fc v5.2), v5.1))
   ((Bj v1.fc p2.fi).bind fun v6 =>
   AO ((decide (v6 < 0)))
    (some (v1, false))
    ((Bj v1.fc p2.fi).bind fun _ =>
    Bd (fun (v9 : (List Int)) =>
     some ((Ac.mk v9 (v1.fc.set ((p2.fi).toNat) ((-1))) v1.ff), true))
    fun j9 =>
    AO ((p2.fg == 2))
     ((Bj v1.fe p2.fi).bind fun _ =>
     j9 (v1.fe.set ((p2.fi).toNat) v6))
     (j9 v1.fe))))
def DO (N : Nat) (p0 : Ad) (p1 : List Int) (p2 : List Int) (p3 : List Int) (p4 : List An) (p5 : List Int) (p6 : List Int) (p7 : List Int) : Option Bool :=
 (F6 N ((Aa.mk p1 p2 p3 p4)) ((Ac.mk p5 p6 p7)) p0).bind fun v1 =>
 some ((!v1.2))
def A4 (N : Nat) (p0 : List Ad) (p1 : Ad → Option Bool) (j1 : Unit → Option Int) : Nat → Int → Option Int
 | 0, _ => none
 | n1 + 1, v1 =>
  AO ((decide (v1 < (p0.length : Int))))
   ((Bj p0 v1).bind fun v4 =>
   (p1 v4).bind fun v5 =>
   AO v5
    (some v1)
    (A4 N p0 p1 j1 n1 (wI .i64 (v1 + 1))))
   (j1 ())
def BU (N : Nat) (p0 : List Ad) (p1 : Ad → Option Bool) : Option Int :=
 A4 N p0 p1 (fun (_ : Unit) =>
  some ((-1))) N 0
def AY (N : Nat) (p1 : Ad → Option Bool) (j3 : ((List Ad) × Int) → Option (Nat × (List Ad))) : Nat → ((List Ad) × Int × Int) → Option (Nat × (List Ad))
 | 0, _ => none
 | n3 + 1, v3 =>
  AO ((decide (v3.2.2 < (v3.1.length : Int))))
   (Bd (fun (v6 : (List Ad) × Int) =>
    AY N p1 j3 n3 (v6.1, v6.2, (wI .i64 (v3.2.2 + 1))))
   fun j6 =>
   (Bj v3.1 v3.2.2).bind fun v7 =>
   (p1 v7).bind fun v8 =>
   AO ((!v8))
    ((Bj v3.1 v3.2.1).bind fun _ =>
    j6 (v3.1.set ((v3.2.1).toNat) v7, (wI .i64 (v3.2.1 + 1))))
    (j6 (v3.1, v3.2.1)))
   (j3 (v3.1, v3.2.1))
def BQ (N : Nat) (p0 : List Ad) (p1 : Ad → Option Bool) : Option (Nat × (List Ad)) :=
 (BU N p0 p1).bind fun v1 =>
 AO ((v1 == (-1)))
  (some (p0.length, p0))
  (AY N p1 (fun (v4 : (List Ad) × Int) =>
   (DI ((0 : Int) ≤ v4.2 ∧ (v4.2).toNat ≤ v4.1.length ∧ v4.1.length ≤ v4.1.length)).bind fun _ =>
   (DI ((0 : Int) ≤ v4.2 ∧ 0 ≤ (v4.2).toNat ∧ (v4.2).toNat ≤ (JC v4.1 ((v4.2).toNat) (zH ((v4.1.length - (v4.2).toNat)) ((Ad.mk 0 0 0)))).length)).bind fun _ =>
   some ((v4.2).toNat, JC v4.1 ((v4.2).toNat) (zH ((v4.1.length - (v4.2).toNat)) ((Ad.mk 0 0 0))))) N (p0, v1, (wI .i64 (v1 + 1))))
def GR (N : Nat) (p0 : Aa) (p1 : Ac) : Option ((List Ad) × Int) :=
 (FX N p0 p1).bind fun v1 =>
 AO ((v1 != 0))
  (some (([] : List Ad), v1))
  ((I0 N p0).bind fun v3 =>
  (BQ N v3 ((fun (x : Ad) => DO N x p0.fb p0.fj p0.fo p0.fd p1.fe p1.fc p1.ff))).bind fun v4 =>
  (DI (v4.1 ≤ v4.2.length)).bind fun _ =>
  some (v4.2.take v4.1, 0))
def HJ (_ : Nat) (p0 : Ad) : Option Bool :=
 Bd (fun (v1 : Bool) =>
  AO v1
   (some false)
   (Bd (fun (v5 : Bool) =>
    some v5)
   fun j5 =>
   AO ((p0.fg == 1))
    (j5 true)
    (j5 (p0.fp == 0))))
 fun j1 =>
 AO ((decide ((XS p0.fi p0.fp) < 0)))
  (j1 true)
  (AO ((decide (p0.fg < 1)))
   (j1 true)
   (j1 (decide (4 < p0.fg))))
def Hf (_ : Nat) (p0 : Aa) (p1 : Ad) : Option Bool :=
 AO ((p1.fg == 3))
  (some ((decide (p1.fi < (p0.fd.length : Int)))))
  (Bd (fun (v2 : Bool) =>
   some v2)
  fun j2 =>
  AO ((decide (p1.fi < (p0.fb.length : Int))))
   (AO ((p1.fg != 1))
    (j2 true)
    ((Bj p0.fb p1.fi).bind fun v5 =>
    j2 (decide (p1.fp < v5))))
   (j2 false))
def HE (N : Nat) (p0 : Aa) (p1 : Ac) (p2 : Ad) : Option (Ac × Int) :=
 (HJ N p2).bind fun v1 =>
 AO ((!v1))
  (some ((Ac.mk (([] : List Int)) (([] : List Int)) (([] : List Int))), 1))
  ((Hf N p0 p2).bind fun v3 =>
  AO ((!v3))
   (some ((Ac.mk (([] : List Int)) (([] : List Int)) (([] : List Int))), 4))
   ((F6 N p0 p1 p2).bind fun v5 =>
   AO ((!v5.2))
    (some ((Ac.mk (([] : List Int)) (([] : List Int)) (([] : List Int))), 11))
    (some (v5.1, 0))))
def HN (N : Nat) (p0 : Aa) (p1 : Ac) (p2 : Ad) : Option (Ac × Int) :=
 (FX N p0 p1).bind fun v1 =>
 AO ((v1 != 0))
  (some ((Ac.mk (([] : List Int)) (([] : List Int)) (([] : List Int))), v1))
  ((HE N p0 p1 p2).bind fun v3 =>
  some (v3.1, v3.2))
def Cy (N : Nat) (p0 : Aa) (v2 : (List AF) × (List (ByteArray × Int)) × Int) (v6 : (List Ad) × Int) (j8 : ((List AF) × (List (ByteArray × Int))) → Option ((List AF) × Int)) : Nat → ((List AF) × (List (ByteArray × Int)) × Int) → Option ((List AF) × Int)
 | 0, _ => none
 | n8 + 1, v8 =>
  AO ((decide (v8.2.2 < (v6.1.length : Int))))
   ((Bj v6.1 v8.2.2).bind fun v11 =>
   (Bj v8.1 v2.2.2).bind fun v12 =>
   (HN N p0 ((Ac.mk v12.fq.fe v12.fq.fc v12.fq.ff)) v11).bind fun v13 =>
   AO ((v13.2 != 0))
    (some (([] : List AF), v13.2))
    ((H7 N v13.1).bind fun v15 =>
    Bd (fun (v16 : (List AF) × (List (ByteArray × Int)) × Int) =>
     Bd (fun (v24 : (List AF)) =>
      AO ((decide (20000 < (v24.length : Int))))
       (some (([] : List AF), 3))
       (Cy N p0 v2 v6 j8 n8 (v24, v16.2.1, (wI .i64 (v8.2.2 + 1)))))
     fun j24 =>
     AO ((decide (0 ≤ v16.2.2)))
      ((Bj v16.1 v2.2.2).bind fun v26 =>
      (DI (v26.fc.length + (([v16.2.2] : List Int)).length ≤ C4)).bind fun _ =>
      (Bj v16.1 v2.2.2).bind fun v28 =>
      j24 (v16.1.set ((v2.2.2).toNat) ((AF.mk ((Ac.mk v28.fq.fe v28.fq.fc v28.fq.ff)) v28.fh ((Ad.mk v28.fu.fg v28.fu.fi v28.fu.fp)) (v26.fc ++ (([v16.2.2] : List Int)))))))
      (j24 v16.1))
    fun j16 =>
    AO ((!((IG v15 v8.2.1).isSome)))
     (Bd (fun (v18 : (List AF) × Int) =>
      j16 (v18.1, Ly v15 v18.2 v8.2.1, v18.2))
     fun j18 =>
     (GW N p0 v13.1).bind fun v19 =>
     Bd (fun (v20 : Bool) =>
      AO v20
       (j18 (v8.1, (-1)))
       ((DI (v8.1.length + (([(AF.mk v13.1 v2.2.2 v11 (([] : List Int)))] : List AF)).length ≤ C4)).bind fun _ =>
       j18 (v8.1 ++ (([(AF.mk v13.1 v2.2.2 v11 (([] : List Int)))] : List AF)), (v8.1.length : Int))))
     fun j20 =>
     AO ((v19.2 != 0))
      (j20 true)
      (j20 (!v19.1)))
     (j16 (v8.1, v8.2.1, ((IG v15 v8.2.1).getD 0)))))
   (j8 (v8.1, v8.2.1))
def DR (N : Nat) (p0 : Aa) (j2 : ((List AF)) → Option ((List AF) × Int)) : Nat → ((List AF) × (List (ByteArray × Int)) × Int) → Option ((List AF) × Int)
 | 0, _ => none
 | n2 + 1, v2 =>
  AO ((decide (v2.2.2 < (v2.1.length : Int))))
   ((Bj v2.1 v2.2.2).bind fun v5 =>
   (GR N p0 ((Ac.mk v5.fq.fe v5.fq.fc v5.fq.ff))).bind fun v6 =>
   AO ((v6.2 != 0))
    (some (([] : List AF), v6.2))
    (Cy N p0 v2 v6 (fun (v9 : (List AF) × (List (ByteArray × Int))) =>
     DR N p0 j2 n2 (v9.1, v9.2, (wI .i64 (v2.2.2 + 1)))) N (v2.1, v2.2.1, 0)))
   (j2 v2.1)
def Hd (N : Nat) (p0 : Aa) (p1 : Ac) : Option ((List AF) × Int) :=
 (H7 N p1).bind fun v1 =>
 DR N p0 (fun (v3 : (List AF)) =>
  some (v3, 0)) N (([(AF.mk p1 ((-1)) ((Ad.mk 0 0 0)) (([] : List Int)))] : List AF), Ly v1 0 (([] : List (ByteArray × Int))), 0)
def Be (N : Nat) (p0 : List Int) (p1 : List Int) (j2 : Unit → Option Bool) : Nat → Int → Option Bool
 | 0, _ => none
 | n2 + 1, v2 =>
  AO ((decide (v2 < (p0.length : Int))))
   ((Bj p0 v2).bind fun v5 =>
   (Bj p1 v2).bind fun v6 =>
   AO ((v5 != v6))
    (some false)
    (Be N p0 p1 j2 n2 (wI .i64 (v2 + 1))))
   (j2 ())
def A6 (N : Nat) (p0 : List Int) (p1 : List Int) : Option Bool :=
 AO (((p0.length : Int) != (p1.length : Int)))
  (some false)
  (Be N p0 p1 (fun (_ : Unit) =>
   some true) N 0)
def Bq (N : Nat) (p0 : List Int) (p1 : Int → Option Bool) (j1 : Unit → Option Int) : Nat → Int → Option Int
 | 0, _ => none
 | n1 + 1, v1 =>
  AO ((decide (v1 < (p0.length : Int))))
   ((Bj p0 v1).bind fun v4 =>
   (p1 v4).bind fun v5 =>
   AO v5
    (some v1)
    (Bq N p0 p1 j1 n1 (wI .i64 (v1 + 1))))
   (j1 ())
def Ek (N : Nat) (p0 : List Int) (p1 : Int → Option Bool) : Option Int :=
 Bq N p0 p1 (fun (_ : Unit) =>
  some ((-1))) N 0
def CO (N : Nat) (p0 : List Int) (p1 : Int → Option Bool) : Option Bool :=
 (Ek N p0 p1).bind fun v1 =>
 some ((decide (0 ≤ v1)))
def HF (_ : Nat) (p0 : Int) : Option Bool :=
 some ((decide (0 ≤ p0)))
def I8 (N : Nat) (p0 : Aa) (p1 : Ac) : Option Bool :=
 Bd (fun (v1 : Bool) =>
  some v1)
 fun j1 =>
 (FX N p0 p1).bind fun v2 =>
 AO ((v2 == 0))
  ((A6 N p1.fe p0.fo).bind fun v4 =>
  AO v4
   ((CO N p1.fc ((fun (x : Int) => HF N x))).bind fun v6 =>
   j1 (!v6))
   (j1 false))
  (j1 false)
def E4 (N : Nat) (p0 : AF) (p1 : List Int) (p2 : List Int) (p3 : List Int) (p4 : List An) : Option Bool :=
 (I8 N ((Aa.mk p1 p2 p3 p4)) ((Ac.mk p0.fq.fe p0.fq.fc p0.fq.ff))).bind fun v1 =>
 some v1
def AX (N : Nat) (p0 : List AF) (p1 : AF → Option Bool) (j1 : Unit → Option Int) : Nat → Int → Option Int
 | 0, _ => none
 | n1 + 1, v1 =>
  AO ((decide (v1 < (p0.length : Int))))
   ((Bj p0 v1).bind fun v4 =>
   (p1 ((AF.mk ((Ac.mk v4.fq.fe v4.fq.fc v4.fq.ff)) v4.fh ((Ad.mk v4.fu.fg v4.fu.fi v4.fu.fp)) v4.fc))).bind fun v5 =>
   AO v5
    (some v1)
    (AX N p0 p1 j1 n1 (wI .i64 (v1 + 1))))
   (j1 ())
def Cn (N : Nat) (p0 : List AF) (p1 : AF → Option Bool) : Option Int :=
 AX N p0 p1 (fun (_ : Unit) =>
  some ((-1))) N 0
def Bn (N : Nat) (j1 : ((List Ad)) → Option ((List Ad))) : Nat → ((List Ad) × Int × Int) → Option ((List Ad))
 | 0, _ => none
 | n1 + 1, v1 =>
  AO ((decide (v1.2.1 < v1.2.2)))
   ((Bj v1.1 v1.2.2).bind fun v4 =>
   (Bj v1.1 v1.2.1).bind fun v5 =>
   (Bj v1.1 v1.2.1).bind fun _ =>
   (Bj (v1.1.set ((v1.2.1).toNat) v4) v1.2.2).bind fun _ =>
   Bn N j1 n1 ((v1.1.set ((v1.2.1).toNat) v4).set ((v1.2.2).toNat) v5, (wI .i64 (v1.2.1 + 1)), (wI .i64 (v1.2.2 - 1))))
   (j1 v1.1)
def BB (N : Nat) (p0 : List Ad) : Option ((List Ad)) :=
 Bn N (fun (v2 : (List Ad)) =>
  some v2) N (p0, 0, (wI .i64 ((p0.length : Int) - 1)))
def Gq (N : Nat) (p0 : List AF) (j1 : ((List Ad)) → Option ((List Ad))) : Nat → (Int × (List Ad)) → Option ((List Ad))
 | 0, _ => none
 | n1 + 1, v1 =>
  (Bj p0 v1.1).bind fun v3 =>
  AO ((decide (0 ≤ v3.fh)))
   ((Bj p0 v1.1).bind fun v5 =>
   (DI (v1.2.length + (([(Ad.mk v5.fu.fg v5.fu.fi v5.fu.fp)] : List Ad)).length ≤ C4)).bind fun _ =>
   (Bj p0 v1.1).bind fun v7 =>
   Gq N p0 j1 n1 (v7.fh, v1.2 ++ (([(Ad.mk v5.fu.fg v5.fu.fi v5.fu.fp)] : List Ad))))
   (j1 v1.2)
def Kq (N : Nat) (p0 : List AF) (p1 : Int) : Option ((List Ad)) :=
 Gq N p0 (fun (v2 : (List Ad)) =>
  (BB N v2).bind fun v8 =>
  some v8) N (p1, ([] : List Ad))
def FZ (N : Nat) (p0 : Aa) (p1 : Ac) : Option ((List Ad) × Int) :=
 (GW N p0 p1).bind fun v1 =>
 AO ((v1.2 != 0))
  (some (([] : List Ad), v1.2))
  (AO ((!v1.1))
   (some (([] : List Ad), 13))
   ((Hd N p0 p1).bind fun v4 =>
   AO ((v4.2 != 0))
    (some (([] : List Ad), v4.2))
    ((Cn N v4.1 ((fun (x : AF) => E4 N x p0.fb p0.fj p0.fo p0.fd))).bind fun v6 =>
    AO ((decide (v6 < 0)))
     (some (([] : List Ad), 14))
     ((Kq N v4.1 v6).bind fun v8 =>
     some (v8, 0)))))
def GJ (N : Nat) (p0 : Aa) : Option ((List Ad) × Int) :=
 (Ij N p0).bind fun v1 =>
 AO ((v1.2 != 0))
  (some (([] : List Ad), v1.2))
  ((FZ N p0 v1.1).bind fun v3 =>
  some (v3.1, v3.2))
def FC (N : Nat) (p0 : Aa) (p1 : List Int) : Option (Bool × Int) :=
 (Cf N p0).bind fun v1 =>
 AO ((v1 != 0))
  (some (false, v1))
  ((FV N p0 p1).bind fun v3 =>
  AO ((v3.2 != 0))
   (some (false, v3.2))
   ((GJ N v3.1).bind fun v5 =>
   AO ((v5.2 == 0))
    (some (false, 0))
    (AO ((v5.2 == 3))
     (some (false, v5.2))
     (some (true, 0)))))
def Ig (N : Nat) (p0 : Aa) (p1 : Int) : Option (Bool × Int) :=
 (Bs N p1).bind fun v1 =>
 (FC N p0 v1).bind fun v2 =>
 some (v2.1, v2.2)
def Fv (N : Nat) (p0 : Aa) (j4 : ((List Int)) → Option ((List Int) × (List (Int × Bool)) × Int)) : Nat → ((List Int) × Int) → Option ((List Int) × (List (Int × Bool)) × Int)
 | 0, _ => none
 | n4 + 1, v4 =>
  AO ((decide (v4.2 < (D1 .u64 1 ((p0.fb.length : Int))))))
   ((DI (v4.1.length + (([v4.2] : List Int)).length ≤ C4)).bind fun _ =>
   Fv N p0 j4 n4 (v4.1 ++ (([v4.2] : List Int)), (wI .u64 (v4.2 + 1))))
   (j4 v4.1)
def EN (N : Nat) (p0 : Aa) (v8 : (List Int)) (j9 : ((List (Int × Bool))) → Option ((List Int) × (List (Int × Bool)) × Int)) : Nat → ((List (Int × Bool)) × Int) → Option ((List Int) × (List (Int × Bool)) × Int)
 | 0, _ => none
 | n9 + 1, v9 =>
  AO ((decide (v9.2 < (v8.length : Int))))
   ((Bj v8 v9.2).bind fun v12 =>
   (Ig N p0 v12).bind fun v13 =>
   AO ((v13.2 != 0))
    (some (([] : List Int), ([] : List (Int × Bool)), v13.2))
    (EN N p0 v8 j9 n9 (Ly v12 v13.1 v9.1, (wI .i64 (v9.2 + 1)))))
   (j9 v9.1)
def F3 (N : Nat) (p0 : Aa) : Option ((List Int) × (List (Int × Bool)) × Int) :=
 (Cf N p0).bind fun v1 =>
 AO ((v1 != 0))
  (some (([] : List Int), ([] : List (Int × Bool)), v1))
  ((DI (0 ≤ (p0.fb.length : Int))).bind fun _ =>
  Fv N p0 (fun (v5 : (List Int)) =>
   (By N v5 ((fun (x : Int × Int) => DE N x.1 x.2))).bind fun v8 =>
   EN N p0 v8 (fun (v10 : (List (Int × Bool))) =>
    some (v8, v10, 0)) N (([] : List (Int × Bool)), 0)) N (([] : List Int), 0))
def FU (_ : Nat) (p0 : Int) (p1 : Int) : Option Bool :=
 some (((Df .u64 p0 p1) == 0))
def Dk (N : Nat) (p0 : List Int) (p1 : Int → Option Bool) (j1 : Unit → Option Int) : Nat → Int → Option Int
 | 0, _ => none
 | n1 + 1, v1 =>
  AO ((decide (v1 < (p0.length : Int))))
   ((Bj p0 v1).bind fun v4 =>
   (p1 v4).bind fun v5 =>
   AO v5
    (some v1)
    (Dk N p0 p1 j1 n1 (wI .i64 (v1 + 1))))
   (j1 ())
def DP (N : Nat) (p0 : List Int) (p1 : Int → Option Bool) : Option Int :=
 Dk N p0 p1 (fun (_ : Unit) =>
  some ((-1))) N 0
def Dh (N : Nat) (p0 : List Int) (p1 : Int → Option Bool) : Option Bool :=
 (DP N p0 p1).bind fun v1 =>
 some ((decide (0 ≤ v1)))
def GM (N : Nat) (p0 : List Int) (p1 : List (Int × Bool)) (j1 : ((List Int)) → Option ((List Int))) : Nat → ((List Int) × Int) → Option ((List Int))
 | 0, _ => none
 | n1 + 1, v1 =>
  AO ((decide (v1.2 < (p0.length : Int))))
   (Bd (fun (v4 : (List Int)) =>
    GM N p0 p1 j1 n1 (v4, (wI .i64 (v1.2 + 1))))
   fun j4 =>
   (Bj p0 v1.2).bind fun v5 =>
   Bd (fun (v6 : Bool) =>
    AO v6
     ((DI (v1.1.length + (([v5] : List Int)).length ≤ C4)).bind fun _ =>
     j4 (v1.1 ++ (([v5] : List Int))))
     (j4 v1.1))
   fun j6 =>
   AO (((IG v5 p1).getD false))
    ((Dh N v1.1 ((fun (x : Int) => FU N x v5))).bind fun v8 =>
    j6 (!v8))
    (j6 false))
   (j1 v1.1)
def Fj (N : Nat) (p0 : List Int) (p1 : List (Int × Bool)) : Option ((List Int)) :=
 GM N p0 p1 (fun (v2 : (List Int)) =>
  some v2) N (([] : List Int), 0)
def Hr (N : Nat) (p0 : List Int) (j1 : ((List (List Int))) → Option ((List (List Int)))) : Nat → ((List (List Int)) × Int) → Option ((List (List Int)))
 | 0, _ => none
 | n1 + 1, v1 =>
  AO ((decide (v1.2 < (p0.length : Int))))
   ((Bj p0 v1.2).bind fun v4 =>
   (Bs N v4).bind fun v5 =>
   (DI (v1.1.length + (([v5] : List (List Int))).length ≤ C4)).bind fun _ =>
   Hr N p0 j1 n1 (v1.1 ++ (([v5] : List (List Int))), (wI .i64 (v1.2 + 1))))
   (j1 v1.1)
def GX (N : Nat) (p0 : List Int) : Option ((List (List Int))) :=
 Hr N p0 (fun (v2 : (List (List Int))) =>
  some v2) N (([] : List (List Int)), 0)
def Gt (N : Nat) (p0 : Aa) : Option ((List (List Int)) × Int) :=
 (F3 N p0).bind fun v1 =>
 AO ((v1.2.2 != 0))
  (some (([] : List (List Int)), v1.2.2))
  ((Fj N v1.1 v1.2.1).bind fun v3 =>
  (GX N v3).bind fun v4 =>
  some (v4, 0))
def DK (_ : Nat) (p0 : List Int) : Option ((List Int)) :=
 (DI ((([] : List Int)).length + p0.length ≤ C4)).bind fun _ =>
 some ((([] : List Int)) ++ p0)
def Gf (_ : Nat) (p0 : Int) (p1 : List (Int × Bool)) (p2 : Int) : Option Bool :=
 Bd (fun (v1 : Bool) =>
  some v1)
 fun j1 =>
 AO ((!(((IG p0 p1).getD false))))
  (AO ((p0 != p2))
   (j1 ((Df .u64 p2 p0) == 0))
   (j1 false))
  (j1 false)
def Fx (N : Nat) (p0 : Int) (p1 : List (Int × Bool)) (p2 : List Int) : Option Bool :=
 Bd (fun (v1 : Bool) =>
  some v1)
 fun j1 =>
 AO (((IG p0 p1).getD false))
  (j1 true)
  ((Dh N p2 ((fun (x : Int) => Gf N x p1 p0))).bind fun v3 =>
  j1 v3)
def Dd (N : Nat) (p1 : Int → Option Bool) (j3 : ((List Int) × Int) → Option (Nat × (List Int))) : Nat → ((List Int) × Int × Int) → Option (Nat × (List Int))
 | 0, _ => none
 | n3 + 1, v3 =>
  AO ((decide (v3.2.2 < (v3.1.length : Int))))
   (Bd (fun (v6 : (List Int) × Int) =>
    Dd N p1 j3 n3 (v6.1, v6.2, (wI .i64 (v3.2.2 + 1))))
   fun j6 =>
   (Bj v3.1 v3.2.2).bind fun v7 =>
   (p1 v7).bind fun v8 =>
   AO ((!v8))
    ((Bj v3.1 v3.2.1).bind fun _ =>
    j6 (v3.1.set ((v3.2.1).toNat) v7, (wI .i64 (v3.2.1 + 1))))
    (j6 (v3.1, v3.2.1)))
   (j3 (v3.1, v3.2.1))
def CU (N : Nat) (p0 : List Int) (p1 : Int → Option Bool) : Option (Nat × (List Int)) :=
 (DP N p0 p1).bind fun v1 =>
 AO ((v1 == (-1)))
  (some (p0.length, p0))
  (Dd N p1 (fun (v4 : (List Int) × Int) =>
   (DI ((0 : Int) ≤ v4.2 ∧ (v4.2).toNat ≤ v4.1.length ∧ v4.1.length ≤ v4.1.length)).bind fun _ =>
   (DI ((0 : Int) ≤ v4.2 ∧ 0 ≤ (v4.2).toNat ∧ (v4.2).toNat ≤ (JC v4.1 ((v4.2).toNat) (zH ((v4.1.length - (v4.2).toNat)) ((0 : Int)))).length)).bind fun _ =>
   some ((v4.2).toNat, JC v4.1 ((v4.2).toNat) (zH ((v4.1.length - (v4.2).toNat)) ((0 : Int))))) N (p0, v1, (wI .i64 (v1 + 1))))
def Ik (N : Nat) (p0 : Aa) : Option ((List (List Int)) × Int) :=
 (F3 N p0).bind fun v1 =>
 AO ((v1.2.2 != 0))
  (some (([] : List (List Int)), v1.2.2))
  ((DK N v1.1).bind fun v3 =>
  (CU N v3 ((fun (x : Int) => Fx N x v1.2.1 v1.1))).bind fun v4 =>
  (DI (v4.1 ≤ v4.2.length)).bind fun _ =>
  (GX N (v4.2.take v4.1)).bind fun v7 =>
  some (v7, 0))
def C6 (N : Nat) (p0 : List Int) (p1 : List Int) (j2 : Unit → Option Bool) : Nat → Int → Option Bool
 | 0, _ => none
 | n2 + 1, v2 =>
  AO ((decide (v2 < (p0.length : Int))))
   ((Bj p0 v2).bind fun v5 =>
   (Bj p1 v2).bind fun v6 =>
   AO ((v5 != v6))
    (some false)
    (C6 N p0 p1 j2 n2 (wI .i64 (v2 + 1))))
   (j2 ())
def Fo (N : Nat) (p0 : List Int) (p1 : List Int) : Option Bool :=
 AO (((p0.length : Int) != (p1.length : Int)))
  (some false)
  (C6 N p0 p1 (fun (_ : Unit) =>
   some true) N 0)
def CV (N : Nat) (p0 : List (List Int)) (p1 : List (List Int)) (j2 : Unit → Option Bool) : Nat → Int → Option Bool
 | 0, _ => none
 | n2 + 1, v2 =>
  AO ((decide (v2 < (p0.length : Int))))
   ((Bj p0 v2).bind fun v5 =>
   (Bj p1 v2).bind fun v6 =>
   (Fo N v5 v6).bind fun v7 =>
   AO ((!v7))
    (some false)
    (CV N p0 p1 j2 n2 (wI .i64 (v2 + 1))))
   (j2 ())
def Cq (N : Nat) (p0 : List (List Int)) (p1 : List (List Int)) : Option Bool :=
 AO (((p0.length : Int) != (p1.length : Int)))
  (some false)
  (CV N p0 p1 (fun (_ : Unit) =>
   some true) N 0)
def Fg (N : Nat) (j1 : Unit → Option Bool) : Nat → Int → Option Bool
 | 0, _ => none
 | n1 + 1, v1 =>
  AO ((decide (v1 < ((([false, true] : List Bool)).length : Int))))
   ((Bj (([false, true] : List Bool)) v1).bind fun v4 =>
   (Es N v4).bind fun v5 =>
   (Gt N v5).bind fun v6 =>
   (Es N v4).bind fun v7 =>
   (Ik N v7).bind fun v8 =>
   (Es N v4).bind fun v9 =>
   (FC N v9 (([0, 2] : List Int))).bind fun v10 =>
   Bd (fun (v11 : Bool) =>
    AO v11
     (some false)
     (Fg N j1 n1 (wI .i64 (v1 + 1))))
   fun j11 =>
   AO ((v6.2 != 0))
    (j11 true)
    (AO ((v8.2 != 0))
     (j11 true)
     (AO ((v10.2 != 0))
      (j11 true)
      (AO v10.1
       (j11 true)
       ((Cq N v6.1 (([([0, 1] : List Int)] : List (List Int)))).bind fun v16 =>
       AO ((!v16))
        (j11 true)
        ((Cq N v8.1 (([([0, 2] : List Int), ([1, 2] : List Int)] : List (List Int)))).bind fun v18 =>
        j11 (!v18)))))))
   (j1 ())
def E3 (N : Nat) : Option Bool :=
 Fg N (fun (_ : Unit) =>
  some true) N 0
def Db (N : Nat) (p0 : Aa) (p1 : Ac) (j3 : Unit → Option Bool) : Nat → Int → Option Bool
 | 0, _ => none
 | n3 + 1, v3 =>
  AO ((decide (v3 < (p1.fe.length : Int))))
   (Bd (fun (v6 : Bool) =>
    AO v6
     (some false)
     (Db N p0 p1 j3 n3 (wI .i64 (v3 + 1))))
   fun j6 =>
   (Bj p1.fc v3).bind fun v7 =>
   AO ((decide (0 ≤ v7)))
    (j6 true)
    ((Bj p1.fe v3).bind fun v9 =>
    (Bj p0.fo v3).bind fun v10 =>
    j6 (v9 != v10)))
   (j3 ())
def Fl (N : Nat) (p0 : Aa) (p1 : Ac) : Option Bool :=
 (Dy N p0 p1).bind fun v1 =>
 AO ((v1 != 0))
  (some false)
  (Db N p0 p1 (fun (_ : Unit) =>
   some true) N 0)
def DU (N : Nat) (p0 : List AD) (j1 : ((List Ad)) → Option ((List Ad))) : Nat → (Int × (List Ad)) → Option ((List Ad))
 | 0, _ => none
 | n1 + 1, v1 =>
  (Bj p0 v1.1).bind fun v3 =>
  AO ((decide (0 ≤ v3.fB)))
   ((Bj p0 v1.1).bind fun v5 =>
   (DI ((([(Ad.mk v5.fu.fg v5.fu.fi v5.fu.fp)] : List Ad)).length + v1.2.length ≤ C4)).bind fun _ =>
   (Bj p0 v1.1).bind fun v7 =>
   DU N p0 j1 n1 (v7.fB, (([(Ad.mk v5.fu.fg v5.fu.fi v5.fu.fp)] : List Ad)) ++ v1.2))
   (j1 v1.2)
def Gy (N : Nat) (p0 : List AD) (p1 : Int) : Option ((List Ad)) :=
 DU N p0 (fun (v2 : (List Ad)) =>
  some v2) N (p1, ([] : List Ad))
def Cr (N : Nat) (p0 : Aa) (v5 : (List AD) × Bool) (j7 : Unit → Option ((List Ad) × Int)) : Nat → Int → Option ((List Ad) × Int)
 | 0, _ => none
 | n7 + 1, v7 =>
  AO ((decide (v7 < (v5.1.length : Int))))
   ((Bj v5.1 v7).bind fun v10 =>
   (Fl N p0 ((Ac.mk v10.fv.fe v10.fv.fc v10.fv.ff))).bind fun v11 =>
   AO v11
    ((Gy N v5.1 v7).bind fun v13 =>
    some (v13, 0))
    (Cr N p0 v5 j7 n7 (wI .i64 (v7 + 1))))
   (j7 ())
def Ey (N : Nat) (p0 : Aa) (p1 : Ac) : Option ((List Ad) × Int) :=
 (Dy N p0 p1).bind fun v1 =>
 AO ((v1 != 0))
  (some (([] : List Ad), v1))
  ((CP N p0 p1).bind fun v3 =>
  AO ((!v3))
   (some (([] : List Ad), 13))
   ((CZ N p0 p1 20000).bind fun v5 =>
   AO ((!v5.2))
    (some (([] : List Ad), 3))
    (Cr N p0 v5 (fun (_ : Unit) =>
     some (([] : List Ad), 14)) N 0)))
def Fm (N : Nat) (p0 : Aa) : Option ((List Ad) × Int) :=
 (Ee N p0).bind fun v1 =>
 AO ((v1.2 != 0))
  (some (([] : List Ad), v1.2))
  ((Ey N p0 v1.1).bind fun v3 =>
  some (v3.1, v3.2))
def DS (N : Nat) (p0 : Aa) (p1 : List Int) : Option (Bool × Int) :=
 (Dq N p0 p1).bind fun v1 =>
 AO ((v1.2 != 0))
  (some (false, v1.2))
  ((Fm N v1.1).bind fun v3 =>
  AO ((v3.2 == 3))
   (some (false, v3.2))
   (some ((v3.2 != 0), 0)))
def CN (N : Nat) (p0 : Aa) (v3 : (List (List Int))) (j4 : ((List Bool)) → Option ((List (List Int)) × (List Bool) × Int)) : Nat → ((List Bool) × Int) → Option ((List (List Int)) × (List Bool) × Int)
 | 0, _ => none
 | n4 + 1, v4 =>
  AO ((decide (v4.2 < (v3.length : Int))))
   ((Bj v3 v4.2).bind fun v7 =>
   (DS N p0 v7).bind fun v8 =>
   AO ((v8.2 != 0))
    (some (([] : List (List Int)), ([] : List Bool), v8.2))
    ((DI (v4.1.length + (([v8.1] : List Bool)).length ≤ C4)).bind fun _ =>
    CN N p0 v3 j4 n4 (v4.1 ++ (([v8.1] : List Bool)), (wI .i64 (v4.2 + 1)))))
   (j4 v4.1)
def Dr (N : Nat) (p0 : Aa) : Option ((List (List Int)) × (List Bool) × Int) :=
 (Br N p0).bind fun v1 =>
 AO ((v1 != 0))
  (some (([] : List (List Int)), ([] : List Bool), v1))
  ((CK N ((p0.fb.length : Int))).bind fun v3 =>
  CN N p0 v3 (fun (v5 : (List Bool)) =>
   some (v3, v5, 0)) N (([] : List Bool), 0))
def EX (N : Nat) (p0 : List Int) (p1 : List Int) (v1 : Int) (j4 : Bool → Option Bool) : Nat → (Bool × Int) → Option Bool
 | 0, _ => none
 | n4 + 1, v4 =>
  AO ((decide (v4.2 < (p1.length : Int))))
   (Bd (fun (v7 : Bool) =>
    EX N p0 p1 v1 j4 n4 (v7, (wI .i64 (v4.2 + 1))))
   fun j7 =>
   AO v4.1
    (j7 true)
    ((Bj p1 v4.2).bind fun v9 =>
    (Bj p0 v1).bind fun v10 =>
    j7 (v9 == v10)))
   (j4 v4.1)
def EV (N : Nat) (p0 : List Int) (p1 : List Int) (j1 : Unit → Option Bool) : Nat → Int → Option Bool
 | 0, _ => none
 | n1 + 1, v1 =>
  AO ((decide (v1 < (p0.length : Int))))
   (EX N p0 p1 v1 (fun (v5 : Bool) =>
    AO ((!v5))
     (some false)
     (EV N p0 p1 j1 n1 (wI .i64 (v1 + 1)))) N (false, 0))
   (j1 ())
def EE (N : Nat) (p0 : List Int) (p1 : List Int) : Option Bool :=
 EV N p0 p1 (fun (_ : Unit) =>
  some true) N 0
def FH (N : Nat) (v1 : (List (List Int)) × (List Bool) × Int) (v2 : (List (List Int)) × Int) (j7 : Bool → Option ((List (List Int)) × Int)) : Nat → (Bool × Int) → Option ((List (List Int)) × Int)
 | 0, _ => none
 | n7 + 1, v7 =>
  AO ((decide (v7.2 < (v1.1.length : Int))))
   (Bd (fun (v10 : Bool) =>
    FH N v1 v2 j7 n7 (v10, (wI .i64 (v7.2 + 1))))
   fun j10 =>
   Bd (fun (v11 : Bool) =>
    AO v11
     (j10 false)
     (j10 v7.1))
   fun j11 =>
   (Bj v1.2.1 v7.2).bind fun v12 =>
   AO v12
    (AO ((v7.2 != v2.2))
     ((Bj v1.1 v7.2).bind fun v15 =>
     (Bj v1.1 v2.2).bind fun v16 =>
     (EE N v15 v16).bind fun v17 =>
     j11 v17)
     (j11 false))
    (j11 false))
   (j7 v7.1)
def EJ (N : Nat) (v1 : (List (List Int)) × (List Bool) × Int) (j2 : ((List (List Int))) → Option ((List (List Int)) × Int)) : Nat → ((List (List Int)) × Int) → Option ((List (List Int)) × Int)
 | 0, _ => none
 | n2 + 1, v2 =>
  AO ((decide (v2.2 < (v1.1.length : Int))))
   (Bd (fun (v5 : (List (List Int))) =>
    EJ N v1 j2 n2 (v5, (wI .i64 (v2.2 + 1))))
   fun j5 =>
   (Bj v1.2.1 v2.2).bind fun v6 =>
   FH N v1 v2 (fun (v8 : Bool) =>
    AO v8
     ((Bj v1.1 v2.2).bind fun v20 =>
     (DI (v2.1.length + (([v20] : List (List Int))).length ≤ C4)).bind fun _ =>
     j5 (v2.1 ++ (([v20] : List (List Int)))))
     (j5 v2.1)) N (v6, 0))
   (j2 v2.1)
def C8 (N : Nat) (p0 : Aa) : Option ((List (List Int)) × Int) :=
 (Dr N p0).bind fun v1 =>
 EJ N v1 (fun (v3 : (List (List Int))) =>
  some (v3, v1.2.2)) N (([] : List (List Int)), 0)
def GV (N : Nat) (p0 : Aa) : Option ((List Int) × Int) :=
 (Gt N p0).bind fun v1 =>
 AO ((v1.2 != 0))
  (some (([] : List Int), v1.2))
  (AO (((v1.1.length : Int) == 0))
   (some (([] : List Int), 15))
   ((Bj v1.1 0).bind fun v4 =>
   some (v4, 0)))
def Ei (N : Nat) (p0 : Aa) : Option ((List Int) × Int) :=
 (C8 N p0).bind fun v1 =>
 AO ((v1.2 != 0))
  (some (([] : List Int), v1.2))
  (AO (((v1.1.length : Int) == 0))
   (some (([] : List Int), 15))
   ((Bj v1.1 0).bind fun v4 =>
   some (v4, 0)))
def Fn (N : Nat) (v3 : (List Int)) (j4 : Int → Option ((List Int) × Int)) : Nat → (Int × Int) → Option ((List Int) × Int)
 | 0, _ => none
 | n4 + 1, v4 =>
  AO ((decide (v4.2 < (v3.length : Int))))
   ((Bj v3 v4.2).bind fun v7 =>
   Fn N v3 j4 n4 ((PI .u64 v4.1 v7), (wI .i64 (v4.2 + 1))))
   (j4 v4.1)
def Fu (N : Nat) (p0 : Aa) : Option ((List Int) × Int) :=
 (F3 N p0).bind fun v1 =>
 AO ((v1.2.2 != 0))
  (some (([] : List Int), v1.2.2))
  ((Fj N v1.1 v1.2.1).bind fun v3 =>
  Fn N v3 (fun (v5 : Int) =>
   (Bs N v5).bind fun v8 =>
   some (v8, 0)) N (0, 0))
def Eo (N : Nat) (v1 : (List (List Int)) × Int) (v2 : (List Int) × Int) (j7 : ((List Int)) → Option ((List Int) × Int)) : Nat → Int → Option ((List Int) × Int)
 | 0, _ => none
 | n7 + 1, v7 =>
  AO ((decide (v7 < (v1.1.length : Int))))
   ((Bj v1.1 v7).bind fun v10 =>
   (EE N (([v2.2] : List Int)) v10).bind fun v11 =>
   AO v11
    ((DI (v2.1.length + (([v2.2] : List Int)).length ≤ C4)).bind fun _ =>
    j7 (v2.1 ++ (([v2.2] : List Int))))
    (Eo N v1 v2 j7 n7 (wI .i64 (v7 + 1))))
   (j7 v2.1)
def A9 (N : Nat) (p0 : Aa) (v1 : (List (List Int)) × Int) (j2 : ((List Int)) → Option ((List Int) × Int)) : Nat → ((List Int) × Int) → Option ((List Int) × Int)
 | 0, _ => none
 | n2 + 1, v2 =>
  Bd (fun (v4 : Bool) =>
   AO v4
    (Eo N v1 v2 (fun (v8 : (List Int)) =>
     A9 N p0 v1 j2 n2 (v8, (wI .i64 (v2.2 + 1)))) N 0)
    (j2 v2.1))
  fun j4 =>
  AO ((decide (v2.2 < (p0.fb.length : Int))))
   (j4 (v1.2 == 0))
   (j4 false)
def Dt (N : Nat) (p0 : Aa) : Option ((List Int) × Int) :=
 (C8 N p0).bind fun v1 =>
 A9 N p0 v1 (fun (v3 : (List Int)) =>
  some (v3, v1.2)) N (([] : List Int), 0)
def En (N : Nat) (p0 : BJ) : Option Bool :=
 (FY N p0).bind fun v1 =>
 Bd (fun (v2 : Bool) =>
  AO v2
   ((E3 N).bind fun v6 =>
   some v6)
   ((Gt N v1.1).bind fun v7 =>
   (C8 N v1.1).bind fun v8 =>
   (GV N v1.1).bind fun v9 =>
   (Ei N v1.1).bind fun v10 =>
   (Fu N v1.1).bind fun v11 =>
   (Dt N v1.1).bind fun v12 =>
   Bd (fun (v13 : Bool) =>
    some v13)
   fun j13 =>
   AO ((v7.2 == v8.2))
    (AO ((v9.2 == v10.2))
     (AO ((v11.2 == v12.2))
      ((Cq N v7.1 v8.1).bind fun v17 =>
      AO v17
       ((A6 N v9.1 v10.1).bind fun v19 =>
       AO v19
        ((A6 N v11.1 v12.1).bind fun v21 =>
        j13 v21)
        (j13 false))
       (j13 false))
      (j13 false))
     (j13 false))
    (j13 false)))
 fun j2 =>
 (E3 N).bind fun v3 =>
 AO ((!v3))
  (j2 true)
  (j2 (!v1.2))
def Iu (N : Nat) (v1 : (List (List Int)) × (List Bool) × Int) (v2 : (List (List Int)) × Int) (j7 : Bool → Option ((List (List Int)) × Int)) : Nat → (Bool × Int) → Option ((List (List Int)) × Int)
 | 0, _ => none
 | n7 + 1, v7 =>
  AO ((decide (v7.2 < (v1.1.length : Int))))
   (Bd (fun (v10 : Bool) =>
    Iu N v1 v2 j7 n7 (v10, (wI .i64 (v7.2 + 1))))
   fun j10 =>
   Bd (fun (v11 : Bool) =>
    AO v11
     (j10 false)
     (j10 v7.1))
   fun j11 =>
   (Bj v1.2.1 v7.2).bind fun v12 =>
   AO ((!v12))
    (AO ((v7.2 != v2.2))
     ((Bj v1.1 v2.2).bind fun v15 =>
     (Bj v1.1 v7.2).bind fun v16 =>
     (EE N v15 v16).bind fun v17 =>
     j11 v17)
     (j11 false))
    (j11 false))
   (j7 v7.1)
def GA (N : Nat) (v1 : (List (List Int)) × (List Bool) × Int) (j2 : ((List (List Int))) → Option ((List (List Int)) × Int)) : Nat → ((List (List Int)) × Int) → Option ((List (List Int)) × Int)
 | 0, _ => none
 | n2 + 1, v2 =>
  AO ((decide (v2.2 < (v1.1.length : Int))))
   (Bd (fun (v5 : (List (List Int))) =>
    GA N v1 j2 n2 (v5, (wI .i64 (v2.2 + 1))))
   fun j5 =>
   (Bj v1.2.1 v2.2).bind fun v6 =>
   Iu N v1 v2 (fun (v8 : Bool) =>
    AO v8
     ((Bj v1.1 v2.2).bind fun v20 =>
     (DI (v2.1.length + (([v20] : List (List Int))).length ≤ C4)).bind fun _ =>
     j5 (v2.1 ++ (([v20] : List (List Int)))))
     (j5 v2.1)) N ((!v6), 0))
   (j2 v2.1)
def Jj (N : Nat) (p0 : Aa) : Option ((List (List Int)) × Int) :=
 (Dr N p0).bind fun v1 =>
 GA N v1 (fun (v3 : (List (List Int))) =>
  some (v3, v1.2.2)) N (([] : List (List Int)), 0)
def OX {α : Type} (w : α → Prop) (xs : List α) : Prop := ∀ x, x ∈ xs → w x
def Mr (n : Int) : Prop := (Lit.int .u8 n).wf = true
def am (n : Int) : Prop := (Lit.int .u16 n).wf = true
def II (x : HR) : Prop := Mr x.fg ∧ Mr x.fh ∧ Mr x.fk ∧ (fun _ => True) x.ft ∧ am x.fy ∧ am x.fA ∧ True
def FT (x : BJ) : Prop := (OX Mr) x.fb ∧ (OX Mr) x.fj ∧ (OX Mr) x.fo ∧ (OX II) x.fw ∧ True
open Go.RowKit
open Go.Proofs
abbrev Of (x : HR) : List C := [.pure (.val (.int .u8 x.fg)), .pure (.val (.int .u8 x.fh)), .pure (.val (.int .u8 x.fk)), .pure (.val (.bool x.ft)), .pure (.val (.int .u16 x.fy)), .pure (.val (.int .u16 x.fA))]
abbrev CX (x : BJ) : List C := [sC (x.fb.map D7), sC (x.fj.map D7), sC (x.fo.map D7), sC (x.fw.map Hs)]
abbrev Bc (x : An) : List C := [iC x.fg, iC x.fh, iC x.fk, .pure (.val (.bool x.ft)), sC (x.fr.map (ED eB)), sC (x.fm.map (ED eB))]
abbrev Ag (x : Aa) : List C := [sC (x.fb.map Aj), sC (x.fj.map Aj), sC (x.fo.map Aj), sC (x.fd.map AN)]
abbrev AI (x : Ac) : List C := [sC (x.fe.map Aj), sC (x.fc.map Aj), sC (x.ff.map D7)]
abbrev Nu (x : Ap) : List C := [iC x.fC, iC x.fD, iC x.fE]
abbrev Dw (x : Ad) : List C := [iC x.fg, iC x.fi, iC x.fp]
abbrev V3 (x : AF) : List C := [sC (x.fq.fe.map Aj), sC (x.fq.fc.map Aj), sC (x.fq.ff.map D7), iC x.fh, iC x.fu.fg, iC x.fu.fi, iC x.fu.fp, sC (x.fc.map Aj)]
theorem Aw : Tryz.prog.follows .mixedOrders = true := by kernel_rfl
theorem wq {X : Ja} {y : Code} {id : Nat} {ops : Array Oper} {dr : Bool} {Q : Exit → St → Prop} {st : St} {n : Nat} (hn : ops.size = n) (h : Bg zA X ops dr (fun st' => W zA X y Q st') n 0 st []) : W zA X (.seq (.region id ops dr) y) Q st := e8 Aw hn h
theorem wp {X : Ja} {y z : Code} {id : Nat} {ops : Array Oper} {dr : Bool} {Q : Exit → St → Prop} {st : St} {n : Nat} (hn : ops.size = n) (h : Bg zA X ops dr (fun st' => W zA X y (QS (W zA X z Q) Q) st') n 0 st []) : W zA X (.seq (.seq (.region id ops dr) y) z) Q st := AL (e8 Aw hn h)
theorem cH : F0 zA 101 true = true := by kernel_rfl
theorem IX : F0 zA 120 false = true := by kernel_rfl
theorem cD : F0 zA 136 true = true := by kernel_rfl
theorem Vg : F0 zA 149 true = true := by kernel_rfl
theorem Xc : F0 zA 22 false = true := by kernel_rfl
theorem Z0 : F0 zA 23 false = true := by kernel_rfl
theorem ce : F0 zA 25 true = true := by kernel_rfl
theorem A0 : F0 zA 26 false = true := by kernel_rfl
theorem Hp : F0 zA 27 false = true := by kernel_rfl
theorem Co : F0 zA 29 true = true := by kernel_rfl
theorem BY : F0 zA 3 false = true := by kernel_rfl
theorem Sm : F0 zA 4 false = true := by kernel_rfl
theorem Ib : F0 zA 47 false = true := by kernel_rfl
theorem B2 : F0 zA 49 true = true := by kernel_rfl
theorem co : F0 zA 5 false = true := by kernel_rfl
theorem OJ : F0 zA 61 false = true := by kernel_rfl
theorem cy : F0 zA 66 false = true := by kernel_rfl
theorem bK : F0 zA 67 false = true := by kernel_rfl
theorem OL : F0 zA 71 false = true := by kernel_rfl
theorem ID : F0 zA 82 false = true := by kernel_rfl
theorem G7 : F0 zA 84 true = true := by kernel_rfl
theorem JY : F0 zA 94 true = true := by kernel_rfl
theorem dh : F0 zA 99 false = true := by kernel_rfl
theorem cR : Si zA 22 = true := by kernel_rfl
theorem O2 : FA zA 120 1 = true := by kernel_rfl
theorem ZO : FA zA 136 128 = true := by kernel_rfl
theorem af : FA zA 140 104 = true := by kernel_rfl
theorem RM : FA zA 149 24 = true := by kernel_rfl
theorem WX : FA zA 26 24 = true := by kernel_rfl
theorem JN : FA zA 3 8 = true := by kernel_rfl
theorem VV : FA zA 4 1 = true := by kernel_rfl
theorem Zq : FA zA 49 72 = true := by kernel_rfl
theorem ah : FA zA 5 1 = true := by kernel_rfl
theorem WL : FA zA 61 24 = true := by kernel_rfl
theorem Xt : FA zA 71 8 = true := by kernel_rfl
theorem Wq : FA zA 84 80 = true := by kernel_rfl
theorem QG : FA zA 94 24 = true := by kernel_rfl
theorem Xu : CT zA 101 0 0 = true := by kernel_rfl
theorem WN : CT zA 101 1 1 = true := by kernel_rfl
theorem Wg : CT zA 101 2 2 = true := by kernel_rfl
theorem Xs : CT zA 101 3 3 = true := by kernel_rfl
theorem Wj : CT zA 101 4 4 = true := by kernel_rfl
theorem Xe : CT zA 101 5 5 = true := by kernel_rfl
theorem Pb : CT zA 136 0 0 = true := by kernel_rfl
theorem To : CT zA 136 1 3 = true := by kernel_rfl
theorem Wn : CT zA 136 2 4 = true := by kernel_rfl
theorem TK : CT zA 136 3 7 = true := by kernel_rfl
theorem NS : CT zA 140 0 0 = true := by kernel_rfl
theorem SI : CT zA 140 1 3 = true := by kernel_rfl
theorem WO : CT zA 140 2 4 = true := by kernel_rfl
theorem Rt : CT zA 25 0 0 = true := by kernel_rfl
theorem Zf : CT zA 25 1 1 = true := by kernel_rfl
theorem Ye : CT zA 25 2 2 = true := by kernel_rfl
theorem RI : CT zA 25 3 3 = true := by kernel_rfl
theorem A5 : CT zA 29 0 0 = true := by kernel_rfl
theorem FI : CT zA 29 1 1 = true := by kernel_rfl
theorem Gx : CT zA 29 2 2 = true := by kernel_rfl
theorem Cg : CT zA 29 3 3 = true := by kernel_rfl
theorem C5 : CT zA 49 0 0 = true := by kernel_rfl
theorem BK : CT zA 49 1 1 = true := by kernel_rfl
theorem C9 : CT zA 49 2 2 = true := by kernel_rfl
theorem Gz : CT zA 84 0 0 = true := by kernel_rfl
theorem De : CT zA 84 1 1 = true := by kernel_rfl
theorem HP : CT zA 84 2 2 = true := by kernel_rfl
theorem Jy : CT zA 84 3 3 = true := by kernel_rfl
theorem Hn : CT zA 84 4 4 = true := by kernel_rfl
theorem FG : CT zA 84 5 5 = true := by kernel_rfl
theorem GB : CT zA 94 0 0 = true := by kernel_rfl
theorem FE : CT zA 94 1 1 = true := by kernel_rfl
theorem HQ : CT zA 94 2 2 = true := by kernel_rfl
theorem dF : Az zA 10 = true := by kernel_rfl
theorem cu : Az zA 100 = true := by kernel_rfl
theorem ZH : Az zA 101 = true := by kernel_rfl
theorem Zw : Az zA 102 = true := by kernel_rfl
theorem ZM : Az zA 103 = true := by kernel_rfl
theorem ck : Az zA 104 = true := by kernel_rfl
theorem Wo : Az zA 105 = true := by kernel_rfl
theorem bt : Az zA 106 = true := by kernel_rfl
theorem cB : Az zA 107 = true := by kernel_rfl
theorem cA : Az zA 108 = true := by kernel_rfl
theorem bL : Az zA 109 = true := by kernel_rfl
theorem bz : Az zA 11 = true := by kernel_rfl
theorem bE : Az zA 110 = true := by kernel_rfl
theorem ZC : Az zA 113 = true := by kernel_rfl
theorem dp : Az zA 114 = true := by kernel_rfl
theorem cY : Az zA 117 = true := by kernel_rfl
theorem bm : Az zA 12 = true := by kernel_rfl
theorem U7 : Az zA 120 = true := by kernel_rfl
theorem bg : Az zA 121 = true := by kernel_rfl
theorem cx : Az zA 122 = true := by kernel_rfl
theorem cZ : Az zA 124 = true := by kernel_rfl
theorem df : Az zA 125 = true := by kernel_rfl
theorem dj : Az zA 126 = true := by kernel_rfl
theorem ZI : Az zA 127 = true := by kernel_rfl
theorem di : Az zA 128 = true := by kernel_rfl
theorem XQ : Az zA 129 = true := by kernel_rfl
theorem W4 : Az zA 13 = true := by kernel_rfl
theorem ZL : Az zA 130 = true := by kernel_rfl
theorem cn : Az zA 131 = true := by kernel_rfl
theorem bf : Az zA 132 = true := by kernel_rfl
theorem ct : Az zA 133 = true := by kernel_rfl
theorem bG : Az zA 134 = true := by kernel_rfl
theorem cT : Az zA 135 = true := by kernel_rfl
theorem dm : Az zA 136 = true := by kernel_rfl
theorem cV : Az zA 137 = true := by kernel_rfl
theorem ZK : Az zA 138 = true := by kernel_rfl
theorem cb : Az zA 139 = true := by kernel_rfl
theorem ey : Az zA 14 = true := by kernel_rfl
theorem dU : Az zA 15 = true := by kernel_rfl
theorem bU : Az zA 150 = true := by kernel_rfl
theorem cX : Az zA 151 = true := by kernel_rfl
theorem bc : Az zA 152 = true := by kernel_rfl
theorem cQ : Az zA 153 = true := by kernel_rfl
theorem cd : Az zA 154 = true := by kernel_rfl
theorem WK : Az zA 156 = true := by kernel_rfl
theorem bB : Az zA 157 = true := by kernel_rfl
theorem cU : Az zA 158 = true := by kernel_rfl
theorem bp : Az zA 159 = true := by kernel_rfl
theorem bX : Az zA 160 = true := by kernel_rfl
theorem dA : Az zA 161 = true := by kernel_rfl
theorem cC : Az zA 162 = true := by kernel_rfl
theorem dq : Az zA 163 = true := by kernel_rfl
theorem bP : Az zA 164 = true := by kernel_rfl
theorem bN : Az zA 165 = true := by kernel_rfl
theorem bd : Az zA 166 = true := by kernel_rfl
theorem cP : Az zA 167 = true := by kernel_rfl
theorem au : Az zA 17 = true := by kernel_rfl
theorem Zy : Az zA 173 = true := by kernel_rfl
theorem Zv : Az zA 174 = true := by kernel_rfl
theorem ZG : Az zA 176 = true := by kernel_rfl
theorem cI : Az zA 177 = true := by kernel_rfl
theorem cM : Az zA 178 = true := by kernel_rfl
theorem ad : Az zA 18 = true := by kernel_rfl
theorem bJ : Az zA 180 = true := by kernel_rfl
theorem cO : Az zA 19 = true := by kernel_rfl
theorem aG : Az zA 20 = true := by kernel_rfl
theorem eP : Az zA 21 = true := by kernel_rfl
theorem eY : Az zA 22 = true := by kernel_rfl
theorem d6 : Az zA 23 = true := by kernel_rfl
theorem dS : Az zA 24 = true := by kernel_rfl
theorem ai : Az zA 25 = true := by kernel_rfl
theorem cN : Az zA 30 = true := by kernel_rfl
theorem bR : Az zA 31 = true := by kernel_rfl
theorem W9 : Az zA 33 = true := by kernel_rfl
theorem eT : Az zA 35 = true := by kernel_rfl
theorem dW : Az zA 36 = true := by kernel_rfl
theorem aK : Az zA 37 = true := by kernel_rfl
theorem Wz : Az zA 38 = true := by kernel_rfl
theorem eM : Az zA 39 = true := by kernel_rfl
theorem eW : Az zA 40 = true := by kernel_rfl
theorem eZ : Az zA 41 = true := by kernel_rfl
theorem ap : Az zA 42 = true := by kernel_rfl
theorem et : Az zA 43 = true := by kernel_rfl
theorem eE : Az zA 44 = true := by kernel_rfl
theorem ez : Az zA 45 = true := by kernel_rfl
theorem cF : Az zA 46 = true := by kernel_rfl
theorem d5 : Az zA 47 = true := by kernel_rfl
theorem cj : Az zA 48 = true := by kernel_rfl
theorem dP : Az zA 49 = true := by kernel_rfl
theorem dT : Az zA 50 = true := by kernel_rfl
theorem du : Az zA 51 = true := by kernel_rfl
theorem Wy : Az zA 52 = true := by kernel_rfl
theorem d7 : Az zA 55 = true := by kernel_rfl
theorem d4 : Az zA 56 = true := by kernel_rfl
theorem cr : Az zA 57 = true := by kernel_rfl
theorem d3 : Az zA 58 = true := by kernel_rfl
theorem bv : Az zA 59 = true := by kernel_rfl
theorem aL : Az zA 60 = true := by kernel_rfl
theorem en : Az zA 61 = true := by kernel_rfl
theorem bQ : Az zA 62 = true := by kernel_rfl
theorem eK : Az zA 64 = true := by kernel_rfl
theorem bF : Az zA 65 = true := by kernel_rfl
theorem Sj : Az zA 66 = true := by kernel_rfl
theorem bh : Az zA 67 = true := by kernel_rfl
theorem ed : Az zA 68 = true := by kernel_rfl
theorem db : Az zA 69 = true := by kernel_rfl
theorem XW : Az zA 70 = true := by kernel_rfl
theorem eQ : Az zA 71 = true := by kernel_rfl
theorem bW : Az zA 72 = true := by kernel_rfl
theorem dN : Az zA 73 = true := by kernel_rfl
theorem eD : Az zA 74 = true := by kernel_rfl
theorem eO : Az zA 75 = true := by kernel_rfl
theorem eL : Az zA 76 = true := by kernel_rfl
theorem ex : Az zA 77 = true := by kernel_rfl
theorem eR : Az zA 78 = true := by kernel_rfl
theorem dO : Az zA 79 = true := by kernel_rfl
theorem bu : Az zA 80 = true := by kernel_rfl
theorem dJ : Az zA 81 = true := by kernel_rfl
theorem d1 : Az zA 82 = true := by kernel_rfl
theorem cm : Az zA 83 = true := by kernel_rfl
theorem dM : Az zA 85 = true := by kernel_rfl
theorem eU : Az zA 87 = true := by kernel_rfl
theorem ew : Az zA 88 = true := by kernel_rfl
theorem ep : Az zA 89 = true := by kernel_rfl
theorem aF : Az zA 90 = true := by kernel_rfl
theorem eo : Az zA 91 = true := by kernel_rfl
theorem bH : Az zA 92 = true := by kernel_rfl
theorem dH : Az zA 93 = true := by kernel_rfl
theorem d8 : Az zA 94 = true := by kernel_rfl
theorem dI : Az zA 95 = true := by kernel_rfl
theorem WH : Az zA 96 = true := by kernel_rfl
theorem Yj : Az zA 97 = true := by kernel_rfl
theorem cp : Az zA 98 = true := by kernel_rfl
theorem dn : Az zA 99 = true := by kernel_rfl
theorem ST : Qv zA 145 .u32 = true := by kernel_rfl
theorem ZD : Qv zA 147 .u64 = true := by kernel_rfl
theorem X6 : Qv zA 3 .i64 = true := by kernel_rfl
theorem e9 : Qv zA 5 .u8 = true := by kernel_rfl
theorem YB : Qv zA 71 .u64 = true := by kernel_rfl
theorem Vv : Tryz.prog.underlying 71 = some (.int .u64) := by kernel_rfl
theorem ae : Tryz.prog.underlying 9 = some .string := by kernel_rfl
theorem Sa : Tryz.prog.underlying 170 = some (.map 9 3) := by kernel_rfl
theorem OG : Tryz.prog.underlying 67 = some (.map 71 4) := by kernel_rfl
theorem Zp : IR zA 136 = some [(0, 3), (3, 1), (4, 3), (7, 1)] := by kernel_rfl
theorem Zz : IR zA 140 = some [(0, 3), (3, 1), (4, 3)] := by kernel_rfl
theorem Q9 : IR zA 149 = some [(0, 1), (1, 1), (2, 1)] := by kernel_rfl
theorem S8 : IR zA 29 = some [(0, 1), (1, 1), (2, 1), (3, 1)] := by kernel_rfl
theorem Jw : IR zA 49 = some [(0, 1), (1, 1), (2, 1)] := by kernel_rfl
theorem Yw : IR zA 84 = some [(0, 1), (1, 1), (2, 1), (3, 1), (4, 1), (5, 1)] := by kernel_rfl
theorem YJ : IR zA 94 = some [(0, 1), (1, 1), (2, 1)] := by kernel_rfl
theorem H0 : sliceB zA 125 140 = true := by kernel_rfl
theorem Hv : sliceB zA 131 136 = true := by kernel_rfl
theorem HT : sliceB zA 162 149 = true := by kernel_rfl
theorem Lq : sliceB zA 22 5 = true := by kernel_rfl
theorem We : sliceB zA 23 101 = true := by kernel_rfl
theorem As : sliceB zA 26 3 = true := by kernel_rfl
theorem Dv : sliceB zA 27 84 = true := by kernel_rfl
theorem EB : sliceB zA 38 26 = true := by kernel_rfl
theorem MB : sliceB zA 46 49 = true := by kernel_rfl
theorem Ea : sliceB zA 47 120 = true := by kernel_rfl
theorem ES : sliceB zA 61 4 = true := by kernel_rfl
theorem ET : sliceB zA 63 94 = true := by kernel_rfl
theorem Gn : sliceB zA 66 71 = true := by kernel_rfl
theorem EL : sliceB zA 82 61 = true := by kernel_rfl
theorem cv : (Tryz.prog.underlying 120).isSome = true := by kernel_rfl
theorem Vx : (Tryz.prog.underlying 145).isSome = true := by kernel_rfl
theorem WA : (Tryz.prog.underlying 147).isSome = true := by kernel_rfl
theorem dD : (Tryz.prog.underlying 3).isSome = true := by kernel_rfl
theorem aD : (Tryz.prog.underlying 5).isSome = true := by kernel_rfl
theorem YX : (Tryz.prog.underlying 71).isSome = true := by kernel_rfl
theorem VF : Q8 zA 9 = true := by kernel_rfl
theorem WJ : H3 zA 101 6 = true := by kernel_rfl
theorem EU : H3 zA 120 1 = true := by kernel_rfl
theorem Lp : H3 zA 136 8 = true := by kernel_rfl
theorem MK : H3 zA 140 7 = true := by kernel_rfl
theorem I6 : H3 zA 149 3 = true := by kernel_rfl
theorem cz : H3 zA 25 4 = true := by kernel_rfl
theorem GT : H3 zA 26 1 = true := by kernel_rfl
theorem ac : H3 zA 27 1 = true := by kernel_rfl
theorem BN : H3 zA 29 4 = true := by kernel_rfl
theorem Cp : H3 zA 3 1 = true := by kernel_rfl
theorem Oq : H3 zA 4 1 = true := by kernel_rfl
theorem dG : H3 zA 47 1 = true := by kernel_rfl
theorem A3 : H3 zA 49 3 = true := by kernel_rfl
theorem aH : H3 zA 5 1 = true := by kernel_rfl
theorem JM : H3 zA 61 1 = true := by kernel_rfl
theorem eH : H3 zA 66 1 = true := by kernel_rfl
theorem eC : H3 zA 67 1 = true := by kernel_rfl
theorem LS : H3 zA 71 1 = true := by kernel_rfl
theorem X8 : H3 zA 82 1 = true := by kernel_rfl
theorem Dn : H3 zA 84 6 = true := by kernel_rfl
theorem E7 : H3 zA 94 3 = true := by kernel_rfl
theorem bj : D4 zA 101 = some (.agg #[.int .u8 0, .int .u8 0, .int .u8 0, .bool false, .int .u16 0, .int .u16 0]) := by kernel_rfl
theorem NR : D4 zA 120 = some (.int .u8 0) := by kernel_rfl
theorem SP : D4 zA 136 = some (.agg #[.slice none 0 0, .slice none 0 0, .slice none 0 0, .int .i64 0, .int .i64 0, .int .i64 0, .int .i64 0, .slice none 0 0]) := by kernel_rfl
theorem SU : D4 zA 140 = some (.agg #[.slice none 0 0, .slice none 0 0, .slice none 0 0, .int .i64 0, .int .i64 0, .int .i64 0, .int .i64 0]) := by kernel_rfl
theorem Jp : D4 zA 149 = some (.agg #[.int .i64 0, .int .i64 0, .int .i64 0]) := by kernel_rfl
theorem SB : D4 zA 26 = some (.slice none 0 0) := by kernel_rfl
theorem Kx : D4 zA 29 = some (.agg #[.slice none 0 0, .slice none 0 0, .slice none 0 0, .slice none 0 0]) := by kernel_rfl
theorem IM : D4 zA 3 = some (.int .i64 0) := by kernel_rfl
theorem Sn : D4 zA 4 = some (.bool false) := by kernel_rfl
theorem EO : D4 zA 49 = some (.agg #[.slice none 0 0, .slice none 0 0, .slice none 0 0]) := by kernel_rfl
theorem cS : D4 zA 5 = some (.int .u8 0) := by kernel_rfl
theorem TX : D4 zA 61 = some (.slice none 0 0) := by kernel_rfl
theorem dR : D4 zA 66 = some (.slice none 0 0) := by kernel_rfl
theorem dL : D4 zA 67 = some (.map none) := by kernel_rfl
theorem SV : D4 zA 71 = some (.int .u64 0) := by kernel_rfl
theorem Jf : D4 zA 84 = some (.agg #[.int .i64 0, .int .i64 0, .int .i64 0, .bool false, .slice none 0 0, .slice none 0 0]) := by kernel_rfl
theorem KD : D4 zA 94 = some (.agg #[.int .i64 0, .int .i64 0, .int .i64 0]) := by kernel_rfl
set_option maxRecDepth 10000
theorem J2 (N : Nat) (p0 : List Int) (p1 : Int) (r : Int) (h : Ex N p0 p1 = some r) : Ao zA 65 [pD (.sl (p0.map D7)), iD p1] [] (iD r) := by
 unfold Ex at h
 refine cw (n := 14) (rs := [.tmp 4]) Tryz.func65 fun w0 S0 => ?_
 refine wq rfl (qa rfl (Ab (wp rfl (qw 2 rfl (AJ Lq rfl (AV rfl (Ab ?_)))))))
 refine A8 h (fun h => ?_) fun h => ?_
 ·refine wq rfl (qw 2 rfl ?_)
  refine BD h fun v2 a2 b2 h => qi Lq aH a2 (Af b2) rfl (qk co rfl (JO aD X6 rfl (qe rfl ?_)))
  obtain rfl := sj h
  refine Ae (sm [] [(4, iD ((wI .i64 v2)))] [] rfl rfl) (Ar ?_)
  exact ⟨⟨[_], tm, rfl⟩, tv⟩
 ·refine Ai (wq rfl (qe rfl ?_))
  obtain rfl := sj h
  refine Ae (sm [] [(4, iD 0)] [] rfl rfl) (Ar ?_)
  exact ⟨⟨[_], tm, rfl⟩, tv⟩
theorem Cu (N : Nat) (p0 : An) (r : Bool) (h : Ba N p0 = some r) : Ao zA 66 [.e (.agg (Bc p0))] [] (bD r) := by
 unfold Ba at h
 refine cw (n := 11) (rs := [.tmp 2]) Tryz.func66 fun w0 S0 => ?_
 refine wq rfl (qb rfl (qe rfl ?_))
 refine AS h (fun v1 => mk [(2, bD v1)] []) (fun j1 h => ?_) (fun v1 h => ?_)
 ·refine Ah Aw rfl (qf Gz rfl (ql BY rfl (B1 rfl (qm rfl ?_))))
  refine Eu 6 h rfl (fun h => ?_) fun h => ?_
  ·refine qw 3 rfl (qp rfl (qe rfl ?_))
   exact sn [] h
  ·refine qf Gz rfl (ql BY rfl (B1 rfl (qp rfl (qe rfl ?_))))
   exact sn [] h
 ·obtain rfl := sj h
  refine Ae (sm [] [(2, bD v1)] [] rfl rfl) (Ar ?_)
  exact ⟨⟨[_], tm, rfl⟩, tv⟩
theorem JV (N : Nat) (p0 : Int) (p1 : Int) (p2 : Int) (p3 : Bool) (r : (List (List Bool))) (h : Ew N p0 p1 p2 p3 = some r) : Ao zA 67 [iD p0, iD p1, pD (.val (.int .u16 p2)), bD p3] [(1, r.map (ED eB))] (oD (.own 0)) := by
 unfold Ew at h
 refine cw (n := 47) (rs := [.tmp 8]) Tryz.func67 fun w0 S0 => ?_
 refine wq rfl (qa rfl (Ab (wq rfl (qa rfl (Ab (wp rfl (qe rfl ?_)))))))
 refine AC (L := Ct N p0 p1 p2 p3) h (fun v1 => mk [(0, iD p0), (1, iD p1), (2, pD (.val (.int .u16 p2))), (3, bD p3), (9, oD (.own 2001)), (10, iD v1.2)] [(2001, .vec 1 (v1.1.map (ED eB)))]) (fun v2 => mk [(9, oD (.own 2002))] [(2002, .vec 1 (v2.map (ED eB)))]) (fun _ _ => rfl) ((AT 9 2010 1 rfl rfl rfl).trans (sm [(2001, 2010)] _ _ rfl rfl)) (fun j1 n1 v1 h => ?_) (fun v2 s h hs => ?_)
 ·unfold Ct at h
  refine wp rfl (qw 2 rfl (AV rfl (Ab ?_)))
  refine A8 h (fun h => ?_) fun h => ?_
  ·refine Ai (AL (AH (wq rfl (qa rfl (Ab (wp rfl (qe rfl ?_)))))))
   refine AC (L := Cv N p1 p2 p3 v1) h (fun v4 => mk [(0, iD p0), (1, iD p1), (2, pD (.val (.int .u16 p2))), (3, bD p3), (9, oD (.own 2003)), (10, iD v1.2), (11, oD (.own 2004)), (12, iD v4.2)] [(2003, .vec 1 (v1.1.map (ED eB))), (2004, .vec 1 (v4.1.map eB))]) (fun v5 => mk [(0, iD p0), (1, iD p1), (2, pD (.val (.int .u16 p2))), (3, bD p3), (9, oD (.own 2005)), (10, iD v1.2), (11, oD (.own 2006))] [(2005, .vec 1 (v1.1.map (ED eB))), (2006, .vec 1 (v5.map eB))]) (fun _ _ => rfl) ((AT 11 2009 1 rfl rfl rfl).trans (sm [(2003, 2001), (2004, 2009)] _ _ rfl rfl)) (fun j4 n4 v4 h => ?_) (fun v5 s h hs => ?_)
   ·unfold Cv at h
    refine wp rfl (qw 2 rfl (AV rfl (Ab ?_)))
    refine A8 h (fun h => ?_) fun h => ?_
    ·refine Ai ?_
     refine AS h (fun v7 => mk [(0, iD p0), (1, iD p1), (2, pD (.val (.int .u16 p2))), (3, bD p3), (9, oD (.own 2007)), (10, iD v1.2), (11, oD (.own 2008)), (12, iD v4.2)] [(2007, .vec 1 (v1.1.map (ED eB))), (2008, .vec 1 (v7.map eB))]) (fun j7 h => ?_) (fun v7 h => ?_)
     ·refine AH (Ah Aw rfl (qw 3 rfl ?_))
      refine Eu 25 h rfl (fun h => ?_) fun h => ?_
      ·refine qw 2 rfl (B1 rfl (qp rfl (qm rfl ?_)))
       refine Eu 30 h rfl (fun h => ?_) fun h => ?_
       ·refine qw 8 rfl (qp rfl (Dg ES Oq Sn rfl ?_))
        refine FL h fun c10 h => Ce (f := eB) ES ES Oq VV Sn c10 rfl (qe rfl ?_)
        exact sn [(2007, 2003), (2008, 41)] h
       ·refine qw 2 rfl (Na rfl (qm rfl (AW rfl ?_)))
        refine FL h fun c11 h => G4 rfl c11 (MH rfl (by decide) (B1 rfl (qp rfl (Dg ES Oq Sn rfl ?_))))
        refine FL h fun c12 h => Ce (f := eB) ES ES Oq VV Sn c12 rfl (qe rfl ?_)
        exact sn [(2007, 2003), (2008, 41)] h
      ·refine qw 3 rfl (qp rfl (qw 3 rfl (Na rfl (qm rfl (AW rfl ?_)))))
       refine FL h fun c13 h => G4 rfl c13 (MH rfl (by decide) (B1 rfl (qp rfl (Dg ES Oq Sn rfl ?_))))
       refine FL h fun c14 h => Ce (f := eB) ES ES Oq VV Sn c14 rfl (qe rfl ?_)
       exact sn [(2007, 2003), (2008, 41)] h
     ·refine Ah Aw rfl (qm rfl (AW rfl (qe rfl ?_)))
      exact sn [(2003, 2007), (2004, 2008)] h
    ·refine AR ?_
     exact sn [(2005, 2003), (2006, 2004)] h
   ·refine Ae hs (Ah Aw rfl (qw 2 rfl (C0 (Bb 2006 _ _ rfl rfl) (Dg EL JM TX rfl ?_))))
    refine FL h fun c15 h => Ce (f := (ED eB)) EL EL JM WL TX c15 rfl (qa rfl (Ab (Ah Aw rfl (qm rfl (AW rfl (qe rfl ?_))))))
    exact sn [(2001, 45)] h
  ·refine AR ?_
   exact sn [(2002, 2001)] h
 ·refine Ae hs (wq rfl (qm rfl (qe rfl ?_)))
  obtain rfl := sj h
  refine Ae (sm [(1000, 2002)] [(8, oD (.own 1000))] [(1000, .vec 1 (v2.map (ED eB)))] rfl rfl) (Ar ?_)
  exact ⟨⟨[_], tm, rfl⟩, ⟨rfl, tv⟩⟩
theorem N9 (N : Nat) (p0 : BJ) (r : Aa × Bool) (h : FW N p0 = some r) : Ao zA 35 [.e (.agg (CX p0))] [(1, r.1.fb.map Aj), (1, r.1.fj.map Aj), (1, r.1.fo.map Aj), (6, r.1.fd.map AN)] (.tup [.agg [.own 0, .own 1, .own 2, .own 3], .one (.pure (.val (.bool r.2)))]) := by
 unfold FW at h
 refine cw (n := 152) (rs := [.cell 2 29, .tmp 3]) Tryz.func35 fun w0 S0 => ?_
 refine wq rfl (qb rfl (qz Kx rfl (qa rfl (Ab (AL ?_)))))
 refine AS h (fun v1 => mk [(1, oD (.ptr 1 0)), (2, oD (.ptr 2 0)), (19, bD v1)] [(1, .box (CX p0)), (2, .box [.pure (.nil0), .pure (.nil0), .pure (.nil0), .pure (.nil0)])]) (fun j1 h => ?_) (fun v1 h => ?_)
 ·refine Ah Aw rfl (qf Rt rfl (ql Xc rfl (AJ Lq rfl (GQ rfl (qm rfl ?_)))))
  refine Eu 14 h rfl (fun h => ?_) fun h => ?_
  ·refine qw 4 rfl (qp rfl (Ab ?_))
   exact sn [] h
  ·refine qf RI rfl (ql Z0 rfl (AJ We rfl (GQ rfl (qp rfl (Ab ?_)))))
   exact sn [] h
 ·refine A8 h (fun h => ?_) fun h => ?_
  ·refine wq rfl (Bk Kx S8 rfl (qs BN rfl (qe rfl ?_)))
   obtain rfl := sj h
   refine Ae ((Aq 2 0 2001 1 _ rfl rfl rfl rfl).trans ((Aq 2 1 2002 1 _ rfl rfl rfl rfl).trans ((Aq 2 2 2003 1 _ rfl rfl rfl rfl).trans ((Aq 2 3 2004 6 _ rfl rfl rfl rfl).trans (sm [(1000, 2001), (1001, 2002), (1002, 2003), (1003, 2004)] [(2, oD (.ptr 2 0)), (3, bD false)] [(2, .box [.own 1000, .own 1001, .own 1002, .own 1003]), (1000, .vec 1 ((([] : List Int)).map Aj)), (1001, .vec 1 ((([] : List Int)).map Aj)), (1002, .vec 1 ((([] : List Int)).map Aj)), (1003, .vec 6 ((([] : List An)).map AN))] rfl rfl))))) (Ar ?_)
   exact ⟨⟨[_, _], ⟨.cellN _ _ _ _ _ _ _ rfl rfl Co BN rfl rfl (Jx rfl), tm⟩, rfl⟩, ⟨rfl, rfl, rfl, rfl, tv⟩⟩
  ·refine Ai (wq rfl (qz Kx rfl (Ab (wp rfl (qe rfl ?_)))))
   refine AC (L := C1 N p0) h (fun v4 => mk [(1, oD (.ptr 1 0)), (2, oD (.ptr 2 0)), (4, oD (.ptr 4 0)), (5, iD v4.2.2.2)] [(1, .box (CX p0)), (2, .box [.pure (.nil0), .pure (.nil0), .pure (.nil0), .pure (.nil0)]), (4, .box [.own 2005, .own 2006, .own 2007, .pure (.nil0)]), (2005, .vec 1 (v4.1.map Aj)), (2006, .vec 1 (v4.2.1.map Aj)), (2007, .vec 1 (v4.2.2.1.map Aj))]) (fun v5 => mk [(1, oD (.ptr 1 0)), (2, oD (.ptr 2 0)), (4, oD (.ptr 4 0))] [(1, .box (CX p0)), (2, .box [.pure (.nil0), .pure (.nil0), .pure (.nil0), .pure (.nil0)]), (4, .box [.own 2008, .own 2009, .own 2010, .pure (.nil0)]), (2008, .vec 1 (v5.1.map Aj)), (2009, .vec 1 (v5.2.1.map Aj)), (2010, .vec 1 (v5.2.2.map Aj))]) (fun _ _ => rfl) ((Aq 4 0 2011 1 _ rfl rfl rfl rfl).trans ((Aq 4 1 2012 1 _ rfl rfl rfl rfl).trans ((Aq 4 2 2013 1 _ rfl rfl rfl rfl).trans (sm [(2005, 2011), (2006, 2012), (2007, 2013)] _ _ rfl rfl)))) (fun j4 n4 v4 h => ?_) (fun v5 s h hs => ?_)
   ·unfold C1 at h
    refine wp rfl (qm rfl (qf Rt rfl (ql Xc rfl (AJ Lq rfl (AV rfl (Ab ?_))))))
    refine A8 h (fun h => ?_) fun h => ?_
    ·refine Ai (AL (AH (wq rfl (qf Rt rfl (ql Xc rfl (qm rfl ?_))))))
     refine BD h fun v7 a7 b7 h => qi Lq aH a7 (Af b7) rfl (qk co rfl (MH rfl (by decide) (JO aD X6 rfl (AW rfl (qa rfl (Ab (wq rfl (qf A5 rfl (ql A0 rfl (qm rfl (Dg As Cp IM rfl ?_)))))))))))
     refine FL h fun c8 h => Ce (f := Aj) As As Cp JN IM c8 rfl (qf A5 rfl (qs GT rfl (Ab (wq rfl (qf FI rfl (ql A0 rfl (qf Zf rfl (ql Xc rfl (qm rfl ?_)))))))))
     refine BG h fun v9 a9 h => Av [] (J2 N p0.fj v4.2.2.2 v9 a9) bF rfl (qm rfl ?_)
     refine FL h fun c10 h => MH rfl c10 (Dg As Cp IM rfl ?_)
     refine FL h fun c11 h => Ce (f := Aj) As As Cp JN IM c11 rfl (qf FI rfl (qs GT rfl (AM (by kernel_rfl) (Ah Aw rfl (qf Gx rfl (ql A0 rfl (qf Ye rfl (ql Xc rfl (qm rfl ?_)))))))))
     refine BG h fun v12 a12 h => Av [] (J2 N p0.fo v4.2.2.2 v12 a12) bF rfl (qm rfl ?_)
     refine FL h fun c13 h => MH rfl c13 (Dg As Cp IM rfl ?_)
     refine FL h fun c14 h => Ce (f := Aj) As As Cp JN IM c14 rfl (qf Gx rfl (qs GT rfl (AM (by kernel_rfl) (Ah Aw rfl (qm rfl (AW rfl (qe rfl ?_)))))))
     exact sn [(2005, 40), (2006, 51), (2007, 62)] h
    ·refine AR ?_
     exact sn [(2008, 2005), (2009, 2006), (2010, 2007)] h
   ·refine Ae hs (wp rfl (qe rfl ?_))
    refine AC (L := BE N p0 v5) h (fun v15 => mk [(1, oD (.ptr 1 0)), (2, oD (.ptr 2 0)), (4, oD (.ptr 4 0)), (7, iD v15.2)] [(1, .box (CX p0)), (2, .box [.pure (.nil0), .pure (.nil0), .pure (.nil0), .pure (.nil0)]), (4, .box [.own 2014, .own 2015, .own 2016, .own 2017]), (2014, .vec 1 (v5.1.map Aj)), (2015, .vec 1 (v5.2.1.map Aj)), (2016, .vec 1 (v5.2.2.map Aj)), (2017, .vec 6 (v15.1.map AN))]) (fun v16 => mk [(2, oD (.ptr 2 0)), (4, oD (.ptr 4 0))] [(2, .box [.pure (.nil0), .pure (.nil0), .pure (.nil0), .pure (.nil0)]), (4, .box [.own 2018, .own 2019, .own 2020, .own 2021]), (2018, .vec 1 (v5.1.map Aj)), (2019, .vec 1 (v5.2.1.map Aj)), (2020, .vec 1 (v5.2.2.map Aj)), (2021, .vec 6 (v16.map AN))]) (fun _ _ => rfl) ((Aq 4 3 2039 6 _ rfl rfl rfl rfl).trans (sm [(2014, 2008), (2015, 2009), (2016, 2010), (2017, 2039)] _ _ rfl rfl)) (fun j15 n15 v15 h => ?_) (fun v16 s h hs => ?_)
    ·unfold BE at h
     refine AL ?_
     refine AS h (fun v17 => mk [(1, oD (.ptr 1 0)), (2, oD (.ptr 2 0)), (4, oD (.ptr 4 0)), (7, iD v15.2), (74, bD v17)] [(1, .box (CX p0)), (2, .box [.pure (.nil0), .pure (.nil0), .pure (.nil0), .pure (.nil0)]), (4, .box [.own 2022, .own 2023, .own 2024, .own 2025]), (2022, .vec 1 (v5.1.map Aj)), (2023, .vec 1 (v5.2.1.map Aj)), (2024, .vec 1 (v5.2.2.map Aj)), (2025, .vec 6 (v15.1.map AN))]) (fun j17 h => ?_) (fun v17 h => ?_)
     ·refine Ah Aw rfl (qm rfl (qf RI rfl (ql Z0 rfl (AJ We rfl (AV rfl (qm rfl ?_))))))
      refine Eu 69 h rfl (fun h => ?_) fun h => ?_
      ·refine qf A5 rfl (ql A0 rfl (D6 As rfl (GQ rfl (qp rfl (Ab ?_)))))
       exact sn [(2022, 2014), (2023, 2015), (2024, 2016), (2025, 2017)] h
      ·refine qw 4 rfl (qp rfl (Ab ?_))
       exact sn [(2022, 2014), (2023, 2015), (2024, 2016), (2025, 2017)] h
     ·refine A8 h (fun h => ?_) fun h => ?_
      ·refine Ai (AL (AH (wq rfl (qf RI rfl (ql Z0 rfl (qm rfl ?_))))))
       refine BD h fun v20 a20 b20 h => qi We WJ a20 (Af b20) rfl (qK cH WJ rfl (qz bj rfl (qs WJ rfl (Ab (wq rfl (qf Xu rfl (ql co rfl (MH rfl (by decide) (JO aD X6 rfl (AW rfl (qf WN rfl (ql co rfl (JO aD X6 rfl (qf A5 rfl (ql A0 rfl (D6 As rfl ?_))))))))))))))))
       refine FL h fun c21 h => MH rfl c21 (qf Wg rfl (ql co rfl (JO aD X6 rfl (qf A5 rfl (ql A0 rfl (D6 As rfl ?_))))))
       refine FL h fun c22 h => MH rfl c22 (Bk Jf Yw rfl (qz Jf rfl (qs Dn rfl (AM (by kernel_rfl) ?_))))
       refine AS h (fun v23 => mk [(1, oD (.ptr 1 0)), (2, oD (.ptr 2 0)), (4, oD (.ptr 4 0)), (7, iD v15.2), (8, oD (.ptr 8 0)), (9, oD (.ptr 9 0))] [(1, .box (CX p0)), (2, .box [.pure (.nil0), .pure (.nil0), .pure (.nil0), .pure (.nil0)]), (4, .box [.own 2026, .own 2027, .own 2028, .own 2029]), (8, .box (Of v20)), (9, .box [iC ((wI .i64 (1 + (wI .i64 ((zX v20.fg 4)))))), iC ((zX ((wI .i64 v20.fh)) ((v5.1.length : Int)))), iC ((zX ((wI .i64 v20.fk)) ((v5.1.length : Int)))), .pure (.val (.bool v23)), .pure (.nil0), .pure (.nil0)]), (2026, .vec 1 (v5.1.map Aj)), (2027, .vec 1 (v5.2.1.map Aj)), (2028, .vec 1 (v5.2.2.map Aj)), (2029, .vec 6 (v15.1.map AN))]) (fun j23 h => ?_) (fun v23 h => ?_)
       ·refine Ah Aw rfl (qf Xs rfl (ql Sm rfl (qm rfl ?_)))
        refine Eu 104 h rfl (fun h => ?_) fun h => ?_
        ·refine qL G7 Dn rfl ?_
         refine BG h fun v25 a25 h => Av [] (Cu N ((An.mk ((wI .i64 (1 + (wI .i64 ((zX v20.fg 4)))))) ((zX ((wI .i64 v20.fh)) ((v5.1.length : Int)))) ((zX ((wI .i64 v20.fk)) ((v5.1.length : Int)))) false (([] : List (List Bool))) (([] : List (List Bool))))) v25 a25) Sj rfl (CA rfl (qp rfl (qf Jy rfl (qs Oq rfl (Ab ?_)))))
         exact sn [(2026, 2022), (2027, 2023), (2028, 2024), (2029, 2025)] h
        ·refine qw 3 rfl (qp rfl (qf Jy rfl (qs Oq rfl (Ab ?_))))
         exact sn [(2026, 2022), (2027, 2023), (2028, 2024), (2029, 2025)] h
       ·refine wq rfl (qf A5 rfl (ql A0 rfl (qf De rfl (ql BY rfl ?_))))
        refine BD h fun v26 a26 b26 h => qI As Cp a26 (Af b26) rfl (qj BY (Af b26) rfl (qf A5 rfl (ql A0 rfl (qf HP rfl (ql BY rfl ?_)))))
        refine BD h fun v27 a27 b27 h => qI As Cp a27 (Af b27) rfl (qj BY (Af b27) rfl (qf Wj rfl (ql dh rfl ?_)))
        refine BG h fun v28 a28 h => Av [2030] (JV N v26 v27 v20.fy false v28 a28) bh rfl (qf Hn rfl (qs X8 rfl (AM (by kernel_rfl) ?_)))
        refine AS h (fun v29 => mk [(1, oD (.ptr 1 0)), (2, oD (.ptr 2 0)), (4, oD (.ptr 4 0)), (7, iD v15.2), (9, oD (.ptr 9 0))] [(1, .box (CX p0)), (2, .box [.pure (.nil0), .pure (.nil0), .pure (.nil0), .pure (.nil0)]), (4, .box [.own 2031, .own 2032, .own 2033, .own 2034]), (9, .box [iC ((wI .i64 (1 + (wI .i64 ((zX v20.fg 4)))))), iC ((zX ((wI .i64 v20.fh)) ((v5.1.length : Int)))), iC ((zX ((wI .i64 v20.fk)) ((v5.1.length : Int)))), .pure (.val (.bool v23)), .own 2035, .own 2036]), (2031, .vec 1 (v5.1.map Aj)), (2032, .vec 1 (v5.2.1.map Aj)), (2033, .vec 1 (v5.2.2.map Aj)), (2034, .vec 6 (v15.1.map AN)), (2035, .vec 1 (v28.map (ED eB))), (2036, .vec 1 (v29.map (ED eB)))]) (fun j29 h => ?_) (fun v29 h => ?_)
        ·refine wq rfl (qf Gz rfl (ql BY rfl (B1 rfl (Ab ?_))))
         refine A8 h (fun h => ?_) fun h => ?_
         ·refine Ah Aw rfl (qf A5 rfl (ql A0 rfl (qf De rfl (ql BY rfl ?_))))
          refine BD h fun v31 a31 b31 h => qI As Cp a31 (Af b31) rfl (qj BY (Af b31) rfl (qf A5 rfl (ql A0 rfl (qf De rfl (ql BY rfl ?_)))))
          refine BD h fun v32 a32 b32 h => qI As Cp a32 (Af b32) rfl (qj BY (Af b32) rfl (qf Xe rfl (ql dh rfl ?_)))
          refine BG h fun v33 a33 h => Av [2037] (JV N v31 v32 v20.fA true v33 a33) bh rfl (qf FG rfl (qs X8 rfl (AM (by kernel_rfl) ?_)))
          exact sn [(2031, 2026), (2032, 2027), (2033, 2028), (2034, 2029), (2035, 2030), (2036, 2037)] h
         ·refine Ai ?_
          exact ak _ h ((Aq 9 5 2038 1 _ rfl rfl rfl rfl).trans (sm [(2031, 2026), (2032, 2027), (2033, 2028), (2034, 2029), (2035, 2030), (2036, 2038)] _ _ rfl rfl))
        ·refine Ah Aw rfl (qf Cg rfl (ql Hp rfl (qL G7 Dn rfl (C0 (Bb 2035 _ _ rfl rfl) (C0 (Bb 2036 _ _ rfl rfl) (Dg Dv Dn Jf rfl ?_))))))
         refine FL h fun c34 h => Ce (f := AN) Dv Dv Dn Wq Jf c34 rfl (qf Cg rfl (qs ac rfl (Ab (Ah Aw rfl (qm rfl (AW rfl (qe rfl ?_)))))))
         exact sn [(2014, 2031), (2015, 2032), (2016, 2033), (2017, 149)] h
      ·refine AR ?_
       exact sn [(2018, 2022), (2019, 2023), (2020, 2024), (2021, 2025)] h
    ·refine Ae hs (wq rfl (qL Co BN rfl (qs BN rfl (qe rfl ?_))))
     obtain rfl := sj h
     refine Ae (sm [(1000, 2018), (1001, 2019), (1002, 2020), (1003, 2021)] [(2, oD (.ptr 2 0)), (3, bD true)] [(2, .box [.own 1000, .own 1001, .own 1002, .own 1003]), (1000, .vec 1 (v5.1.map Aj)), (1001, .vec 1 (v5.2.1.map Aj)), (1002, .vec 1 (v5.2.2.map Aj)), (1003, .vec 6 (v16.map AN))] rfl rfl) (Ar ?_)
     exact ⟨⟨[_, _], ⟨.cellN _ _ _ _ _ _ _ rfl rfl Co BN rfl rfl (Jx rfl), tm⟩, rfl⟩, ⟨rfl, rfl, rfl, rfl, tv⟩⟩
theorem IY (N : Nat) (p0 : List (List Bool)) (p1 : Int) (p2 : Int) (r : Bool) (h : DX N p0 p1 p2 = some r) : Ao zA 98 [pD (.sl (p0.map (ED eB))), iD p1, iD p2] [] (bD r) := by
 unfold DX at h
 refine cw (n := 24) (rs := [.tmp 6]) Tryz.func98 fun w0 S0 => ?_
 refine wq rfl (qa rfl (Ab (wp rfl (qm rfl (AJ EL rfl (qm rfl (Bo rfl (Ab ?_))))))))
 refine A8 h (fun h => ?_) fun h => ?_
 ·refine wq rfl (qe rfl ?_)
  obtain rfl := sj h
  refine Ae (sm [] [(6, bD false)] [] rfl rfl) (Ar ?_)
  exact ⟨⟨[_], tm, rfl⟩, tv⟩
 ·refine Ai (wp rfl (qe rfl ?_))
  refine AC (L := CC N p0 p1 p2) h (fun v2 => mk [(0, pD (.sl (p0.map (ED eB)))), (1, iD p1), (2, iD p2), (7, iD v2)] []) (fun v3 => mk [] []) (fun _ _ => rfl) (sm [] _ _ rfl rfl) (fun j2 n2 v2 h => ?_) (fun v3 s h hs => ?_)
  ·unfold CC at h
   refine wp rfl (qw 2 rfl (AV rfl (Ab ?_)))
   refine A8 h (fun h => ?_) fun h => ?_
   ·refine Ai (AL (AH (wq rfl (qw 2 rfl ?_))))
    refine BD h fun v5 a5 b5 h => qi EL JM a5 (Af b5) rfl (qk OJ rfl (AJ ES rfl (qm rfl (Bo rfl (Ab ?_)))))
    refine A8 h (fun h => ?_) fun h => ?_
    ·refine wq rfl (qe rfl ?_)
     obtain rfl := sj h
     refine Ae (sm [] [(6, bD false)] [] rfl rfl) (Ar ?_)
     exact ⟨⟨[_], tm, rfl⟩, tv⟩
    ·refine Ai (Ah Aw rfl (qm rfl (AW rfl (qe rfl ?_))))
     exact sn [] h
   ·refine AR ?_
    exact sn [] h
  ·refine Ae hs (wq rfl (qe rfl ?_))
   obtain rfl := sj h
   refine Ae (sm [] [(6, bD true)] [] rfl rfl) (Ar ?_)
   exact ⟨⟨[_], tm, rfl⟩, tv⟩
theorem Ml (N : Nat) (p0 : Aa) (p1 : An) (r : Int) (h : E8 N p0 p1 = some r) : Ao zA 64 [.e (.agg (Ag p0)), .e (.agg (Bc p1))] [] (iD r) := by
 unfold E8 at h
 refine cw (n := 101) (rs := [.tmp 4]) Tryz.func64 fun w0 S0 => ?_
 refine wq rfl (qb rfl (qb rfl (qa rfl (Ab (AL ?_)))))
 refine AS h (fun v1 => mk [(2, oD (.ptr 2 0)), (3, oD (.ptr 3 0)), (22, bD v1)] [(2, .box (Ag p0)), (3, .box (Bc p1))]) (fun j1 h => ?_) (fun v1 h => ?_)
 ·refine Ah Aw rfl (qf Gz rfl (ql BY rfl (AV rfl (qm rfl ?_))))
  refine Eu 10 h rfl (fun h => ?_) fun h => ?_
  ·refine qw 3 rfl (qp rfl (qw 4 rfl (qu rfl (qu rfl (qn rfl (qp rfl (Ab ?_)))))))
   exact sn [] h
  ·refine qf Gz rfl (ql BY rfl (GQ rfl (qp rfl (qm rfl ?_))))
   refine Eu 15 h rfl (fun h => ?_) fun h => ?_
   ·refine qw 3 rfl (qu rfl (qu rfl (qn rfl (qp rfl (Ab ?_)))))
    exact sn [] h
   ·refine qf Jy rfl (ql Sm rfl (qm rfl ?_))
    refine Eu 18 h rfl (fun h => ?_) fun h => ?_
    ·refine qL G7 Dn rfl ?_
     refine BG h fun v5 a5 h => Av [] (Cu N p1 v5 a5) Sj rfl (qp rfl (qp rfl (Ab ?_)))
     exact sn [] h
    ·refine qw 2 rfl (qp rfl (qp rfl (Ab ?_)))
     exact sn [] h
 ·refine A8 h (fun h => ?_) fun h => ?_
  ·refine wq rfl (qe rfl ?_)
   obtain rfl := sj h
   refine Ae (sm [] [(4, iD 1)] [] rfl rfl) (Ar ?_)
   exact ⟨⟨[_], tm, rfl⟩, tv⟩
  ·refine Ai (wq rfl (qf A5 rfl (ql A0 rfl (AJ As rfl (qa rfl (Ab (AL ?_)))))))
   refine AS h (fun v7 => mk [(2, oD (.ptr 2 0)), (3, oD (.ptr 3 0)), (45, bD v7)] [(2, .box (Ag p0)), (3, .box (Bc p1))]) (fun j7 h => ?_) (fun v7 h => ?_)
   ·refine Ah Aw rfl (qf De rfl (ql BY rfl (AV rfl (qm rfl ?_))))
    refine Eu 29 h rfl (fun h => ?_) fun h => ?_
    ·refine qw 4 rfl (qp rfl (qw 4 rfl (qp rfl (qw 5 rfl (qp rfl (Ab ?_))))))
     exact sn [] h
    ·refine qf De rfl (ql BY rfl (qm rfl (EI rfl (qp rfl (qm rfl ?_)))))
     refine Eu 35 h rfl (fun h => ?_) fun h => ?_
     ·refine qw 3 rfl (qp rfl (qw 5 rfl (qp rfl (Ab ?_))))
      exact sn [] h
     ·refine qf HP rfl (ql BY rfl (AV rfl (qp rfl (qm rfl ?_))))
      refine Eu 40 h rfl (fun h => ?_) fun h => ?_
      ·refine qw 4 rfl (qp rfl (Ab ?_))
       exact sn [] h
      ·refine qf HP rfl (ql BY rfl (qm rfl (EI rfl (qp rfl (Ab ?_)))))
       exact sn [] h
   ·refine A8 h (fun h => ?_) fun h => ?_
    ·refine wq rfl (qe rfl ?_)
     obtain rfl := sj h
     refine Ae (sm [] [(4, iD 4)] [] rfl rfl) (Ar ?_)
     exact ⟨⟨[_], tm, rfl⟩, tv⟩
    ·refine Ai (wp rfl (qf Hn rfl (ql ID rfl (qf A5 rfl (ql A0 rfl (qf De rfl (ql BY rfl ?_)))))))
     refine BD h fun v12 a12 b12 h => qi As Cp a12 (Af b12) rfl (qk BY rfl (qf A5 rfl (ql A0 rfl (qf HP rfl (ql BY rfl ?_)))))
     refine BD h fun v13 a13 b13 h => qi As Cp a13 (Af b13) rfl (qk BY rfl ?_)
     refine BG h fun v14 a14 h => Av [] (IY N p1.fr v12 v13 v14 a14) cp rfl (CA rfl (AM (by kernel_rfl) ?_))
     refine A8 h (fun h => ?_) fun h => ?_
     ·refine wq rfl (qe rfl ?_)
      obtain rfl := sj h
      refine Ae (sm [] [(4, iD 6)] [] rfl rfl) (Ar ?_)
      exact ⟨⟨[_], tm, rfl⟩, tv⟩
     ·refine Ai (wp rfl (qf Gz rfl (ql BY rfl (Bo rfl (Ab ?_)))))
      refine A8 h (fun h => ?_) fun h => ?_
      ·refine wp rfl (qf FG rfl (ql ID rfl (AJ EL rfl (Bo rfl (Ab ?_)))))
       refine A8 h (fun h => ?_) fun h => ?_
       ·refine wq rfl (qe rfl ?_)
        obtain rfl := sj h
        refine Ae (sm [] [(4, iD 6)] [] rfl rfl) (Ar ?_)
        exact ⟨⟨[_], tm, rfl⟩, tv⟩
       ·refine Ai (wq rfl (qe rfl ?_))
        obtain rfl := sj h
        refine Ae (sm [] [(4, iD 0)] [] rfl rfl) (Ar ?_)
        exact ⟨⟨[_], tm, rfl⟩, tv⟩
      ·refine Ai (wp rfl (qf FG rfl (ql ID rfl (qf A5 rfl (ql A0 rfl (qf De rfl (ql BY rfl ?_)))))))
       refine BD h fun v18 a18 b18 h => qi As Cp a18 (Af b18) rfl (qk BY rfl (qf A5 rfl (ql A0 rfl (qf De rfl (ql BY rfl ?_)))))
       refine BD h fun v19 a19 b19 h => qi As Cp a19 (Af b19) rfl (qk BY rfl ?_)
       refine BG h fun v20 a20 h => Av [] (IY N p1.fm v18 v19 v20 a20) cp rfl (CA rfl (AM (by kernel_rfl) ?_))
       refine A8 h (fun h => ?_) fun h => ?_
       ·refine wq rfl (qe rfl ?_)
        obtain rfl := sj h
        refine Ae (sm [] [(4, iD 6)] [] rfl rfl) (Ar ?_)
        exact ⟨⟨[_], tm, rfl⟩, tv⟩
       ·refine Ai (wp rfl (qe rfl ?_))
        refine AC (L := Cc N p1) h (fun v22 => mk [(3, oD (.ptr 3 0)), (6, iD v22)] [(3, .box (Bc p1))]) (fun v23 => mk [] []) (fun _ _ => rfl) (sm [] _ _ rfl rfl) (fun j22 n22 v22 h => ?_) (fun v23 s h hs => ?_)
        ·unfold Cc at h
         refine wp rfl (qm rfl (qf FG rfl (ql ID rfl (AJ EL rfl (AV rfl (Ab ?_))))))
         refine A8 h (fun h => ?_) fun h => ?_
         ·refine Ai (AL (AH (wq rfl (qf FG rfl (ql ID rfl (qm rfl ?_))))))
          refine BD h fun v25 a25 b25 h => qi EL JM a25 (Af b25) rfl (qk OJ rfl (qm rfl ?_))
          refine BD h fun v26 a26 b26 h => qi ES Oq a26 (Af b26) rfl (qk Sm rfl (CA rfl (Ab ?_)))
          refine A8 h (fun h => ?_) fun h => ?_
          ·refine wq rfl (qe rfl ?_)
           obtain rfl := sj h
           refine Ae (sm [] [(4, iD 1)] [] rfl rfl) (Ar ?_)
           exact ⟨⟨[_], tm, rfl⟩, tv⟩
          ·refine Ai (Ah Aw rfl (qm rfl (AW rfl (qe rfl ?_))))
           exact sn [] h
         ·refine AR ?_
          exact sn [] h
        ·refine Ae hs (wq rfl (qe rfl ?_))
         obtain rfl := sj h
         refine Ae (sm [] [(4, iD 0)] [] rfl rfl) (Ar ?_)
         exact ⟨⟨[_], tm, rfl⟩, tv⟩
theorem DC (N : Nat) (p0 : Aa) (r : Int) (h : Br N p0 = some r) : Ao zA 33 [.e (.agg (Ag p0))] [] (iD r) := by
 unfold Br at h
 refine cw (n := 102) (rs := [.tmp 2]) Tryz.func33 fun w0 S0 => ?_
 refine wq rfl (qb rfl (qa rfl (Ab (AL ?_))))
 refine AS h (fun v1 => mk [(1, oD (.ptr 1 0)), (16, bD v1)] [(1, .box (Ag p0))]) (fun j1 h => ?_) (fun v1 h => ?_)
 ·refine Ah Aw rfl (qf A5 rfl (ql A0 rfl (AJ As rfl (GQ rfl (qm rfl ?_)))))
  refine Eu 11 h rfl (fun h => ?_) fun h => ?_
  ·refine qw 4 rfl (qp rfl (Ab ?_))
   exact sn [] h
  ·refine qf Cg rfl (ql Hp rfl (AJ Dv rfl (GQ rfl (qp rfl (Ab ?_)))))
   exact sn [] h
 ·refine A8 h (fun h => ?_) fun h => ?_
  ·refine wq rfl (qe rfl ?_)
   obtain rfl := sj h
   refine Ae (sm [] [(2, iD 3)] [] rfl rfl) (Ar ?_)
   exact ⟨⟨[_], tm, rfl⟩, tv⟩
  ·refine Ai (AL ?_)
   refine AS h (fun v4 => mk [(1, oD (.ptr 1 0)), (32, bD v4)] [(1, .box (Ag p0))]) (fun j4 h => ?_) (fun v4 h => ?_)
   ·refine Ah Aw rfl (qf FI rfl (ql A0 rfl (AJ As rfl (qf A5 rfl (ql A0 rfl (AJ As rfl (Bo rfl (qm rfl ?_))))))))
    refine Eu 24 h rfl (fun h => ?_) fun h => ?_
    ·refine qw 7 rfl (qp rfl (Ab ?_))
     exact sn [] h
    ·refine qf Gx rfl (ql A0 rfl (AJ As rfl (qf A5 rfl (ql A0 rfl (AJ As rfl (Bo rfl (qp rfl (Ab ?_))))))))
     exact sn [] h
   ·refine A8 h (fun h => ?_) fun h => ?_
    ·refine wq rfl (qe rfl ?_)
     obtain rfl := sj h
     refine Ae (sm [] [(2, iD 6)] [] rfl rfl) (Ar ?_)
     exact ⟨⟨[_], tm, rfl⟩, tv⟩
    ·refine Ai (wp rfl (qe rfl ?_))
     refine AC (L := Bm N p0) h (fun v7 => mk [(1, oD (.ptr 1 0)), (3, iD v7)] [(1, .box (Ag p0))]) (fun v8 => mk [(1, oD (.ptr 1 0))] [(1, .box (Ag p0))]) (fun _ _ => rfl) (sm [] _ _ rfl rfl) (fun j7 n7 v7 h => ?_) (fun v8 s h hs => ?_)
     ·unfold Bm at h
      refine wp rfl (qm rfl (qf A5 rfl (ql A0 rfl (AJ As rfl (AV rfl (Ab ?_))))))
      refine A8 h (fun h => ?_) fun h => ?_
      ·refine Ai (AL (AH (wq rfl (qf A5 rfl (ql A0 rfl (qm rfl ?_))))))
       refine BD h fun v10 a10 b10 h => qi As Cp a10 (Af b10) rfl (qk BY rfl (qe rfl ?_))
       refine AS h (fun v11 => mk [(1, oD (.ptr 1 0)), (3, iD v7), (84, bD v11)] [(1, .box (Ag p0))]) (fun j11 h => ?_) (fun v11 h => ?_)
       ·refine Ah Aw rfl (qm rfl (AV rfl (qm rfl ?_)))
        refine Eu 47 h rfl (fun h => ?_) fun h => ?_
        ·refine qw 2 rfl (qp rfl (qw 7 rfl (qp rfl (qw 8 rfl (qp rfl (qw 7 rfl (qp rfl (qw 8 rfl (qp rfl (Ab ?_))))))))))
         exact sn [] h
        ·refine qm rfl (GQ rfl (qp rfl (qm rfl ?_)))
         refine Eu 51 h rfl (fun h => ?_) fun h => ?_
         ·refine qw 6 rfl (qp rfl (qw 8 rfl (qp rfl (qw 7 rfl (qp rfl (qw 8 rfl (qp rfl (Ab ?_))))))))
          exact sn [] h
         ·refine qf FI rfl (ql A0 rfl (qm rfl ?_))
          refine BD h fun v14 a14 b14 h => qi As Cp a14 (Af b14) rfl (qk BY rfl (AV rfl (qp rfl (qm rfl ?_))))
          refine Eu 59 h rfl (fun h => ?_) fun h => ?_
          ·refine qw 7 rfl (qp rfl (qw 7 rfl (qp rfl (qw 8 rfl (qp rfl (Ab ?_))))))
           exact sn [] h
          ·refine qf FI rfl (ql A0 rfl (qm rfl ?_))
           refine BD h fun v16 a16 b16 h => qi As Cp a16 (Af b16) rfl (qk BY rfl (qm rfl (EI rfl (qp rfl (qm rfl ?_)))))
           refine Eu 68 h rfl (fun h => ?_) fun h => ?_
           ·refine qw 6 rfl (qp rfl (qw 8 rfl (qp rfl (Ab ?_))))
            exact sn [] h
           ·refine qf Gx rfl (ql A0 rfl (qm rfl ?_))
            refine BD h fun v18 a18 b18 h => qi As Cp a18 (Af b18) rfl (qk BY rfl (AV rfl (qp rfl (qm rfl ?_))))
            refine Eu 76 h rfl (fun h => ?_) fun h => ?_
            ·refine qw 7 rfl (qp rfl (Ab ?_))
             exact sn [] h
            ·refine qf Gx rfl (ql A0 rfl (qm rfl ?_))
             refine BD h fun v20 a20 b20 h => qi As Cp a20 (Af b20) rfl (qk BY rfl (qm rfl (EI rfl (qp rfl (Ab ?_)))))
             exact sn [] h
       ·refine A8 h (fun h => ?_) fun h => ?_
        ·refine wq rfl (qe rfl ?_)
         obtain rfl := sj h
         refine Ae (sm [] [(2, iD 7)] [] rfl rfl) (Ar ?_)
         exact ⟨⟨[_], tm, rfl⟩, tv⟩
        ·refine Ai (Ah Aw rfl (qm rfl (AW rfl (qe rfl ?_))))
         exact sn [] h
      ·refine AR ?_
       exact sn [] h
     ·refine Ae hs (wp rfl (qe rfl ?_))
      refine AC (L := Bh N p0) h (fun v22 => mk [(1, oD (.ptr 1 0)), (5, iD v22)] [(1, .box (Ag p0))]) (fun v23 => mk [] []) (fun _ _ => rfl) (sm [] _ _ rfl rfl) (fun j22 n22 v22 h => ?_) (fun v23 s h hs => ?_)
      ·unfold Bh at h
       refine wp rfl (qm rfl (qf Cg rfl (ql Hp rfl (AJ Dv rfl (AV rfl (Ab ?_))))))
       refine A8 h (fun h => ?_) fun h => ?_
       ·refine Ai (AL (AH (wq rfl (qL Co BN rfl (qf Cg rfl (ql Hp rfl (qm rfl ?_)))))))
        refine BD h fun v25 a25 b25 h => qi Dv Dn a25 (Af b25) rfl (qK G7 Dn rfl ?_)
        refine BG h fun v26 a26 h => Av [] (Ml N p0 v25 v26 a26) eK rfl (qa rfl (AM (by kernel_rfl) (wq rfl (qm rfl (Bo rfl (Ab ?_))))))
        refine A8 h (fun h => ?_) fun h => ?_
        ·refine wq rfl (qm rfl (qe rfl ?_))
         obtain rfl := sj h
         refine Ae (sm [] [(2, iD v26)] [] rfl rfl) (Ar ?_)
         exact ⟨⟨[_], tm, rfl⟩, tv⟩
        ·refine Ai (Ah Aw rfl (qm rfl (AW rfl (qe rfl ?_))))
         exact sn [] h
       ·refine AR ?_
        exact sn [] h
      ·refine Ae hs (wq rfl (qe rfl ?_))
       obtain rfl := sj h
       refine Ae (sm [] [(2, iD 0)] [] rfl rfl) (Ar ?_)
       exact ⟨⟨[_], tm, rfl⟩, tv⟩
theorem Nv (N : Nat) (p0 : Int) (r : (List Int)) (h : HX N p0 = some r) : Ao zA 55 [iD p0] [(1, r.map Aj)] (oD (.own 0)) := by
 unfold HX at h
 refine cw (n := 21) (rs := [.tmp 2]) Tryz.func55 fun w0 S0 => ?_
 refine wq rfl (qa rfl (Ab (wq rfl (qa rfl (Ab (wp rfl (qe rfl ?_)))))))
 refine AC (L := FJ N p0) h (fun v1 => mk [(0, iD p0), (3, oD (.own 2001)), (4, iD v1.2)] [(2001, .vec 1 (v1.1.map Aj))]) (fun v2 => mk [(3, oD (.own 2002))] [(2002, .vec 1 (v2.map Aj))]) (fun _ _ => rfl) ((AT 3 2004 1 rfl rfl rfl).trans (sm [(2001, 2004)] _ _ rfl rfl)) (fun j1 n1 v1 h => ?_) (fun v2 s h hs => ?_)
 ·unfold FJ at h
  refine wp rfl (qw 2 rfl ?_)
  refine FL h fun c3 h => G4 rfl c3 (GQ rfl (Ab ?_))
  refine A8 h (fun h => ?_) fun h => ?_
  ·refine Ai ?_
   refine AS h (fun v5 => mk [(0, iD p0), (3, oD (.own 2003)), (4, iD v1.2)] [(2003, .vec 1 (v5.map Aj))]) (fun j5 h => ?_) (fun v5 h => ?_)
   ·refine AH (wq rfl (qw 2 rfl ?_))
    refine FL h fun c6 h => G4 rfl c6 (MH rfl (by decide) (B1 rfl (Ab ?_)))
    refine A8 h (fun h => ?_) fun h => ?_
    ·refine Ah Aw rfl (qw 2 rfl (Dg As Cp IM rfl ?_))
     refine FL h fun c8 h => Ce (f := Aj) As As Cp JN IM c8 rfl (qe rfl ?_)
     exact sn [(2003, 19)] h
    ·refine Ai ?_
     exact sn [(2003, 2001)] h
   ·refine Ah Aw rfl (qm rfl (AW rfl (qe rfl ?_)))
    exact sn [(2001, 2003)] h
  ·refine AR ?_
   exact sn [(2002, 2001)] h
 ·refine Ae hs (wq rfl (qm rfl (qe rfl ?_)))
  obtain rfl := sj h
  refine Ae (sm [(1000, 2002)] [(2, oD (.own 1000))] [(1000, .vec 1 (v2.map Aj))] rfl rfl) (Ar ?_)
  exact ⟨⟨[_], tm, rfl⟩, ⟨rfl, tv⟩⟩
theorem LU (N : Nat) (p0 : List Int) (p1 : List Int) (r : Bool) (h : GZ N p0 p1 = some r) : Ao zA 56 [pD (.sl (p0.map Aj)), pD (.sl (p1.map Aj))] [] (bD r) := by
 unfold GZ at h
 refine cw (n := 40) (rs := [.tmp 4]) Tryz.func56 fun w0 S0 => ?_
 refine wq rfl (qa rfl (Ab (wp rfl (qm rfl (AJ As rfl (qm rfl (AJ As rfl (Bo rfl (Ab ?_)))))))))
 refine A8 h (fun h => ?_) fun h => ?_
 ·refine wq rfl (qm rfl (AJ As rfl (qm rfl (AJ As rfl (AV rfl (qe rfl ?_))))))
  obtain rfl := sj h
  refine Ae (sm [] [(4, bD ((decide ((p0.length : Int) < (p1.length : Int)))))] [] rfl rfl) (Ar ?_)
  exact ⟨⟨[_], tm, rfl⟩, tv⟩
 ·refine Ai (wp rfl (qe rfl ?_))
  refine AC (L := EW N p0 p1) h (fun v2 => mk [(0, pD (.sl (p0.map Aj))), (1, pD (.sl (p1.map Aj))), (5, iD v2)] []) (fun v3 => mk [] []) (fun _ _ => rfl) (sm [] _ _ rfl rfl) (fun j2 n2 v2 h => ?_) (fun v3 s h hs => ?_)
  ·unfold EW at h
   refine wp rfl (qw 2 rfl (AJ As rfl (AV rfl (Ab ?_))))
   refine A8 h (fun h => ?_) fun h => ?_
   ·refine Ai (AL (AH (wq rfl (qw 2 rfl ?_))))
    refine BD h fun v5 a5 b5 h => qi As Cp a5 (Af b5) rfl (qk BY rfl (qw 2 rfl ?_))
    refine BD h fun v6 a6 b6 h => qi As Cp a6 (Af b6) rfl (qk BY rfl (Bo rfl (AM (by kernel_rfl) ?_)))
    refine A8 h (fun h => ?_) fun h => ?_
    ·refine wq rfl (qw 2 rfl ?_)
     refine BD h fun v8 a8 b8 h => qi As Cp a8 (Af b8) rfl (qk BY rfl (qw 2 rfl ?_))
     refine BD h fun v9 a9 b9 h => qi As Cp a9 (Af b9) rfl (qk BY rfl (AV rfl (qa rfl (AM (by kernel_rfl) ?_))))
     obtain rfl := sj h
     refine Ae (sm [] [(4, bD ((decide (v8 < v9))))] [] rfl rfl) (Ar ?_)
     exact ⟨⟨[_], tm, rfl⟩, tv⟩
    ·refine Ai (Ah Aw rfl (qm rfl (AW rfl (qe rfl ?_))))
     exact sn [] h
   ·refine AR ?_
    exact sn [] h
  ·refine Ae hs (wq rfl (qe rfl ?_))
   obtain rfl := sj h
   refine Ae (sm [] [(4, bD false)] [] rfl rfl) (Ar ?_)
   exact ⟨⟨[_], tm, rfl⟩, tv⟩
theorem J1 (N : Nat) (p0 : Int) (r : (List (List Int))) (h : CK N p0 = some r) : Ao zA 30 [iD p0] [(1, r.map (ED Aj))] (oD (.own 0)) := by
 unfold CK at h
 refine cw (n := 53) (rs := [.tmp 2]) Tryz.func30 fun w0 S0 => ?_
 refine wq rfl (qa rfl (Ab (wq rfl (qa rfl (Ab (wp rfl (qe rfl ?_)))))))
 refine AC (L := Fs N p0) h (fun v1 => mk [(0, iD p0), (3, oD (.own 2001)), (4, iD v1.2)] [(2001, .vec 1 (v1.1.map (ED Aj)))]) (fun v2 => mk [(3, oD (.own 2002))] [(2002, .vec 1 (v2.map (ED Aj)))]) (fun _ _ => rfl) ((AT 3 2007 1 rfl rfl rfl).trans (sm [(2001, 2007)] _ _ rfl rfl)) (fun j1 n1 v1 h => ?_) (fun v2 s h hs => ?_)
 ·unfold Fs at h
  refine wp rfl (qw 2 rfl ?_)
  refine FL h fun c3 h => Jh rfl c3 (AV rfl (Ab ?_))
  refine A8 h (fun h => ?_) fun h => ?_
  ·refine Ai (AL (AH (wq rfl (qw 2 rfl ?_))))
   refine BG h fun v5 a5 h => Av [2003] (Nv N v1.2 v5 a5) d7 rfl (C0 (Bb 2003 _ _ rfl rfl) (Dg EB GT SB rfl ?_))
   refine FL h fun c6 h => Ce (f := (ED Aj)) EB EB GT WX SB c6 rfl (qa rfl (Ab (wq rfl (qm rfl (D6 EB rfl (Ko rfl (qe rfl ?_)))))))
   refine AC (L := Fr N) h (fun v7 => mk [(0, iD p0), (3, oD (.own 2004)), (4, iD v1.2), (5, iD v7.2)] [(2004, .vec 1 (v7.1.map (ED Aj)))]) (fun v8 => mk [(0, iD p0), (3, oD (.own 2005)), (4, iD v1.2)] [(2005, .vec 1 (v8.map (ED Aj)))]) (fun _ _ => rfl) (sm [(2004, 16)] _ _ rfl rfl) (fun j7 n7 v7 h => ?_) (fun v8 s h hs => ?_)
   ·unfold Fr at h
    refine AL ?_
    refine AS h (fun v9 => mk [(0, iD p0), (3, oD (.own 2006)), (4, iD v1.2), (5, iD v7.2), (33, bD v9)] [(2006, .vec 1 (v7.1.map (ED Aj)))]) (fun j9 h => ?_) (fun v9 h => ?_)
    ·refine Ah Aw rfl (qm rfl (GQ rfl (qm rfl ?_)))
     refine Eu 22 h rfl (fun h => ?_) fun h => ?_
     ·refine qw 2 rfl ?_
      refine BD h fun v11 a11 b11 h => qI EB GT a11 (Af b11) rfl (qj A0 (Af b11) rfl (qw 2 rfl (Ko rfl ?_)))
      refine BD h fun v12 a12 b12 h => qI EB GT a12 (Af b12) rfl (qj A0 (Af b12) rfl ?_)
      refine BG h fun v13 a13 h => Av [] (LU N v11 v12 v13 a13) d4 rfl (qp rfl (AM (by kernel_rfl) ?_))
      exact sn [(2006, 2004)] h
     ·refine qw 10 rfl (qp rfl (AM (by kernel_rfl) ?_))
      exact sn [(2006, 2004)] h
    ·refine A8 h (fun h => ?_) fun h => ?_
     ·refine Ai (AL (AH (Ah Aw rfl (qw 4 rfl (Ko rfl (qw 2 rfl (Ko rfl ?_)))))))
      refine BD h fun v15 a15 b15 h => qI EB GT a15 (Af b15) rfl (qj A0 (Af b15) rfl (qw 2 rfl ?_))
      refine BD h fun v16 a16 b16 h => qI EB GT a16 (Af b16) rfl (qj A0 (Af b16) rfl ?_)
      refine BD h fun v17 a17 b17 h => qI EB GT a17 (Af b17) rfl ?_
      refine DJ rfl rfl rfl rfl (Af b17) rfl GT rfl (Jo rfl) (DB (ED Aj) v7.1 _ v15) ?_
      refine BD h fun v18 a18 b18 h => qI EB GT a18 (Af b18) rfl ?_
      refine DJ rfl rfl rfl rfl (Af b18) rfl GT rfl (Jo rfl) (DB (ED Aj) (v7.1.set ((v7.2).toNat) v15) _ v16) ?_
      refine AM (by kernel_rfl) (Ah Aw rfl (qm rfl (Ko rfl (qe rfl ?_))))
      exact sn [(2004, 2006)] h
     ·refine AR ?_
      exact sn [(2005, 2006)] h
   ·refine Ae hs (Ah Aw rfl (qm rfl (AW rfl (qe rfl ?_))))
    exact sn [(2001, 2005)] h
  ·refine AR ?_
   exact sn [(2002, 2001)] h
 ·refine Ae hs (wq rfl (qm rfl (qe rfl ?_)))
  obtain rfl := sj h
  refine Ae (sm [(1000, 2002)] [(2, oD (.own 1000))] [(1000, .vec 1 (v2.map (ED Aj)))] rfl rfl) (Ar ?_)
  exact ⟨⟨[_], tm, rfl⟩, ⟨rfl, tv⟩⟩
theorem Jl (N : Nat) (p0 : List Int) (p1 : Int) (r : Int) (h : Ef N p0 p1 = some r) : Ao zA 57 [pD (.sl (p0.map Aj)), iD p1] [] (iD r) := by
 unfold Ef at h
 refine cw (n := 19) (rs := [.tmp 4]) Tryz.func57 fun w0 S0 => ?_
 refine wq rfl (qa rfl (Ab (wp rfl (qe rfl ?_))))
 refine AC (L := Ch N p0 p1) h (fun v1 => mk [(0, pD (.sl (p0.map Aj))), (1, iD p1), (5, iD v1)] []) (fun v2 => mk [] []) (fun _ _ => rfl) (sm [] _ _ rfl rfl) (fun j1 n1 v1 h => ?_) (fun v2 s h hs => ?_)
 ·unfold Ch at h
  refine wp rfl (qw 2 rfl (AJ As rfl (AV rfl (Ab ?_))))
  refine A8 h (fun h => ?_) fun h => ?_
  ·refine Ai (AL (AH (wq rfl (qw 2 rfl ?_))))
   refine BD h fun v4 a4 b4 h => qi As Cp a4 (Af b4) rfl (qk BY rfl (qm rfl (B1 rfl (Ab ?_))))
   refine A8 h (fun h => ?_) fun h => ?_
   ·refine wq rfl (qm rfl (qe rfl ?_))
    obtain rfl := sj h
    refine Ae (sm [] [(4, iD v1)] [] rfl rfl) (Ar ?_)
    exact ⟨⟨[_], tm, rfl⟩, tv⟩
   ·refine Ai (Ah Aw rfl (qm rfl (AW rfl (qe rfl ?_))))
    exact sn [] h
  ·refine AR ?_
   exact sn [] h
 ·refine Ae hs (wq rfl (qe rfl ?_))
  obtain rfl := sj h
  refine Ae (sm [] [(4, iD ((-1)))] [] rfl rfl) (Ar ?_)
  exact ⟨⟨[_], tm, rfl⟩, tv⟩
theorem I3 (N : Nat) (p0 : List (List Bool)) (r : (List (List Bool))) (h : DT N p0 = some r) : Ao zA 92 [pD (.sl (p0.map (ED eB)))] [(1, r.map (ED eB))] (oD (.own 0)) := by
 unfold DT at h
 refine cw (n := 21) (rs := [.tmp 2]) Tryz.func92 fun w0 S0 => ?_
 refine wq rfl (qa rfl (Ab (wq rfl (qa rfl (Ab (wp rfl (qe rfl ?_)))))))
 refine AC (L := CE N p0) h (fun v1 => mk [(0, pD (.sl (p0.map (ED eB)))), (3, oD (.own 2001)), (4, iD v1.2)] [(2001, .vec 1 (v1.1.map (ED eB)))]) (fun v2 => mk [(3, oD (.own 2002))] [(2002, .vec 1 (v2.map (ED eB)))]) (fun _ _ => rfl) ((AT 3 2003 1 rfl rfl rfl).trans (sm [(2001, 2003)] _ _ rfl rfl)) (fun j1 n1 v1 h => ?_) (fun v2 s h hs => ?_)
 ·unfold CE at h
  refine wp rfl (qw 2 rfl (AJ EL rfl (AV rfl (Ab ?_))))
  refine A8 h (fun h => ?_) fun h => ?_
  ·refine Ai (AL (AH (Ah Aw rfl (qm rfl (Dg ES Oq Sn rfl (qw 2 rfl ?_))))))
   refine BD h fun v4 a4 b4 h => qi EL JM a4 (Af b4) rfl (qk OJ rfl ?_)
   refine FL h fun c5 h => Jb (f := eB) ES ES Oq VV Sn (fun _ => rfl) c5 rfl (C0 (Bb 17 _ _ rfl rfl) (Dg EL JM TX rfl ?_))
   refine FL h fun c6 h => Ce (f := (ED eB)) EL EL JM WL TX c6 rfl (qa rfl (Ab (Ah Aw rfl (qm rfl (AW rfl (qe rfl ?_))))))
   exact sn [(2001, 19)] h
  ·refine AR ?_
   exact sn [(2002, 2001)] h
 ·refine Ae hs (wq rfl (qm rfl (qe rfl ?_)))
  obtain rfl := sj h
  refine Ae (sm [(1000, 2002)] [(2, oD (.own 1000))] [(1000, .vec 1 (v2.map (ED eB)))] rfl rfl) (Ar ?_)
  exact ⟨⟨[_], tm, rfl⟩, ⟨rfl, tv⟩⟩
theorem L5 (N : Nat) (p0 : An) (p1 : Int) (p2 : Int) (r : An) (h : FD N p0 p1 p2 = some r) : Ao zA 58 [.e (.agg (Bc p0)), iD p1, iD p2] [(1, r.fr.map (ED eB)), (1, r.fm.map (ED eB))] (.e (.agg [iC r.fg, iC r.fh, iC r.fk, .pure (.val (.bool r.ft)), .own 0, .own 1])) := by
 unfold FD at h
 refine cw (n := 20) (rs := [.cell 6 84]) Tryz.func58 fun w0 S0 => ?_
 refine wq rfl (qb rfl (qz Jf rfl (Ab (wq rfl (qf Gz rfl (ql BY rfl (qw 2 rfl (qf Jy rfl (ql Sm rfl (qf Hn rfl (ql ID rfl ?_)))))))))))
 refine BG h fun v1 a1 h => Av [2001] (I3 N p0.fr v1 a1) bH rfl (qf FG rfl (ql ID rfl ?_))
 refine BG h fun v2 a2 h => Av [2002] (I3 N p0.fm v2 a2) bH rfl (Bk Jf Yw rfl (qs Dn rfl (AM (by kernel_rfl) ?_)))
 obtain rfl := sj h
 refine Ae (sm [(1000, 2001), (1001, 2002)] [(6, oD (.ptr 6 0))] [(6, .box [iC p0.fg, iC p1, iC p2, .pure (.val (.bool p0.ft)), .own 1000, .own 1001]), (1000, .vec 1 (v1.map (ED eB))), (1001, .vec 1 (v2.map (ED eB)))] rfl rfl) (Ar ?_)
 exact ⟨⟨[_], ⟨.cellN _ _ _ _ _ _ _ rfl rfl G7 Dn rfl rfl (Jx rfl), tv⟩, rfl⟩, ⟨rfl, rfl, tv⟩⟩
theorem Ir (N : Nat) (p0 : Aa) (p1 : List Int) (r : Aa × Int) (h : Dq N p0 p1 = some r) : Ao zA 31 [.e (.agg (Ag p0)), pD (.sl (p1.map Aj))] [(1, r.1.fb.map Aj), (1, r.1.fj.map Aj), (1, r.1.fo.map Aj), (6, r.1.fd.map AN)] (.tup [.agg [.own 0, .own 1, .own 2, .own 3], .one (iC r.2)]) := by
 unfold Dq at h
 refine cw (n := 124) (rs := [.cell 4 29, .tmp 5]) Tryz.func31 fun w0 S0 => ?_
 refine wq rfl (qb rfl (qz Kx rfl (qa rfl (Ab (wp rfl (qL Co BN rfl ?_))))))
 refine BG h fun v1 a1 h => Av [] (DC N p0 v1 a1) W9 rfl (qa rfl (Ab (wq rfl (qm rfl (Bo rfl (Ab ?_))))))
 refine A8 h (fun h => ?_) fun h => ?_
 ·refine wq rfl (Bk Kx S8 rfl (qm rfl (qs BN rfl (qe rfl ?_))))
  obtain rfl := sj h
  refine Ae ((Aq 4 0 2001 1 _ rfl rfl rfl rfl).trans ((Aq 4 1 2002 1 _ rfl rfl rfl rfl).trans ((Aq 4 2 2003 1 _ rfl rfl rfl rfl).trans ((Aq 4 3 2004 6 _ rfl rfl rfl rfl).trans (sm [(1000, 2001), (1001, 2002), (1002, 2003), (1003, 2004)] [(4, oD (.ptr 4 0)), (5, iD v1)] [(4, .box [.own 1000, .own 1001, .own 1002, .own 1003]), (1000, .vec 1 ((([] : List Int)).map Aj)), (1001, .vec 1 ((([] : List Int)).map Aj)), (1002, .vec 1 ((([] : List Int)).map Aj)), (1003, .vec 6 ((([] : List An)).map AN))] rfl rfl))))) (Ar ?_)
  exact ⟨⟨[_, _], ⟨.cellN _ _ _ _ _ _ _ rfl rfl Co BN rfl rfl (Jx rfl), tm⟩, rfl⟩, ⟨rfl, rfl, rfl, rfl, tv⟩⟩
 ·refine Ai (wp rfl (qe rfl ?_))
  refine AC (L := A1 N p1) h (fun v3 => mk [(1, pD (.sl (p1.map Aj))), (2, oD (.ptr 2 0)), (4, oD (.ptr 4 0)), (7, iD v3)] [(2, .box (Ag p0)), (4, .box [.pure (.nil0), .pure (.nil0), .pure (.nil0), .pure (.nil0)])]) (fun v4 => mk [(1, pD (.sl (p1.map Aj))), (2, oD (.ptr 2 0)), (4, oD (.ptr 4 0))] [(2, .box (Ag p0)), (4, .box [.pure (.nil0), .pure (.nil0), .pure (.nil0), .pure (.nil0)])]) (fun _ _ => rfl) (sm [] _ _ rfl rfl) (fun j3 n3 v3 h => ?_) (fun v4 s h hs => ?_)
  ·unfold A1 at h
   refine wp rfl (qw 2 rfl (AJ As rfl (AV rfl (Ab ?_))))
   refine A8 h (fun h => ?_) fun h => ?_
   ·refine Ai (AL (AH (wq rfl (qw 2 rfl ?_))))
    refine BD h fun v6 a6 b6 h => qi As Cp a6 (Af b6) rfl (qk BY rfl (qw 2 rfl (Ko rfl ?_)))
    refine BD h fun v7 a7 b7 h => qi As Cp a7 (Af b7) rfl (qk BY rfl (Vj rfl (AM (by kernel_rfl) ?_)))
    refine A8 h (fun h => ?_) fun h => ?_
    ·refine wq rfl (Bk Kx S8 rfl (qs BN rfl (qe rfl ?_)))
     obtain rfl := sj h
     refine Ae ((Aq 4 0 2005 1 _ rfl rfl rfl rfl).trans ((Aq 4 1 2006 1 _ rfl rfl rfl rfl).trans ((Aq 4 2 2007 1 _ rfl rfl rfl rfl).trans ((Aq 4 3 2008 6 _ rfl rfl rfl rfl).trans (sm [(1000, 2005), (1001, 2006), (1002, 2007), (1003, 2008)] [(4, oD (.ptr 4 0)), (5, iD 1)] [(4, .box [.own 1000, .own 1001, .own 1002, .own 1003]), (1000, .vec 1 ((([] : List Int)).map Aj)), (1001, .vec 1 ((([] : List Int)).map Aj)), (1002, .vec 1 ((([] : List Int)).map Aj)), (1003, .vec 6 ((([] : List An)).map AN))] rfl rfl))))) (Ar ?_)
     exact ⟨⟨[_, _], ⟨.cellN _ _ _ _ _ _ _ rfl rfl Co BN rfl rfl (Jx rfl), tm⟩, rfl⟩, ⟨rfl, rfl, rfl, rfl, tv⟩⟩
    ·refine Ai (Ah Aw rfl (qm rfl (AW rfl (qe rfl ?_))))
     exact sn [] h
   ·refine AR ?_
    exact sn [] h
  ·refine Ae hs (wq rfl (qz Kx rfl (Ab (wp rfl (qe rfl ?_)))))
   refine AC (L := CM N p0 p1) h (fun v9 => mk [(1, pD (.sl (p1.map Aj))), (2, oD (.ptr 2 0)), (4, oD (.ptr 4 0)), (8, oD (.ptr 8 0)), (9, iD v9.2.2.2)] [(2, .box (Ag p0)), (4, .box [.pure (.nil0), .pure (.nil0), .pure (.nil0), .pure (.nil0)]), (8, .box [.own 2009, .own 2010, .own 2011, .pure (.nil0)]), (2009, .vec 1 (v9.1.map Aj)), (2010, .vec 1 (v9.2.1.map Aj)), (2011, .vec 1 (v9.2.2.1.map Aj))]) (fun v10 => mk [(1, pD (.sl (p1.map Aj))), (2, oD (.ptr 2 0)), (4, oD (.ptr 4 0)), (8, oD (.ptr 8 0))] [(2, .box (Ag p0)), (4, .box [.pure (.nil0), .pure (.nil0), .pure (.nil0), .pure (.nil0)]), (8, .box [.own 2012, .own 2013, .own 2014, .pure (.nil0)]), (2012, .vec 1 (v10.1.map Aj)), (2013, .vec 1 (v10.2.1.map Aj)), (2014, .vec 1 (v10.2.2.map Aj))]) (fun _ _ => rfl) ((Aq 8 0 2022 1 _ rfl rfl rfl rfl).trans ((Aq 8 1 2023 1 _ rfl rfl rfl rfl).trans ((Aq 8 2 2024 1 _ rfl rfl rfl rfl).trans (sm [(2009, 2022), (2010, 2023), (2011, 2024)] _ _ rfl rfl)))) (fun j9 n9 v9 h => ?_) (fun v10 s h hs => ?_)
   ·unfold CM at h
    refine wp rfl (qw 2 rfl (AJ As rfl (AV rfl (Ab ?_))))
    refine A8 h (fun h => ?_) fun h => ?_
    ·refine Ai (AL (AH (wq rfl (qw 2 rfl ?_))))
     refine BD h fun v12 a12 b12 h => qi As Cp a12 (Af b12) rfl (qk BY rfl (qa rfl (Ab (AL ?_))))
     refine AS h (fun v13 => mk [(1, pD (.sl (p1.map Aj))), (2, oD (.ptr 2 0)), (4, oD (.ptr 4 0)), (8, oD (.ptr 8 0)), (9, iD v9.2.2.2), (10, iD v12), (56, bD v13)] [(2, .box (Ag p0)), (4, .box [.pure (.nil0), .pure (.nil0), .pure (.nil0), .pure (.nil0)]), (8, .box [.own 2015, .own 2016, .own 2017, .pure (.nil0)]), (2015, .vec 1 (v9.1.map Aj)), (2016, .vec 1 (v9.2.1.map Aj)), (2017, .vec 1 (v9.2.2.1.map Aj))]) (fun j13 h => ?_) (fun v13 h => ?_)
     ·refine Ah Aw rfl (qm rfl (AV rfl (qm rfl ?_)))
      refine Eu 50 h rfl (fun h => ?_) fun h => ?_
      ·refine qw 5 rfl (qp rfl (Ab ?_))
       exact sn [(2015, 2009), (2016, 2010), (2017, 2011)] h
      ·refine qm rfl (qf A5 rfl (ql A0 rfl (AJ As rfl (EI rfl (qp rfl (Ab ?_))))))
       exact sn [(2015, 2009), (2016, 2010), (2017, 2011)] h
     ·refine A8 h (fun h => ?_) fun h => ?_
      ·refine wq rfl (Bk Kx S8 rfl (qs BN rfl (qe rfl ?_)))
       obtain rfl := sj h
       refine Ae ((Aq 4 0 2018 1 _ rfl rfl rfl rfl).trans ((Aq 4 1 2019 1 _ rfl rfl rfl rfl).trans ((Aq 4 2 2020 1 _ rfl rfl rfl rfl).trans ((Aq 4 3 2021 6 _ rfl rfl rfl rfl).trans (sm [(1000, 2018), (1001, 2019), (1002, 2020), (1003, 2021)] [(4, oD (.ptr 4 0)), (5, iD 4)] [(4, .box [.own 1000, .own 1001, .own 1002, .own 1003]), (1000, .vec 1 ((([] : List Int)).map Aj)), (1001, .vec 1 ((([] : List Int)).map Aj)), (1002, .vec 1 ((([] : List Int)).map Aj)), (1003, .vec 6 ((([] : List An)).map AN))] rfl rfl))))) (Ar ?_)
       exact ⟨⟨[_, _], ⟨.cellN _ _ _ _ _ _ _ rfl rfl Co BN rfl rfl (Jx rfl), tm⟩, rfl⟩, ⟨rfl, rfl, rfl, rfl, tv⟩⟩
      ·refine Ai (wq rfl (qf A5 rfl (ql A0 rfl (qf A5 rfl (ql A0 rfl (qm rfl ?_))))))
       refine BD h fun v16 a16 b16 h => qi As Cp a16 (Af b16) rfl (qk BY rfl (Dg As Cp IM rfl ?_))
       refine FL h fun c17 h => Ce (f := Aj) As As Cp JN IM c17 rfl (qf A5 rfl (qs GT rfl (AM (by kernel_rfl) (wq rfl (qf FI rfl (ql A0 rfl (qf FI rfl (ql A0 rfl (qm rfl ?_)))))))))
       refine BD h fun v18 a18 b18 h => qi As Cp a18 (Af b18) rfl (qk BY rfl (Dg As Cp IM rfl ?_))
       refine FL h fun c19 h => Ce (f := Aj) As As Cp JN IM c19 rfl (qf FI rfl (qs GT rfl (AM (by kernel_rfl) (Ah Aw rfl (qf Gx rfl (ql A0 rfl (qf Gx rfl (ql A0 rfl (qm rfl ?_)))))))))
       refine BD h fun v20 a20 b20 h => qi As Cp a20 (Af b20) rfl (qk BY rfl (Dg As Cp IM rfl ?_))
       refine FL h fun c21 h => Ce (f := Aj) As As Cp JN IM c21 rfl (qf Gx rfl (qs GT rfl (AM (by kernel_rfl) (Ah Aw rfl (qm rfl (AW rfl (qe rfl ?_)))))))
       exact sn [(2009, 66), (2010, 76), (2011, 86)] h
    ·refine AR ?_
     exact sn [(2012, 2009), (2013, 2010), (2014, 2011)] h
   ·refine Ae hs (wp rfl (qe rfl ?_))
    refine AC (L := BH N p0 p1) h (fun v22 => mk [(1, pD (.sl (p1.map Aj))), (2, oD (.ptr 2 0)), (4, oD (.ptr 4 0)), (8, oD (.ptr 8 0)), (11, iD v22.2)] [(2, .box (Ag p0)), (4, .box [.pure (.nil0), .pure (.nil0), .pure (.nil0), .pure (.nil0)]), (8, .box [.own 2025, .own 2026, .own 2027, .own 2028]), (2025, .vec 1 (v10.1.map Aj)), (2026, .vec 1 (v10.2.1.map Aj)), (2027, .vec 1 (v10.2.2.map Aj)), (2028, .vec 6 (v22.1.map AN))]) (fun v23 => mk [(4, oD (.ptr 4 0)), (8, oD (.ptr 8 0))] [(4, .box [.pure (.nil0), .pure (.nil0), .pure (.nil0), .pure (.nil0)]), (8, .box [.own 2029, .own 2030, .own 2031, .own 2032]), (2029, .vec 1 (v10.1.map Aj)), (2030, .vec 1 (v10.2.1.map Aj)), (2031, .vec 1 (v10.2.2.map Aj)), (2032, .vec 6 (v23.map AN))]) (fun _ _ => rfl) ((Aq 8 3 2041 6 _ rfl rfl rfl rfl).trans (sm [(2025, 2012), (2026, 2013), (2027, 2014), (2028, 2041)] _ _ rfl rfl)) (fun j22 n22 v22 h => ?_) (fun v23 s h hs => ?_)
    ·unfold BH at h
     refine wp rfl (qm rfl (qf Cg rfl (ql Hp rfl (AJ Dv rfl (AV rfl (Ab ?_))))))
     refine A8 h (fun h => ?_) fun h => ?_
     ·refine Ai ?_
      refine AS h (fun v25 => mk [(1, pD (.sl (p1.map Aj))), (2, oD (.ptr 2 0)), (4, oD (.ptr 4 0)), (8, oD (.ptr 8 0)), (11, iD v22.2)] [(2, .box (Ag p0)), (4, .box [.pure (.nil0), .pure (.nil0), .pure (.nil0), .pure (.nil0)]), (8, .box [.own 2033, .own 2034, .own 2035, .own 2036]), (2033, .vec 1 (v10.1.map Aj)), (2034, .vec 1 (v10.2.1.map Aj)), (2035, .vec 1 (v10.2.2.map Aj)), (2036, .vec 6 (v25.map AN))]) (fun j25 h => ?_) (fun v25 h => ?_)
      ·refine AH (wq rfl (qf Cg rfl (ql Hp rfl (qm rfl ?_))))
       refine BD h fun v26 a26 b26 h => qi Dv Dn a26 (Af b26) rfl (qK G7 Dn rfl (qz Jf rfl (qs Dn rfl (Ab (wq rfl (qm rfl (qf De rfl (ql BY rfl ?_))))))))
       refine BG h fun v27 a27 h => Av [] (Jl N p1 v26.fh v27 a27) cr rfl (qm rfl (qf HP rfl (ql BY rfl ?_)))
       refine BG h fun v28 a28 h => Av [] (Jl N p1 v26.fk v28 a28) cr rfl (qa rfl (qa rfl (AM (by kernel_rfl) ?_)))
       refine AS h (fun v29 => mk [(1, pD (.sl (p1.map Aj))), (2, oD (.ptr 2 0)), (4, oD (.ptr 4 0)), (8, oD (.ptr 8 0)), (11, iD v22.2), (12, oD (.ptr 12 0)), (13, iD v27), (14, iD v28), (113, bD v29)] [(2, .box (Ag p0)), (4, .box [.pure (.nil0), .pure (.nil0), .pure (.nil0), .pure (.nil0)]), (8, .box [.own 2037, .own 2038, .own 2039, .own 2040]), (12, .box (Bc v26)), (2037, .vec 1 (v10.1.map Aj)), (2038, .vec 1 (v10.2.1.map Aj)), (2039, .vec 1 (v10.2.2.map Aj)), (2040, .vec 6 (v22.1.map AN))]) (fun j29 h => ?_) (fun v29 h => ?_)
       ·refine Ah Aw rfl (qm rfl (EI rfl (qm rfl ?_)))
        refine Eu 110 h rfl (fun h => ?_) fun h => ?_
        ·refine qm rfl (EI rfl (qp rfl (Ab ?_)))
         exact sn [(2037, 2025), (2038, 2026), (2039, 2027), (2040, 2028)] h
        ·refine qw 2 rfl (qp rfl (Ab ?_))
         exact sn [(2037, 2025), (2038, 2026), (2039, 2027), (2040, 2028)] h
       ·refine A8 h (fun h => ?_) fun h => ?_
        ·refine Ah Aw rfl (qf Cg rfl (ql Hp rfl (qL G7 Dn rfl (qw 2 rfl ?_))))
         refine BG h fun v32 a32 h => Av [] ((L5 N v26 v27 v28 v32 a32).share rfl) d3 rfl (Dg Dv Dn Jf rfl ?_)
         refine FL h fun c33 h => Ce (f := AN) Dv Dv Dn Wq Jf c33 rfl (qf Cg rfl (qs ac rfl (AM (by kernel_rfl) ?_)))
         exact sn [(2033, 2037), (2034, 2038), (2035, 2039), (2036, 121)] h
        ·refine Ai ?_
         exact sn [(2033, 2037), (2034, 2038), (2035, 2039), (2036, 2040)] h
      ·refine Ah Aw rfl (qm rfl (AW rfl (qe rfl ?_)))
       exact sn [(2025, 2033), (2026, 2034), (2027, 2035), (2028, 2036)] h
     ·refine AR ?_
      exact sn [(2029, 2025), (2030, 2026), (2031, 2027), (2032, 2028)] h
    ·refine Ae hs (wq rfl (qL Co BN rfl (qs BN rfl (qe rfl ?_))))
     obtain rfl := sj h
     refine Ae (sm [(1000, 2029), (1001, 2030), (1002, 2031), (1003, 2032)] [(4, oD (.ptr 4 0)), (5, iD 0)] [(4, .box [.own 1000, .own 1001, .own 1002, .own 1003]), (1000, .vec 1 (v10.1.map Aj)), (1001, .vec 1 (v10.2.1.map Aj)), (1002, .vec 1 (v10.2.2.map Aj)), (1003, .vec 6 (v23.map AN))] rfl rfl) (Ar ?_)
     exact ⟨⟨[_, _], ⟨.cellN _ _ _ _ _ _ _ rfl rfl Co BN rfl rfl (Jx rfl), tm⟩, rfl⟩, ⟨rfl, rfl, rfl, rfl, tv⟩⟩
theorem Jq (N : Nat) (p0 : Aa) (r : Ac × Int) (h : Ee N p0 = some r) : Ao zA 59 [.e (.agg (Ag p0))] [(1, r.1.fe.map Aj), (1, r.1.fc.map Aj), (1, r.1.ff.map D7)] (.tup [.agg [.own 0, .own 1, .own 2], .one (iC r.2)]) := by
 unfold Ee at h
 refine cw (n := 68) (rs := [.cell 2 49, .tmp 3]) Tryz.func59 fun w0 S0 => ?_
 refine wq rfl (qb rfl (qz EO rfl (qa rfl (Ab (wp rfl (qL Co BN rfl ?_))))))
 refine BG h fun v1 a1 h => Av [] (DC N p0 v1 a1) W9 rfl (qa rfl (Ab (wq rfl (qm rfl (Bo rfl (Ab ?_))))))
 refine A8 h (fun h => ?_) fun h => ?_
 ·refine wq rfl (Bk EO Jw rfl (qm rfl (qs A3 rfl (qe rfl ?_))))
  obtain rfl := sj h
  refine Ae ((Aq 2 0 2001 1 _ rfl rfl rfl rfl).trans ((Aq 2 1 2002 1 _ rfl rfl rfl rfl).trans ((Aq 2 2 2003 1 _ rfl rfl rfl rfl).trans (sm [(1000, 2001), (1001, 2002), (1002, 2003)] [(2, oD (.ptr 2 0)), (3, iD v1)] [(2, .box [.own 1000, .own 1001, .own 1002]), (1000, .vec 1 ((([] : List Int)).map Aj)), (1001, .vec 1 ((([] : List Int)).map Aj)), (1002, .vec 1 ((([] : List Int)).map D7))] rfl rfl)))) (Ar ?_)
  exact ⟨⟨[_, _], ⟨.cellN _ _ _ _ _ _ _ rfl rfl B2 A3 rfl rfl (Jx rfl), tm⟩, rfl⟩, ⟨rfl, rfl, rfl, tv⟩⟩
 ·refine Ai (wq rfl (qz EO rfl (Ab (wp rfl (qe rfl ?_)))))
  refine AC (L := Cj N p0) h (fun v3 => mk [(1, oD (.ptr 1 0)), (2, oD (.ptr 2 0)), (5, oD (.ptr 5 0)), (6, iD v3.2.2)] [(1, .box (Ag p0)), (2, .box [.pure (.nil0), .pure (.nil0), .pure (.nil0)]), (5, .box [.own 2004, .own 2005, .pure (.nil0)]), (2004, .vec 1 (v3.1.map Aj)), (2005, .vec 1 (v3.2.1.map Aj))]) (fun v4 => mk [(1, oD (.ptr 1 0)), (2, oD (.ptr 2 0)), (5, oD (.ptr 5 0))] [(1, .box (Ag p0)), (2, .box [.pure (.nil0), .pure (.nil0), .pure (.nil0)]), (5, .box [.own 2006, .own 2007, .pure (.nil0)]), (2006, .vec 1 (v4.1.map Aj)), (2007, .vec 1 (v4.2.map Aj))]) (fun _ _ => rfl) ((Aq 5 0 2008 1 _ rfl rfl rfl rfl).trans ((Aq 5 1 2009 1 _ rfl rfl rfl rfl).trans (sm [(2004, 2008), (2005, 2009)] _ _ rfl rfl))) (fun j3 n3 v3 h => ?_) (fun v4 s h hs => ?_)
  ·unfold Cj at h
   refine wp rfl (qm rfl (qf A5 rfl (ql A0 rfl (AJ As rfl (AV rfl (Ab ?_))))))
   refine A8 h (fun h => ?_) fun h => ?_
   ·refine Ai (AL (AH (wq rfl (qf C5 rfl (ql A0 rfl (qf FI rfl (ql A0 rfl (qm rfl ?_))))))))
    refine BD h fun v6 a6 b6 h => qi As Cp a6 (Af b6) rfl (qk BY rfl (Dg As Cp IM rfl ?_))
    refine FL h fun c7 h => Ce (f := Aj) As As Cp JN IM c7 rfl (qf C5 rfl (qs GT rfl (AM (by kernel_rfl) (Ah Aw rfl (qf BK rfl (ql A0 rfl (Dg As Cp IM rfl ?_)))))))
    refine FL h fun c8 h => Ce (f := Aj) As As Cp JN IM c8 rfl (qf BK rfl (qs GT rfl (Ab (Ah Aw rfl (qm rfl (AW rfl (qe rfl ?_)))))))
    exact sn [(2004, 30), (2005, 35)] h
   ·refine AR ?_
    exact sn [(2006, 2004), (2007, 2005)] h
  ·refine Ae hs (wp rfl (qe rfl ?_))
   refine AC (L := Bp N p0) h (fun v9 => mk [(1, oD (.ptr 1 0)), (2, oD (.ptr 2 0)), (5, oD (.ptr 5 0)), (7, iD v9.2)] [(1, .box (Ag p0)), (2, .box [.pure (.nil0), .pure (.nil0), .pure (.nil0)]), (5, .box [.own 2010, .own 2011, .own 2012]), (2010, .vec 1 (v4.1.map Aj)), (2011, .vec 1 (v4.2.map Aj)), (2012, .vec 1 (v9.1.map D7))]) (fun v10 => mk [(2, oD (.ptr 2 0)), (5, oD (.ptr 5 0))] [(2, .box [.pure (.nil0), .pure (.nil0), .pure (.nil0)]), (5, .box [.own 2013, .own 2014, .own 2015]), (2013, .vec 1 (v4.1.map Aj)), (2014, .vec 1 (v4.2.map Aj)), (2015, .vec 1 (v10.map D7))]) (fun _ _ => rfl) ((Aq 5 2 2019 1 _ rfl rfl rfl rfl).trans (sm [(2010, 2006), (2011, 2007), (2012, 2019)] _ _ rfl rfl)) (fun j9 n9 v9 h => ?_) (fun v10 s h hs => ?_)
   ·unfold Bp at h
    refine wp rfl (qm rfl (qf Cg rfl (ql Hp rfl (AJ Dv rfl (AV rfl (Ab ?_))))))
    refine A8 h (fun h => ?_) fun h => ?_
    ·refine Ai (AL (AH (wq rfl (qe rfl ?_))))
     refine AS h (fun v12 => mk [(1, oD (.ptr 1 0)), (2, oD (.ptr 2 0)), (5, oD (.ptr 5 0)), (7, iD v9.2), (8, pD (.val (.int .u8 v12)))] [(1, .box (Ag p0)), (2, .box [.pure (.nil0), .pure (.nil0), .pure (.nil0)]), (5, .box [.own 2016, .own 2017, .own 2018]), (2016, .vec 1 (v4.1.map Aj)), (2017, .vec 1 (v4.2.map Aj)), (2018, .vec 1 (v9.1.map D7))]) (fun j12 h => ?_) (fun v12 h => ?_)
     ·refine wq rfl (qf Cg rfl (ql Hp rfl (qm rfl ?_)))
      refine BD h fun v13 a13 b13 h => qi Dv Dn a13 (Af b13) rfl (qK G7 Dn rfl ?_)
      refine BG h fun v14 a14 h => Av [] (Cu N v13 v14 a14) Sj rfl (Ab ?_)
      refine A8 h (fun h => ?_) fun h => ?_
      ·refine Ah Aw rfl (qf FI rfl (ql A0 rfl (qf Cg rfl (ql Hp rfl (qm rfl ?_)))))
       refine BD h fun v16 a16 b16 h => qi Dv Dn a16 (Af b16) rfl (qg De rfl (qk BY rfl ?_))
       refine BD h fun v17 a17 b17 h => qi As Cp a17 (Af b17) rfl (qk BY rfl ?_)
       refine FL h fun c18 h => Jh rfl c18 (qa rfl (AM (by kernel_rfl) ?_))
       exact sn [(2016, 2010), (2017, 2011), (2018, 2012)] h
      ·refine Ai ?_
       exact sn [(2016, 2010), (2017, 2011), (2018, 2012)] h
     ·refine Ah Aw rfl (qf C9 rfl (ql Ib rfl (qm rfl (Dg Ea EU NR rfl ?_))))
      refine FL h fun c19 h => Ce (f := D7) Ea Ea EU O2 NR c19 rfl (qf C9 rfl (qs dG rfl (Ab (Ah Aw rfl (qm rfl (AW rfl (qe rfl ?_)))))))
      exact sn [(2010, 2016), (2011, 2017), (2012, 65)] h
    ·refine AR ?_
     exact sn [(2013, 2010), (2014, 2011), (2015, 2012)] h
   ·refine Ae hs (wq rfl (qL B2 A3 rfl (qs A3 rfl (qe rfl ?_))))
    obtain rfl := sj h
    refine Ae (sm [(1000, 2013), (1001, 2014), (1002, 2015)] [(2, oD (.ptr 2 0)), (3, iD 0)] [(2, .box [.own 1000, .own 1001, .own 1002]), (1000, .vec 1 (v4.1.map Aj)), (1001, .vec 1 (v4.2.map Aj)), (1002, .vec 1 (v10.map D7))] rfl rfl) (Ar ?_)
    exact ⟨⟨[_, _], ⟨.cellN _ _ _ _ _ _ _ rfl rfl B2 A3 rfl rfl (Jx rfl), tm⟩, rfl⟩, ⟨rfl, rfl, rfl, tv⟩⟩
theorem L2 (N : Nat) (p0 : Ac) (r : Ac) (h : EK N p0 = some r) : Ao zA 131 [.e (.agg (AI p0))] [(1, r.fe.map Aj), (1, r.fc.map Aj), (1, r.ff.map D7)] (.e (.agg [.own 0, .own 1, .own 2])) := by
 unfold EK at h
 refine cw (n := 16) (rs := [.cell 2 49]) Tryz.func131 fun w0 S0 => ?_
 refine wq rfl (qb rfl (qz EO rfl (Ab (wq rfl (Dg As Cp IM rfl (qf C5 rfl (ql A0 rfl ?_)))))))
 refine FL h fun c1 h => Jb (f := Aj) As As Cp JN IM (fun _ => rfl) c1 rfl (Dg As Cp IM rfl (qf BK rfl (ql A0 rfl ?_)))
 refine FL h fun c2 h => Jb (f := Aj) As As Cp JN IM (fun _ => rfl) c2 rfl (Dg Ea EU NR rfl (qf C9 rfl (ql Ib rfl ?_)))
 refine FL h fun c3 h => Jb (f := D7) Ea Ea EU O2 NR (fun _ => rfl) c3 rfl (Bk EO Jw rfl (qs A3 rfl (AM (by kernel_rfl) ?_)))
 obtain rfl := sj h
 refine Ae (sm [(1000, 6), (1001, 10), (1002, 14)] [(2, oD (.ptr 2 0))] [(2, .box [.own 1000, .own 1001, .own 1002]), (1000, .vec 1 (((([] : List Int)) ++ p0.fe).map Aj)), (1001, .vec 1 (((([] : List Int)) ++ p0.fc).map Aj)), (1002, .vec 1 (((([] : List Int)) ++ p0.ff).map D7))] rfl rfl) (Ar ?_)
 exact ⟨⟨[_], ⟨.cellN _ _ _ _ _ _ _ rfl rfl B2 A3 rfl rfl (Jx rfl), tv⟩, rfl⟩, ⟨rfl, rfl, rfl, tv⟩⟩
theorem M7 (N : Nat) (p0 : Ac) (r : (List Ac)) (h : EP N p0 = some r) : Ao zA 93 [.e (.agg (AI p0))] [(3, r.map Fh)] (oD (.own 0)) := by
 unfold EP at h
 refine cw (n := 62) (rs := [.tmp 2]) Tryz.func93 fun w0 S0 => ?_
 refine wq rfl (qb rfl (qa rfl (Ab (wq rfl (qa rfl (Ab (wp rfl (qe rfl ?_))))))))
 refine AC (L := CI N p0) h (fun v1 => mk [(1, oD (.ptr 1 0)), (3, iD v1.1), (4, iD v1.2)] [(1, .box (AI p0))]) (fun v2 => mk [(1, oD (.ptr 1 0)), (3, iD v2)] [(1, .box (AI p0))]) (fun _ _ => rfl) (sm [] _ _ rfl rfl) (fun j1 n1 v1 h => ?_) (fun v2 s h hs => ?_)
 ·unfold CI at h
  refine wp rfl (qm rfl (qf BK rfl (ql A0 rfl (AJ As rfl (AV rfl (Ab ?_))))))
  refine A8 h (fun h => ?_) fun h => ?_
  ·refine Ai ?_
   refine AS h (fun v4 => mk [(1, oD (.ptr 1 0)), (3, iD v4), (4, iD v1.2)] [(1, .box (AI p0))]) (fun j4 h => ?_) (fun v4 h => ?_)
   ·refine AH (wq rfl (qf BK rfl (ql A0 rfl (qm rfl ?_))))
    refine BD h fun v5 a5 b5 h => qi As Cp a5 (Af b5) rfl (qk BY rfl (EI rfl (Ab ?_)))
    refine A8 h (fun h => ?_) fun h => ?_
    ·refine Ah Aw rfl (qm rfl (AW rfl (qe rfl ?_)))
     exact sn [] h
    ·refine Ai ?_
     exact sn [] h
   ·refine Ah Aw rfl (qm rfl (AW rfl (qe rfl ?_)))
    exact sn [] h
  ·refine AR ?_
   exact sn [] h
 ·refine Ae hs (wq rfl (qa rfl (Ab (wp rfl (qe rfl ?_)))))
  refine AC (L := BF N p0 v2) h (fun v7 => mk [(1, oD (.ptr 1 0)), (3, iD v2), (5, oD (.own 2001)), (6, iD v7.2)] [(1, .box (AI p0)), (2001, .vec 3 (v7.1.map Fh))]) (fun v8 => mk [(5, oD (.own 2002))] [(2002, .vec 3 (v8.map Fh))]) (fun _ _ => rfl) ((AT 5 2022 3 rfl rfl rfl).trans (sm [(2001, 2022)] _ _ rfl rfl)) (fun j7 n7 v7 h => ?_) (fun v8 s h hs => ?_)
  ·unfold BF at h
   refine wp rfl (qw 2 rfl ?_)
   refine FL h fun c9 h => Jh rfl c9 (AV rfl (Ab ?_))
   refine A8 h (fun h => ?_) fun h => ?_
   ·refine Ai (AL (AH (wq rfl (qL B2 A3 rfl ?_))))
    refine BG h fun v11 a11 h => Av [2003, 2004, 2005] (L2 N p0 v11 a11) cn rfl (qz EO rfl (qs A3 rfl (Ab (wq rfl (qa rfl (Ab (wp rfl (qe rfl ?_))))))))
    refine AC (L := B6 N p0 v7) h (fun v12 => mk [(1, oD (.ptr 1 0)), (3, iD v2), (5, oD (.own 2009)), (6, iD v7.2), (7, oD (.ptr 7 0)), (8, iD v12.2.1), (9, iD v12.2.2)] [(1, .box (AI p0)), (7, .box [.own 2006, .own 2007, .own 2008]), (2006, .vec 1 (v11.fe.map Aj)), (2007, .vec 1 (v12.1.map Aj)), (2008, .vec 1 (v11.ff.map D7)), (2009, .vec 3 (v7.1.map Fh))]) (fun v13 => mk [(1, oD (.ptr 1 0)), (3, iD v2), (5, oD (.own 2013)), (6, iD v7.2), (7, oD (.ptr 7 0))] [(1, .box (AI p0)), (7, .box [.own 2010, .own 2011, .own 2012]), (2010, .vec 1 (v11.fe.map Aj)), (2011, .vec 1 (v13.map Aj)), (2012, .vec 1 (v11.ff.map D7)), (2013, .vec 3 (v7.1.map Fh))]) (fun _ _ => rfl) (sm [(2006, 2003), (2007, 2004), (2008, 2005), (2009, 2001)] _ _ rfl rfl) (fun j12 n12 v12 h => ?_) (fun v13 s h hs => ?_)
    ·unfold B6 at h
     refine wp rfl (qm rfl (qf BK rfl (ql A0 rfl (AJ As rfl (AV rfl (Ab ?_))))))
     refine A8 h (fun h => ?_) fun h => ?_
     ·refine Ai ?_
      refine AS h (fun v15 => mk [(1, oD (.ptr 1 0)), (3, iD v2), (5, oD (.own 2017)), (6, iD v7.2), (7, oD (.ptr 7 0)), (8, iD v15.2), (9, iD v12.2.2)] [(1, .box (AI p0)), (7, .box [.own 2014, .own 2015, .own 2016]), (2014, .vec 1 (v11.fe.map Aj)), (2015, .vec 1 (v15.1.map Aj)), (2016, .vec 1 (v11.ff.map D7)), (2017, .vec 3 (v7.1.map Fh))]) (fun j15 h => ?_) (fun v15 h => ?_)
      ·refine AH (wp rfl (qf BK rfl (ql A0 rfl (qm rfl ?_))))
       refine BD h fun v16 a16 b16 h => qi As Cp a16 (Af b16) rfl (qk BY rfl (AV rfl (Ab ?_)))
       refine A8 h (fun h => ?_) fun h => ?_
       ·refine AR ?_
        exact sn [(2014, 2006), (2015, 2007), (2016, 2008), (2017, 2009)] h
       ·refine Ai ?_
        refine AS h (fun v18 => mk [(1, oD (.ptr 1 0)), (3, iD v2), (5, oD (.own 2021)), (6, iD v7.2), (7, oD (.ptr 7 0)), (8, iD v12.2.1), (9, iD v12.2.2)] [(1, .box (AI p0)), (7, .box [.own 2018, .own 2019, .own 2020]), (2018, .vec 1 (v11.fe.map Aj)), (2019, .vec 1 (v18.map Aj)), (2020, .vec 1 (v11.ff.map D7)), (2021, .vec 3 (v7.1.map Fh))]) (fun j18 h => ?_) (fun v18 h => ?_)
        ·refine wq rfl (qw 2 rfl ?_)
         refine FL h fun c19 h => G4 rfl c19 (MH rfl (by decide) (B1 rfl (Ab ?_)))
         refine A8 h (fun h => ?_) fun h => ?_
         ·refine Ah Aw rfl (qf BK rfl (ql A0 rfl (qm rfl ?_)))
          refine BD h fun v21 a21 b21 h => qI As Cp a21 (Af b21) rfl ?_
          refine DJ rfl rfl rfl rfl (Af b21) rfl Cp rfl (Jo rfl) (DB Aj v12.1 _ ((-1))) ?_
          refine Ab ?_
          exact sn [(2018, 2006), (2019, 2007), (2020, 2008), (2021, 2009)] h
         ·refine Ai ?_
          exact sn [(2018, 2006), (2019, 2007), (2020, 2008), (2021, 2009)] h
        ·refine Ah Aw rfl (qm rfl (AW rfl (qe rfl ?_)))
         exact sn [(2014, 2018), (2015, 2019), (2016, 2020), (2017, 2021)] h
      ·refine Ah Aw rfl (qm rfl (AW rfl (qe rfl ?_)))
       exact sn [(2006, 2014), (2007, 2015), (2008, 2016), (2009, 2017)] h
     ·refine AR ?_
      exact sn [(2010, 2006), (2011, 2007), (2012, 2008), (2013, 2009)] h
    ·refine Ae hs (Ah Aw rfl (qm rfl (qL B2 A3 rfl (C0 (Bb 2010 _ _ rfl rfl) (C0 (Bb 2011 _ _ rfl rfl) (C0 (Bb 2012 _ _ rfl rfl) (Dg MB A3 EO rfl ?_)))))))
     refine FL h fun c22 h => Ce (f := Fh) MB MB A3 Zq EO c22 rfl (qa rfl (Ab (Ah Aw rfl (qm rfl (AW rfl (qe rfl ?_))))))
     exact sn [(2001, 60)] h
   ·refine AR ?_
    exact sn [(2002, 2001)] h
  ·refine Ae hs (wq rfl (qm rfl (qe rfl ?_)))
   obtain rfl := sj h
   refine Ae (sm [(1000, 2002)] [(2, oD (.own 1000))] [(1000, .vec 3 (v8.map Fh))] rfl rfl) (Ar ?_)
   exact ⟨⟨[_], tm, rfl⟩, ⟨rfl, tv⟩⟩
theorem EG (N : Nat) (p0 : Ac) (p1 : Int) (r : Int) (h : B7 N p0 p1 = some r) : Ao zA 96 [.e (.agg (AI p0)), iD p1] [] (pD (.val (.int .u8 r))) := by
 unfold B7 at h
 refine cw (n := 27) (rs := [.tmp 4]) Tryz.func96 fun w0 S0 => ?_
 refine wq rfl (qb rfl (qa rfl (Ab (wq rfl (qf C5 rfl (ql A0 rfl (qm rfl ?_)))))))
 refine BD h fun v1 a1 b1 h => qi As Cp a1 (Af b1) rfl (qk BY rfl ?_)
 refine FL h fun c2 h => Jh rfl c2 (qe rfl ?_)
 refine AS h (fun v3 => mk [(5, pD (.val (.int .u8 v3)))] []) (fun j3 h => ?_) (fun v3 h => ?_)
 ·refine wq rfl (qf BK rfl (ql A0 rfl (qm rfl ?_)))
  refine BD h fun v4 a4 b4 h => qi As Cp a4 (Af b4) rfl (qk BY rfl (EI rfl (Ab ?_)))
  refine A8 h (fun h => ?_) fun h => ?_
  ·refine Ah Aw rfl (qm rfl (qf BK rfl (ql A0 rfl (qm rfl ?_))))
   refine BD h fun v6 a6 b6 h => qi As Cp a6 (Af b6) rfl (qk BY rfl ?_)
   refine FL h fun c7 h => Jh rfl c7 (VG rfl (qe rfl ?_))
   exact sn [] h
  ·refine Ai ?_
   exact sn [] h
 ·refine wq rfl (qm rfl (qe rfl ?_))
  obtain rfl := sj h
  refine Ae (sm [] [(4, pD (.val (.int .u8 v3)))] [] rfl rfl) (Ar ?_)
  exact ⟨⟨[_], tm, rfl⟩, tv⟩
theorem G1 (N : Nat) (p0 : Int) (p1 : Int) (r : Bool) (h : CD N p0 p1 = some r) : Ao zA 97 [pD (.val (.int .u8 p0)), iD p1] [] (bD r) := by
 unfold CD at h
 refine cw (n := 10) (rs := [.tmp 4]) Tryz.func97 fun w0 S0 => ?_
 refine wq rfl (qa rfl (Ab (wq rfl (qw 2 rfl ?_))))
 refine FL h fun c1 h => G4 rfl c1 (IA rfl (B1 rfl (qe rfl ?_)))
 obtain rfl := sj h
 refine Ae (sm [] [(4, bD (((AK .u8 ((AZ .u8 p0 p1)) 1) == 1)))] [] rfl rfl) (Ar ?_)
 exact ⟨⟨[_], tm, rfl⟩, tv⟩
theorem Mp (N : Nat) (p0 : Aa) (p1 : Ac) (r : (List Ap)) (h : E0 N p0 p1 = some r) : Ao zA 132 [.e (.agg (Ag p0)), .e (.agg (AI p1))] [(3, r.map A2)] (oD (.own 0)) := by
 unfold E0 at h
 refine cw (n := 111) (rs := [.tmp 4]) Tryz.func132 fun w0 S0 => ?_
 refine wq rfl (qb rfl (qb rfl (qa rfl (Ab (wq rfl (qa rfl (Ab (wp rfl (qe rfl ?_)))))))))
 refine AC (L := CR N p0 p1) h (fun v1 => mk [(2, oD (.ptr 2 0)), (3, oD (.ptr 3 0)), (5, oD (.own 2001)), (6, iD v1.2)] [(2, .box (Ag p0)), (3, .box (AI p1)), (2001, .vec 3 (v1.1.map A2))]) (fun v2 => mk [(5, oD (.own 2002))] [(2002, .vec 3 (v2.map A2))]) (fun _ _ => rfl) ((AT 5 2013 3 rfl rfl rfl).trans (sm [(2001, 2013)] _ _ rfl rfl)) (fun j1 n1 v1 h => ?_) (fun v2 s h hs => ?_)
 ·unfold CR at h
  refine wp rfl (qm rfl (qf Cg rfl (ql Hp rfl (AJ Dv rfl (AV rfl (Ab ?_))))))
  refine A8 h (fun h => ?_) fun h => ?_
  ·refine Ai (AL (AH (wq rfl (qf Cg rfl (ql Hp rfl (qm rfl ?_))))))
   refine BD h fun v4 a4 b4 h => qi Dv Dn a4 (Af b4) rfl (qK G7 Dn rfl (qz Jf rfl (qs Dn rfl (Ab (wq rfl (qL B2 A3 rfl (qf De rfl (ql BY rfl ?_))))))))
   refine BG h fun v5 a5 h => Av [] (EG N p1 v4.fh v5 a5) WH rfl (qe rfl ?_)
   refine AS h (fun v6 => mk [(2, oD (.ptr 2 0)), (3, oD (.ptr 3 0)), (5, oD (.own 2003)), (6, iD v1.2), (7, oD (.ptr 7 0)), (8, pD (.val (.int .u8 v6)))] [(2, .box (Ag p0)), (3, .box (AI p1)), (7, .box (Bc v4)), (2003, .vec 3 (v1.1.map A2))]) (fun j6 h => ?_) (fun v6 h => ?_)
   ·refine wq rfl (qL G7 Dn rfl ?_)
    refine BG h fun v7 a7 h => Av [] (Cu N v4 v7 a7) Sj rfl (Ab ?_)
    refine A8 h (fun h => ?_) fun h => ?_
    ·refine Ah Aw rfl (qf C9 rfl (ql Ib rfl (qm rfl ?_)))
     refine BD h fun v9 a9 b9 h => qi Ea EU a9 (Af b9) rfl (qk IX rfl (qe rfl ?_))
     exact sn [(2003, 2001)] h
    ·refine Ai ?_
     exact sn [(2003, 2001)] h
   ·refine wq rfl (qe rfl ?_)
    refine AC (L := BM N p0 p1 v1 v4 v6) h (fun v10 => mk [(2, oD (.ptr 2 0)), (3, oD (.ptr 3 0)), (5, oD (.own 2004)), (6, iD v1.2), (7, oD (.ptr 7 0)), (8, pD (.val (.int .u8 v6))), (9, iD v10.2)] [(2, .box (Ag p0)), (3, .box (AI p1)), (7, .box (Bc v4)), (2004, .vec 3 (v10.1.map A2))]) (fun v11 => mk [(2, oD (.ptr 2 0)), (3, oD (.ptr 3 0)), (5, oD (.own 2005)), (6, iD v1.2)] [(2, .box (Ag p0)), (3, .box (AI p1)), (2005, .vec 3 (v11.map A2))]) (fun _ _ => rfl) (sm [(2004, 2003)] _ _ rfl rfl) (fun j10 n10 v10 h => ?_) (fun v11 s h hs => ?_)
    ·unfold BM at h
     refine wp rfl (qm rfl (qf A5 rfl (ql A0 rfl (qf De rfl (ql BY rfl ?_)))))
     refine BD h fun v12 a12 b12 h => qi As Cp a12 (Af b12) rfl (qk BY rfl (AV rfl (Ab ?_)))
     refine A8 h (fun h => ?_) fun h => ?_
     ·refine Ai ?_
      refine AS h (fun v14 => mk [(2, oD (.ptr 2 0)), (3, oD (.ptr 3 0)), (5, oD (.own 2006)), (6, iD v1.2), (7, oD (.ptr 7 0)), (8, pD (.val (.int .u8 v6))), (9, iD v10.2)] [(2, .box (Ag p0)), (3, .box (AI p1)), (7, .box (Bc v4)), (2006, .vec 3 (v14.map A2))]) (fun j14 h => ?_) (fun v14 h => ?_)
      ·refine AH (wp rfl (qw 2 rfl ?_))
       refine BG h fun v15 a15 h => Av [] (G1 N v6 v10.2 v15 a15) Yj rfl (CA rfl (Ab ?_))
       refine A8 h (fun h => ?_) fun h => ?_
       ·refine AR ?_
        exact sn [(2006, 2004)] h
       ·refine Ai (wq rfl (qa rfl (Ab (wp rfl (qe rfl ?_)))))
        refine AC (L := Bt N p0 p1 v1 v4 v10) h (fun v17 => mk [(2, oD (.ptr 2 0)), (3, oD (.ptr 3 0)), (5, oD (.own 2007)), (6, iD v1.2), (7, oD (.ptr 7 0)), (8, pD (.val (.int .u8 v6))), (9, iD v10.2), (10, bD v17.2.1), (11, iD v17.2.2)] [(2, .box (Ag p0)), (3, .box (AI p1)), (7, .box (Bc v4)), (2007, .vec 3 (v17.1.map A2))]) (fun v18 => mk [(2, oD (.ptr 2 0)), (3, oD (.ptr 3 0)), (5, oD (.own 2008)), (6, iD v1.2), (7, oD (.ptr 7 0)), (8, pD (.val (.int .u8 v6))), (9, iD v10.2), (10, bD v18.2)] [(2, .box (Ag p0)), (3, .box (AI p1)), (7, .box (Bc v4)), (2008, .vec 3 (v18.1.map A2))]) (fun _ _ => rfl) (sm [(2007, 2004)] _ _ rfl rfl) (fun j17 n17 v17 h => ?_) (fun v18 s h hs => ?_)
        ·unfold Bt at h
         refine wp rfl (qm rfl (qf A5 rfl (ql A0 rfl (qf HP rfl (ql BY rfl ?_)))))
         refine BD h fun v19 a19 b19 h => qi As Cp a19 (Af b19) rfl (qk BY rfl (AV rfl (Ab ?_)))
         refine A8 h (fun h => ?_) fun h => ?_
         ·refine Ai ?_
          refine AS h (fun v21 => mk [(2, oD (.ptr 2 0)), (3, oD (.ptr 3 0)), (5, oD (.own 2009)), (6, iD v1.2), (7, oD (.ptr 7 0)), (8, pD (.val (.int .u8 v6))), (9, iD v10.2), (10, bD v21.2), (11, iD v17.2.2)] [(2, .box (Ag p0)), (3, .box (AI p1)), (7, .box (Bc v4)), (2009, .vec 3 (v21.1.map A2))]) (fun j21 h => ?_) (fun v21 h => ?_)
          ·refine AH (wp rfl (qL B2 A3 rfl (qf HP rfl (ql BY rfl ?_))))
           refine BG h fun v22 a22 h => Av [] (EG N p1 v4.fk v22 a22) WH rfl (qm rfl ?_)
           refine BG h fun v23 a23 h => Av [] (G1 N v22 v17.2.2 v23 a23) Yj rfl (CA rfl (Ab ?_))
           refine A8 h (fun h => ?_) fun h => ?_
           ·refine AR ?_
            exact sn [(2009, 2007)] h
           ·refine Ai ?_
            refine AS h (fun v25 => mk [(2, oD (.ptr 2 0)), (3, oD (.ptr 3 0)), (5, oD (.own 2010)), (6, iD v1.2), (7, oD (.ptr 7 0)), (8, pD (.val (.int .u8 v6))), (9, iD v10.2), (10, bD v25), (11, iD v17.2.2)] [(2, .box (Ag p0)), (3, .box (AI p1)), (7, .box (Bc v4)), (2010, .vec 3 (v17.1.map A2))]) (fun j25 h => ?_) (fun v25 h => ?_)
            ·refine Ah Aw rfl (qw 2 rfl ?_)
             refine Eu 67 h rfl (fun h => ?_) fun h => ?_
             ·refine qw 8 rfl (qp rfl (qe rfl ?_))
              exact sn [(2010, 2007)] h
             ·refine qf Hn rfl (ql ID rfl (qm rfl ?_))
              refine BD h fun v27 a27 b27 h => qi EL JM a27 (Af b27) rfl (qk OJ rfl (qm rfl ?_))
              refine BD h fun v28 a28 b28 h => qi ES Oq a28 (Af b28) rfl (qk Sm rfl (qp rfl (qe rfl ?_)))
              exact sn [(2010, 2007)] h
            ·refine AS h (fun v29 => mk [(2, oD (.ptr 2 0)), (3, oD (.ptr 3 0)), (5, oD (.own 2011)), (6, iD v1.2), (7, oD (.ptr 7 0)), (8, pD (.val (.int .u8 v6))), (9, iD v10.2), (10, bD v25), (11, iD v17.2.2), (90, bD v29)] [(2, .box (Ag p0)), (3, .box (AI p1)), (7, .box (Bc v4)), (2011, .vec 3 (v17.1.map A2))]) (fun j29 h => ?_) (fun v29 h => ?_)
             ·refine Ah Aw rfl (qf Jy rfl (ql Sm rfl (CA rfl (qm rfl ?_))))
              refine Eu 80 h rfl (fun h => ?_) fun h => ?_
              ·refine qf Hn rfl (ql ID rfl (qm rfl ?_))
               refine BD h fun v31 a31 b31 h => qi EL JM a31 (Af b31) rfl (qk OJ rfl (qm rfl ?_))
               refine BD h fun v32 a32 b32 h => qi ES Oq a32 (Af b32) rfl (qk Sm rfl (CA rfl (qp rfl (Ab ?_))))
               exact sn [(2011, 2010)] h
              ·refine qw 9 rfl (qp rfl (Ab ?_))
               exact sn [(2011, 2010)] h
             ·refine A8 h (fun h => ?_) fun h => ?_
              ·refine Ah Aw rfl (qw 4 rfl (Bk Jp Q9 rfl (Dg HT I6 Jp rfl ?_)))
               refine FL h fun c34 h => Ce (f := A2) HT HT I6 RM Jp c34 rfl (qe rfl ?_)
               exact sn [(2009, 97)] h
              ·refine Ai ?_
               exact sn [(2009, 2011)] h
          ·refine Ah Aw rfl (qm rfl (AW rfl (qe rfl ?_)))
           exact sn [(2007, 2009)] h
         ·refine AR ?_
          exact sn [(2008, 2007)] h
        ·refine Ae hs ?_
         refine AS h (fun v35 => mk [(2, oD (.ptr 2 0)), (3, oD (.ptr 3 0)), (5, oD (.own 2012)), (6, iD v1.2), (7, oD (.ptr 7 0)), (8, pD (.val (.int .u8 v6))), (9, iD v10.2), (103, bD v35)] [(2, .box (Ag p0)), (3, .box (AI p1)), (7, .box (Bc v4)), (2012, .vec 3 (v18.1.map A2))]) (fun j35 h => ?_) (fun v35 h => ?_)
         ·refine Ah Aw rfl (qf Jy rfl (ql Sm rfl (qm rfl ?_)))
          refine Eu 100 h rfl (fun h => ?_) fun h => ?_
          ·refine qm rfl (CA rfl (qp rfl (Ab ?_)))
           exact sn [(2012, 2008)] h
          ·refine qw 2 rfl (qp rfl (Ab ?_))
           exact sn [(2012, 2008)] h
         ·refine A8 h (fun h => ?_) fun h => ?_
          ·refine Ah Aw rfl (qw 3 rfl (Bk Jp Q9 rfl (Dg HT I6 Jp rfl ?_)))
           refine FL h fun c38 h => Ce (f := A2) HT HT I6 RM Jp c38 rfl (qe rfl ?_)
           exact sn [(2006, 109)] h
          ·refine Ai ?_
           exact sn [(2006, 2012)] h
      ·refine Ah Aw rfl (qm rfl (AW rfl (qe rfl ?_)))
       exact sn [(2004, 2006)] h
     ·refine AR ?_
      exact sn [(2005, 2004)] h
    ·refine Ae hs (Ah Aw rfl (qm rfl (AW rfl (qe rfl ?_))))
     exact sn [(2001, 2005)] h
  ·refine AR ?_
   exact sn [(2002, 2001)] h
 ·refine Ae hs (wq rfl (qm rfl (qe rfl ?_)))
  obtain rfl := sj h
  refine Ae (sm [(1000, 2002)] [(4, oD (.own 1000))] [(1000, .vec 3 (v2.map A2))] rfl rfl) (Ar ?_)
  exact ⟨⟨[_], tm, rfl⟩, ⟨rfl, tv⟩⟩
theorem L0 (N : Nat) (p0 : Aa) (p1 : Ac) (r : Bool) (h : EF N p0 p1 = some r) : Ao zA 94 [.e (.agg (Ag p0)), .e (.agg (AI p1))] [] (bD r) := by
 unfold EF at h
 refine cw (n := 10) (rs := [.tmp 4]) Tryz.func94 fun w0 S0 => ?_
 refine wq rfl (qb rfl (qb rfl (qa rfl (Ab (wq rfl (qL Co BN rfl (qL B2 A3 rfl ?_)))))))
 refine BG h fun v1 a1 h => Av [2001] (Mp N p0 p1 v1 a1) bf rfl (D6 HT rfl (B1 rfl (qe rfl ?_)))
 obtain rfl := sj h
 refine Ae (sm [] [(4, bD (((v1.length : Int) == 0)))] [] rfl rfl) (Ar ?_)
 exact ⟨⟨[_], tm, rfl⟩, tv⟩
theorem GG (N : Nat) (p0 : Aa) (p1 : Ac) (r : Bool) (h : CP N p0 p1 = some r) : Ao zA 60 [.e (.agg (Ag p0)), .e (.agg (AI p1))] [] (bD r) := by
 unfold CP at h
 refine cw (n := 22) (rs := [.tmp 4]) Tryz.func60 fun w0 S0 => ?_
 refine wq rfl (qb rfl (qb rfl (qa rfl (Ab (wq rfl (qL B2 A3 rfl ?_))))))
 refine BG h fun v1 a1 h => Av [2001] (M7 N p1 v1 a1) dH rfl (qa rfl (Ab (wp rfl (qe rfl ?_))))
 refine AC (L := Cd N p0 v1) h (fun v2 => mk [(2, oD (.ptr 2 0)), (5, oD (.own 2002)), (6, iD v2)] [(2, .box (Ag p0)), (2002, .vec 3 (v1.map Fh))]) (fun v3 => mk [] []) (fun _ _ => rfl) (sm [(2002, 2001)] _ _ rfl rfl) (fun j2 n2 v2 h => ?_) (fun v3 s h hs => ?_)
 ·unfold Cd at h
  refine wp rfl (qw 2 rfl (D6 MB rfl (AV rfl (Ab ?_))))
  refine A8 h (fun h => ?_) fun h => ?_
  ·refine Ai (AL (AH (wq rfl (qL Co BN rfl (qw 2 rfl ?_)))))
   refine BD h fun v5 a5 b5 h => qI MB A3 a5 (Af b5) rfl (qJ B2 A3 (Af b5) rfl ?_)
   refine BG h fun v6 a6 h => Av [] (L0 N p0 v5 v6 a6) d8 rfl (CA rfl (AM (by kernel_rfl) ?_))
   refine A8 h (fun h => ?_) fun h => ?_
   ·refine wq rfl (qe rfl ?_)
    obtain rfl := sj h
    refine Ae (sm [] [(4, bD false)] [] rfl rfl) (Ar ?_)
    exact ⟨⟨[_], tm, rfl⟩, tv⟩
   ·refine Ai (Ah Aw rfl (qm rfl (AW rfl (qe rfl ?_))))
    exact sn [] h
  ·refine AR ?_
   exact sn [] h
 ·refine Ae hs (wq rfl (qe rfl ?_))
  obtain rfl := sj h
  refine Ae (sm [] [(4, bD true)] [] rfl rfl) (Ar ?_)
  exact ⟨⟨[_], tm, rfl⟩, tv⟩
end Go.Lift
