/- Lemmas for WavesPlansCardSaid, which YtncnphcfgojgmaaGreatDoorFinV9 proves. -/
import Derived.Test.YtncnphcfgojgmaaGreatDoorTypes
import Derived.Test.YtncnphcfgojgmaaGreatDoorProg
import Derived.KernelRfl
namespace Go.Lift
open IntKind renaming wrap → wI
def C9 (_ : Nat) (p0 : List Int) (p1 : Int) : Option Int :=
 AL ((decide (p1 < (p0.length : Int))))
  ((BK p0 p1).bind fun v2 =>
  some ((wI .i64 v2)))
  (some 0)
def AS (_ : Nat) (p0 : Ar) : Option Bool :=
 Bf (fun (v1 : Bool) =>
  some v1)
 fun j1 =>
 AL ((p0.ff == 3))
  (j1 true)
  (j1 (p0.ff == 4))
def BU (N : Nat) (p1 : Int) (p2 : Int) (p3 : Bool) (v1 : (List (List Bool)) × Int) (j4 : ((List Bool)) → Option ((List (List Bool)))) : Nat → ((List Bool) × Int) → Option ((List (List Bool)))
 | 0, _ => none
 | n4 + 1, v4 =>
  AL ((decide (v4.2 < p1)))
   (Bf (fun (v7 : (List Bool)) =>
    BU N p1 p2 p3 v1 j4 n4 (v7, (wI .i64 (v4.2 + 1))))
   fun j7 =>
   AL p3
    (AL ((v1.2 == v4.2))
     ((Dl (v4.1.length + (([true] : List Bool)).length ≤ Dx)).bind fun _ =>
     j7 (v4.1 ++ (([true] : List Bool))))
     ((Dl (0 ≤ (wI .i64 ((wI .i64 (3 * v1.2)) + v4.2)))).bind fun _ =>
     (Dl (v4.1.length + (([((Int.tmod ((EA .u16 p2 ((wI .i64 ((wI .i64 (3 * v1.2)) + v4.2))))) 2) == 0)] : List Bool)).length ≤ Dx)).bind fun _ =>
     j7 (v4.1 ++ (([((Int.tmod ((EA .u16 p2 ((wI .i64 ((wI .i64 (3 * v1.2)) + v4.2))))) 2) == 0)] : List Bool)))))
    ((Dl (0 ≤ (wI .i64 ((wI .i64 (3 * v1.2)) + v4.2)))).bind fun _ =>
    (Dl (v4.1.length + (([((Int.tmod ((EA .u16 p2 ((wI .i64 ((wI .i64 (3 * v1.2)) + v4.2))))) 2) == 0)] : List Bool)).length ≤ Dx)).bind fun _ =>
    j7 (v4.1 ++ (([((Int.tmod ((EA .u16 p2 ((wI .i64 ((wI .i64 (3 * v1.2)) + v4.2))))) 2) == 0)] : List Bool)))))
   (j4 v4.1)
def BS (N : Nat) (p0 : Int) (p1 : Int) (p2 : Int) (p3 : Bool) (j1 : ((List (List Bool))) → Option ((List (List Bool)))) : Nat → ((List (List Bool)) × Int) → Option ((List (List Bool)))
 | 0, _ => none
 | n1 + 1, v1 =>
  AL ((decide (v1.2 < p0)))
   (BU N p1 p2 p3 v1 (fun (v5 : (List Bool)) =>
    (Dl (v1.1.length + (([v5] : List (List Bool))).length ≤ Dx)).bind fun _ =>
    BS N p0 p1 p2 p3 j1 n1 (v1.1 ++ (([v5] : List (List Bool))), (wI .i64 (v1.2 + 1)))) N (([] : List Bool), 0))
   (j1 v1.1)
def Db (N : Nat) (p0 : Int) (p1 : Int) (p2 : Int) (p3 : Bool) : Option ((List (List Bool))) :=
 BS N p0 p1 p2 p3 (fun (v2 : (List (List Bool))) =>
  some v2) N (([] : List (List Bool)), 0)
def B7 (N : Nat) (p0 : BP) (j4 : ((List Int) × (List Int) × (List Int)) → Option (Aa × Bool)) : Nat → ((List Int) × (List Int) × (List Int) × Int) → Option (Aa × Bool)
 | 0, _ => none
 | n4 + 1, v4 =>
  AL ((decide (v4.2.2.2 < (p0.fb.length : Int))))
   ((BK p0.fb v4.2.2.2).bind fun v7 =>
   (Dl (v4.1.length + (([(wI .i64 (1 + (wI .i64 ((Int.tmod v7 3)))))] : List Int)).length ≤ Dx)).bind fun _ =>
   (C9 N p0.fi v4.2.2.2).bind fun v9 =>
   (Dl ((wI .i64 (1 + (wI .i64 ((Int.tmod v7 3))))) ≠ 0)).bind fun _ =>
   (Dl (v4.2.1.length + (([(Int.tmod v9 ((wI .i64 (1 + (wI .i64 ((Int.tmod v7 3)))))))] : List Int)).length ≤ Dx)).bind fun _ =>
   (C9 N p0.fo v4.2.2.2).bind fun v12 =>
   (Dl ((wI .i64 (1 + (wI .i64 ((Int.tmod v7 3))))) ≠ 0)).bind fun _ =>
   (Dl (v4.2.2.1.length + (([(Int.tmod v12 ((wI .i64 (1 + (wI .i64 ((Int.tmod v7 3)))))))] : List Int)).length ≤ Dx)).bind fun _ =>
   B7 N p0 j4 n4 (v4.1 ++ (([(wI .i64 (1 + (wI .i64 ((Int.tmod v7 3)))))] : List Int)), v4.2.1 ++ (([(Int.tmod v9 ((wI .i64 (1 + (wI .i64 ((Int.tmod v7 3)))))))] : List Int)), v4.2.2.1 ++ (([(Int.tmod v12 ((wI .i64 (1 + (wI .i64 ((Int.tmod v7 3)))))))] : List Int)), (wI .i64 (v4.2.2.2 + 1))))
   (j4 (v4.1, v4.2.1, v4.2.2.1))
def Bd (N : Nat) (p0 : BP) (v5 : (List Int) × (List Int) × (List Int)) (j15 : ((List Ar)) → Option (Aa × Bool)) : Nat → ((List Ar) × Int) → Option (Aa × Bool)
 | 0, _ => none
 | n15 + 1, v15 =>
  Bf (fun (v17 : Bool) =>
   AL v17
    ((BK p0.fr v15.2).bind fun v20 =>
    (Dl ((v5.1.length : Int) ≠ 0)).bind fun _ =>
    (Dl ((v5.1.length : Int) ≠ 0)).bind fun _ =>
    Bf (fun (v23 : Bool) =>
     (BK v5.1 ((Int.tmod ((wI .i64 v20.fg)) ((v5.1.length : Int))))).bind fun v26 =>
     (BK v5.1 ((Int.tmod ((wI .i64 v20.fk)) ((v5.1.length : Int))))).bind fun v27 =>
     (Db N v26 v27 v20.ft false).bind fun v28 =>
     Bf (fun (v29 : (List (List Bool))) =>
      (Dl (v15.1.length + (([(Ar.mk ((wI .i64 (1 + (wI .i64 ((Int.tmod v20.ff 4)))))) ((Int.tmod ((wI .i64 v20.fg)) ((v5.1.length : Int)))) ((Int.tmod ((wI .i64 v20.fk)) ((v5.1.length : Int)))) v23 v28 v29)] : List Ar)).length ≤ Dx)).bind fun _ =>
      Bd N p0 v5 j15 n15 (v15.1 ++ (([(Ar.mk ((wI .i64 (1 + (wI .i64 ((Int.tmod v20.ff 4)))))) ((Int.tmod ((wI .i64 v20.fg)) ((v5.1.length : Int)))) ((Int.tmod ((wI .i64 v20.fk)) ((v5.1.length : Int)))) v23 v28 v29)] : List Ar)), (wI .i64 (v15.2 + 1))))
     fun j29 =>
     AL (((wI .i64 (1 + (wI .i64 ((Int.tmod v20.ff 4))))) == 4))
      ((BK v5.1 ((Int.tmod ((wI .i64 v20.fg)) ((v5.1.length : Int))))).bind fun v31 =>
      (BK v5.1 ((Int.tmod ((wI .i64 v20.fg)) ((v5.1.length : Int))))).bind fun v32 =>
      (Db N v31 v32 v20.fu true).bind fun v33 =>
      j29 v33)
      (j29 ([] : List (List Bool))))
    fun j23 =>
    AL v20.fp
     ((AS N ((Ar.mk ((wI .i64 (1 + (wI .i64 ((Int.tmod v20.ff 4)))))) ((Int.tmod ((wI .i64 v20.fg)) ((v5.1.length : Int)))) ((Int.tmod ((wI .i64 v20.fk)) ((v5.1.length : Int)))) false (([] : List (List Bool))) (([] : List (List Bool)))))).bind fun v25 =>
     j23 (!v25))
     (j23 false))
    (j15 v15.1))
  fun j17 =>
  AL ((decide (v15.2 < (p0.fr.length : Int))))
   (j17 (decide (0 < (v5.1.length : Int))))
   (j17 false)
def Eb (N : Nat) (p0 : BP) : Option (Aa × Bool) :=
 Bf (fun (v1 : Bool) =>
  AL v1
   (some ((Aa.mk (([] : List Int)) (([] : List Int)) (([] : List Int)) (([] : List Ar))), false))
   (B7 N p0 (fun (v5 : (List Int) × (List Int) × (List Int)) =>
    Bd N p0 v5 (fun (v16 : (List Ar)) =>
     some ((Aa.mk v5.1 v5.2.1 v5.2.2 v16), true)) N (([] : List Ar), 0)) N (([] : List Int), ([] : List Int), ([] : List Int), 0)))
 fun j1 =>
 AL ((decide (3 < (p0.fb.length : Int))))
  (j1 true)
  (j1 (decide (4 < (p0.fr.length : Int))))
def EL (_ : Nat) : Option (Aa × (List Ac)) :=
 some ((Aa.mk (([2, 2] : List Int)) (([0, 0] : List Int)) (([1, 1] : List Int)) (([] : List Ar))), ([(Ac.mk 1 0 1), (Ac.mk 1 1 1), (Ac.mk 2 0 0), (Ac.mk 2 1 0)] : List Ac))
def De (_ : Nat) (p0 : Int) (p1 : Int) : Option Bool :=
 Bf (fun (v1 : Bool) =>
  some v1)
 fun j1 =>
 AL ((decide (0 ≤ p0)))
  (j1 (decide (p0 < p1)))
  (j1 false)
def FB (_ : Nat) (p0 : Int) (p1 : Bool) : Option Bool :=
 Bf (fun (v1 : Bool) =>
  some v1)
 fun j1 =>
 AL ((p0 == 1))
  (j1 true)
  (AL ((p0 == 2))
   (j1 true)
   (AL ((p0 == 3))
    (j1 (!p1))
    (AL ((p0 == 4))
     (j1 (!p1))
     (j1 false))))
def C3 (_ : Nat) (p0 : List Bool) (p1 : Int) : Option Bool :=
 some (((p0.length : Int) != p1))
def Bb (N : Nat) (p0 : List (List Bool)) (p1 : (List Bool) → Option Bool) (j1 : Unit → Option Int) : Nat → Int → Option Int
 | 0, _ => none
 | n1 + 1, v1 =>
  AL ((decide (v1 < (p0.length : Int))))
   ((BK p0 v1).bind fun v4 =>
   (p1 v4).bind fun v5 =>
   AL v5
    (some v1)
    (Bb N p0 p1 j1 n1 (wI .i64 (v1 + 1))))
   (j1 ())
def CE (N : Nat) (p0 : List (List Bool)) (p1 : (List Bool) → Option Bool) : Option Int :=
 Bb N p0 p1 (fun (_ : Unit) =>
  some ((-1))) N 0
def Cl (N : Nat) (p0 : List (List Bool)) (p1 : (List Bool) → Option Bool) : Option Bool :=
 (CE N p0 p1).bind fun v1 =>
 some ((decide (0 ≤ v1)))
def D5 (N : Nat) (p0 : List (List Bool)) (p1 : Int) (p2 : Int) : Option Bool :=
 Bf (fun (v1 : Bool) =>
  some v1)
 fun j1 =>
 AL (((p0.length : Int) == p1))
  ((Cl N p0 ((fun (x : List Bool) => C3 N x p2))).bind fun v3 =>
  j1 (!v3))
  (j1 false)
def Cu (N : Nat) (p1 : Ar) (j19 : Unit → Option Int) : Nat → Int → Option Int
 | 0, _ => none
 | n19 + 1, v19 =>
  AL ((decide (v19 < (p1.fm.length : Int))))
   ((BK p1.fm v19).bind fun v22 =>
   (BK v22 v19).bind fun v23 =>
   AL ((!v23))
    (some 1)
    (Cu N p1 j19 n19 (wI .i64 (v19 + 1))))
   (j19 ())
def Fl (N : Nat) (p0 : Aa) (p1 : Ar) : Option Int :=
 (FB N p1.ff p1.fp).bind fun v1 =>
 AL ((!v1))
  (some 1)
  (Bf (fun (v3 : Bool) =>
   AL v3
    (some 4)
    ((BK p0.fb p1.fg).bind fun v8 =>
    Bf (fun (v9 : Bool) =>
     AL v9
      (some 6)
      (Cu N p1 (fun (_ : Unit) =>
       some 0) N 0))
    fun j9 =>
    (BK p0.fb p1.fk).bind fun v10 =>
    (D5 N p1.fq v8 v10).bind fun v11 =>
    AL ((!v11))
     (j9 true)
     (AL ((p1.ff == 4))
      ((D5 N p1.fm v8 v8).bind fun v14 =>
      AL ((!v14))
       (j9 true)
       (AL ((!((p1.ff == 4))))
        (j9 (decide (0 < (p1.fm.length : Int))))
        (j9 false)))
      (AL ((!((p1.ff == 4))))
       (j9 (decide (0 < (p1.fm.length : Int))))
       (j9 false)))))
  fun j3 =>
  (De N p1.fg ((p0.fb.length : Int))).bind fun v4 =>
  AL ((!v4))
   (j3 true)
   ((De N p1.fk ((p0.fb.length : Int))).bind fun v6 =>
   j3 (!v6)))
def BD (N : Nat) (p0 : Aa) (j7 : Unit → Option Int) : Nat → Int → Option Int
 | 0, _ => none
 | n7 + 1, v7 =>
  AL ((decide (v7 < (p0.fb.length : Int))))
   ((BK p0.fb v7).bind fun v10 =>
   Bf (fun (v11 : Bool) =>
    AL v11
     (some 7)
     (BD N p0 j7 n7 (wI .i64 (v7 + 1))))
   fun j11 =>
   AL ((decide (v10 < 1)))
    (j11 true)
    (AL ((decide (6 < v10)))
     (j11 true)
     ((BK p0.fi v7).bind fun v14 =>
     (De N v14 v10).bind fun v15 =>
     AL ((!v15))
      (j11 true)
      ((BK p0.fo v7).bind fun v17 =>
      (De N v17 v10).bind fun v18 =>
      j11 (!v18)))))
   (j7 ())
def Bu (N : Nat) (p0 : Aa) (j20 : Unit → Option Int) : Nat → Int → Option Int
 | 0, _ => none
 | n20 + 1, v20 =>
  AL ((decide (v20 < (p0.fc.length : Int))))
   ((BK p0.fc v20).bind fun v23 =>
   (Fl N p0 v23).bind fun v24 =>
   AL ((v24 != 0))
    (some v24)
    (Bu N p0 j20 n20 (wI .i64 (v20 + 1))))
   (j20 ())
def Ch (N : Nat) (p0 : Aa) : Option Int :=
 Bf (fun (v1 : Bool) =>
  AL v1
   (some 3)
   (Bf (fun (v4 : Bool) =>
    AL v4
     (some 6)
     (BD N p0 (fun (_ : Unit) =>
      Bu N p0 (fun (_ : Unit) =>
       some 0) N 0) N 0))
   fun j4 =>
   AL (((p0.fi.length : Int) != (p0.fb.length : Int)))
    (j4 true)
    (j4 ((p0.fo.length : Int) != (p0.fb.length : Int)))))
 fun j1 =>
 AL ((decide (6 < (p0.fb.length : Int))))
  (j1 true)
  (j1 (decide (12 < (p0.fc.length : Int))))
def Br (_ : Nat) (p0 : List Int) : Option ((List Int)) :=
 (Dl ((([] : List Int)).length + p0.length ≤ Dx)).bind fun _ =>
 some ((([] : List Int)) ++ p0)
def FZ (_ : Nat) (p0 : Int) (p1 : Int) : Option (Int × Int) :=
 some ((wI .u32 ((EA .u64 ((wI .u64 ((wI .u64 p0) * (wI .u64 p1)))) 32))), (wI .u32 ((wI .u64 ((wI .u64 p0) * (wI .u64 p1))))))
def F0 (_ : Nat) (p0 : Int) (p1 : Int) : Option (Int × Int) :=
 some ((wI .u64 ((wI .u64 ((wI .u64 ((EA .u64 p0 32) * (EA .u64 p1 32))) + (EA .u64 ((wI .u64 ((wI .u64 ((EA .u64 p0 32) * (Ft .u64 p1 4294967295))) + (EA .u64 ((wI .u64 ((Ft .u64 p0 4294967295) * (Ft .u64 p1 4294967295)))) 32)))) 32))) + (EA .u64 ((wI .u64 ((Ft .u64 ((wI .u64 ((wI .u64 ((EA .u64 p0 32) * (Ft .u64 p1 4294967295))) + (EA .u64 ((wI .u64 ((Ft .u64 p0 4294967295) * (Ft .u64 p1 4294967295)))) 32)))) 4294967295) + (wI .u64 ((Ft .u64 p0 4294967295) * (EA .u64 p1 32)))))) 32))), (wI .u64 (p0 * p1)))
def GA (N : Nat) (p0 : Int) (p1 : Int) : Option (Int × Int) :=
 AL false
  ((FZ N ((wI .u32 p0)) ((wI .u32 p1))).bind fun v2 =>
  some ((wI .u64 v2.1), (wI .u64 v2.2)))
  ((F0 N p0 p1).bind fun v3 =>
  some (v3.1, v3.2))
def CW (N : Nat) (j9 : ((List Int)) → Option ((List Int))) : Nat → ((List Int) × Int) → Option ((List Int))
 | 0, _ => none
 | n9 + 1, v9 =>
  AL ((decide (v9.2 < (v9.1.length : Int))))
   ((Dl ((0 : Int) ≤ v9.2 ∧ (v9.2).toNat ≤ v9.1.length ∧ v9.1.length ≤ v9.1.length)).bind fun _ =>
   (Dl ((0 : Int) ≤ v9.2 ∧ 0 ≤ (v9.2).toNat ∧ (v9.2).toNat ≤ v9.1.length)).bind fun _ =>
   CW N j9 n9 (Gq v9.1 ((v9.2).toNat) ((((v9.1.drop 0).take ((v9.2).toNat))).take (Nat.min (((v9.1.drop 0).take ((v9.2).toNat))).length ((v9.1.length - (v9.2).toNat)))), (wI .i64 (v9.2 + (((Nat.min (((v9.1.drop 0).take ((v9.2).toNat))).length ((v9.1.length - (v9.2).toNat))) : Nat) : Int)))))
   (j9 v9.1)
def Dy (N : Nat) (p0 : List Int) (p1 : Int) : Option ((List Int)) :=
 Bf (fun (_ : Unit) =>
  (GA N ((wI .u64 ((p0.length : Int)))) ((wI .u64 p1))).bind fun v3 =>
  Bf (fun (_ : Unit) =>
   (Dl ((0 : Int) ≤ (wI .i64 v3.2) ∧ (wI .i64 v3.2) ≤ (wI .i64 v3.2) ∧ (wI .i64 v3.2) ≤ (Dx : Int))).bind fun _ =>
   CW N (fun (v10 : (List Int)) =>
    some v10) N (Gq (List.replicate ((wI .i64 v3.2)).toNat ((0 : Int))) 0 (p0.take (Nat.min p0.length ((List.replicate ((wI .i64 v3.2)).toNat ((0 : Int))).length))), (((Nat.min p0.length ((List.replicate ((wI .i64 v3.2)).toNat ((0 : Int))).length)) : Nat) : Int)))
  fun j4 =>
  Bf (fun (v5 : Bool) =>
   AL v5
    (none)
    (j4 ()))
  fun j5 =>
  AL ((decide (0 < v3.1)))
   (j5 true)
   (j5 (decide (9223372036854775807 < v3.2))))
 fun j1 =>
 AL ((decide (p1 < 0)))
  (none)
  (j1 ())
def Ei (_ : Nat) (p0 : Ar) : Option Bool :=
 Bf (fun (v1 : Bool) =>
  some v1)
 fun j1 =>
 AL ((p0.ff == 3))
  (j1 true)
  (j1 (p0.ff == 4))
def Dd (N : Nat) (p0 : Aa) (j6 : ((List Int)) → Option (Ab × Int)) : Nat → ((List Int) × Int) → Option (Ab × Int)
 | 0, _ => none
 | n6 + 1, v6 =>
  AL ((decide (v6.2 < (p0.fc.length : Int))))
   (Bf (fun (v9 : (List Int)) =>
    Dd N p0 j6 n6 (v9, (wI .i64 (v6.2 + 1))))
   fun j9 =>
   (BK p0.fc v6.2).bind fun v10 =>
   (Ei N v10).bind fun v11 =>
   AL v11
    ((BK p0.fi v10.fg).bind fun v13 =>
    (Dl (0 ≤ v13)).bind fun _ =>
    (BK v6.1 v6.2).bind fun _ =>
    j9 (v6.1.set ((v6.2).toNat) ((C0 .u8 1 v13))))
    (j9 v6.1))
   (j6 v6.1)
def EG (N : Nat) (p0 : Aa) : Option (Ab × Int) :=
 (Ch N p0).bind fun v1 =>
 AL ((v1 != 0))
  (some ((Ab.mk (([] : List Int)) (([] : List Int)) (([] : List Int))), v1))
  ((Br N p0.fi).bind fun v3 =>
  (Dy N (([(-1)] : List Int)) ((p0.fi.length : Int))).bind fun v4 =>
  (Dl ((0 : Int) ≤ (p0.fc.length : Int) ∧ (p0.fc.length : Int) ≤ (p0.fc.length : Int) ∧ (p0.fc.length : Int) ≤ (Dx : Int))).bind fun _ =>
  Dd N p0 (fun (v7 : (List Int)) =>
   some ((Ab.mk v3 v4 v7), 0)) N (List.replicate ((p0.fc.length : Int)).toNat ((0 : Int)), 0))
def D0 (_ : Nat) (p0 : Ab) (p1 : Int) : Option Int :=
 (BK p0.fe p1).bind fun v1 =>
 (Dl (0 ≤ v1)).bind fun _ =>
 Bf (fun (v3 : Int) =>
  some v3)
 fun j3 =>
 (BK p0.fa p1).bind fun v4 =>
 AL ((decide (0 ≤ v4)))
  ((BK p0.fa p1).bind fun v6 =>
  (Dl (0 ≤ v6)).bind fun _ =>
  j3 (ME .u8 ((C0 .u8 1 v1)) ((C0 .u8 1 v6))))
  (j3 (C0 .u8 1 v1))
def Dc (N : Nat) (p0 : Aa) (p1 : Ab) (j7 : Unit → Option Int) : Nat → Int → Option Int
 | 0, _ => none
 | n7 + 1, v7 =>
  AL ((decide (v7 < (p0.fb.length : Int))))
   ((BK p0.fb v7).bind fun v10 =>
   Bf (fun (v11 : Bool) =>
    AL v11
     (some 7)
     ((BK p1.fe v7).bind fun v20 =>
     (BK p1.fa v7).bind fun v21 =>
     AL ((v20 == v21))
      (some 1)
      (Dc N p0 p1 j7 n7 (wI .i64 (v7 + 1)))))
   fun j11 =>
   (BK p1.fe v7).bind fun v12 =>
   AL ((decide (v12 < 0)))
    (j11 true)
    ((BK p1.fe v7).bind fun v14 =>
    AL ((decide (v10 ≤ v14)))
     (j11 true)
     ((BK p1.fa v7).bind fun v16 =>
     AL ((decide (v16 < (-1))))
      (j11 true)
      ((BK p1.fa v7).bind fun v18 =>
      j11 (decide (v10 ≤ v18))))))
   (j7 ())
def CS (N : Nat) (p0 : Aa) (p1 : Ab) (j23 : Unit → Option Int) : Nat → Int → Option Int
 | 0, _ => none
 | n23 + 1, v23 =>
  AL ((decide (v23 < (p0.fc.length : Int))))
   ((BK p0.fc v23).bind fun v26 =>
   Bf (fun (v27 : Int × Int) =>
    Bf (fun (v33 : Bool) =>
     AL v33
      (some 1)
      (CS N p0 p1 j23 n23 (wI .i64 (v23 + 1))))
    fun j33 =>
    (BK p1.fd v23).bind fun v34 =>
    AL (((Cz .u8 v27.1 v34) != 0))
     (j33 true)
     ((BK p1.fd v23).bind fun v36 =>
     j33 ((Cz .u8 v36 v27.2) != 0)))
   fun j27 =>
   (Ei N v26).bind fun v28 =>
   AL v28
    ((D0 N p1 v26.fg).bind fun v30 =>
    (BK p0.fb v26.fg).bind fun v31 =>
    (Dl (0 ≤ v31)).bind fun _ =>
    j27 (v30, (wI .u8 ((C0 .u8 1 v31) - 1))))
    (j27 (0, 0)))
   (j23 ())
def D6 (N : Nat) (p0 : Aa) (p1 : Ab) : Option Int :=
 (Ch N p0).bind fun v1 =>
 AL ((v1 != 0))
  (some v1)
  (Bf (fun (v3 : Bool) =>
   AL v3
    (some 6)
    (Dc N p0 p1 (fun (_ : Unit) =>
     CS N p0 p1 (fun (_ : Unit) =>
      some 0) N 0) N 0))
  fun j3 =>
  AL (((p1.fe.length : Int) != (p0.fb.length : Int)))
   (j3 true)
   (AL (((p1.fa.length : Int) != (p0.fb.length : Int)))
    (j3 true)
    (j3 ((p1.fd.length : Int) != (p0.fc.length : Int)))))
def Bx (_ : Nat) (p0 : List Int) : Option ((List Int)) :=
 (Dl ((([] : List Int)).length + p0.length ≤ Dx)).bind fun _ =>
 some ((([] : List Int)) ++ p0)
def CU (N : Nat) (p1 : Ab) (j3 : ((List Int)) → Option ((List Ab) × Int)) : Nat → ((List Int) × Int) → Option ((List Ab) × Int)
 | 0, _ => none
 | n3 + 1, v3 =>
  AL ((decide (v3.2 < (p1.fa.length : Int))))
   (Bf (fun (v6 : (List Int)) =>
    CU N p1 j3 n3 (v6, (wI .i64 (v3.2 + 1))))
   fun j6 =>
   (BK p1.fa v3.2).bind fun v7 =>
   AL ((decide (0 ≤ v7)))
    ((Dl (v3.1.length + (([v3.2] : List Int)).length ≤ Dx)).bind fun _ =>
    j6 (v3.1 ++ (([v3.2] : List Int))))
    (j6 v3.1))
   (j3 v3.1)
def Cm (N : Nat) (v4 : (List Int)) (v11 : (List Ab) × Int) (j17 : ((List Int)) → Option ((List Ab) × Int)) : Nat → ((List Int) × Int) → Option ((List Ab) × Int)
 | 0, _ => none
 | n17 + 1, v17 =>
  AL ((decide (v17.2 < (v4.length : Int))))
   (Bf (fun (v20 : (List Int)) =>
    Cm N v4 v11 j17 n17 (v20, (wI .i64 (v17.2 + 1))))
   fun j20 =>
   (BK v4 v17.2).bind fun v21 =>
   (Dl (0 ≤ v17.2)).bind fun _ =>
   AL (((Ft .i64 ((EA .i64 v11.2 v17.2)) 1) == 1))
    ((BK v17.1 v21).bind fun _ =>
    j20 (v17.1.set ((v21).toNat) ((-1))))
    (j20 v17.1))
   (j17 v17.1)
def Cn (N : Nat) (p1 : Ab) (v4 : (List Int)) (j11 : ((List Ab)) → Option ((List Ab) × Int)) : Nat → ((List Ab) × Int) → Option ((List Ab) × Int)
 | 0, _ => none
 | n11 + 1, v11 =>
  AL ((decide (v11.2 < (C0 .i64 1 ((v4.length : Int))))))
   ((Br N p1.fe).bind fun v14 =>
   (Br N p1.fa).bind fun v15 =>
   (Bx N p1.fd).bind fun v16 =>
   Cm N v4 v11 (fun (v18 : (List Int)) =>
    (Dl (v11.1.length + (([(Ab.mk v14 v18 v16)] : List Ab)).length ≤ Dx)).bind fun _ =>
    Cn N p1 v4 j11 n11 (v11.1 ++ (([(Ab.mk v14 v18 v16)] : List Ab)), (wI .i64 (v11.2 + 1)))) N (v15, 0))
   (j11 v11.1)
def FC (N : Nat) (p0 : Aa) (p1 : Ab) : Option ((List Ab) × Int) :=
 (D6 N p0 p1).bind fun v1 =>
 AL ((v1 != 0))
  (some (([] : List Ab), v1))
  (CU N p1 (fun (v4 : (List Int)) =>
   (Dl (0 ≤ (v4.length : Int))).bind fun _ =>
   Cn N p1 v4 (fun (v12 : (List Ab)) =>
    some (v12, 0)) N (([] : List Ab), 0)) N (([] : List Int), 0))
def BF (N : Nat) (v1 : (List Af) × Int) (v4 : Ar) (v6 : Int) (v11 : (List Af) × Int) (v17 : List Bool) (j18 : ((List Af) × Bool) → Option ((List Af))) : Nat → ((List Af) × Bool × Int) → Option ((List Af))
 | 0, _ => none
 | n18 + 1, v18 =>
  AL ((decide (v18.2.2 < (v17.length : Int))))
   (Bf (fun (v21 : (List Af) × Bool) =>
    BF N v1 v4 v6 v11 v17 j18 n18 (v21.1, v21.2, (wI .i64 (v18.2.2 + 1))))
   fun j21 =>
   (BK v17 v18.2.2).bind fun v22 =>
   (Dl (0 ≤ v18.2.2)).bind fun _ =>
   AL (((Ft .u8 ((EA .u8 v6 v18.2.2)) 1) == 0))
    (j21 (v18.1, v18.2.1))
    (Bf (fun (v25 : Bool) =>
     Bf (fun (v27 : Bool) =>
      AL v27
       ((Dl (v18.1.length + (([(Af.mk v1.2 v11.2 v18.2.2)] : List Af)).length ≤ Dx)).bind fun _ =>
       j21 (v18.1 ++ (([(Af.mk v1.2 v11.2 v18.2.2)] : List Af)), v25))
       (j21 (v18.1, v25)))
     fun j27 =>
     AL ((!v22))
      (j27 (!v4.fp))
      (j27 false))
    fun j25 =>
    AL v18.2.1
     (j25 true)
     (j25 v22)))
   (j18 (v18.1, v18.2.1))
def BR (N : Nat) (v1 : (List Af) × Int) (v4 : Ar) (v6 : Int) (v7 : Int) (j11 : ((List Af)) → Option ((List Af))) : Nat → ((List Af) × Int) → Option ((List Af))
 | 0, _ => none
 | n11 + 1, v11 =>
  AL ((decide (v11.2 < (v4.fq.length : Int))))
   (Bf (fun (v14 : (List Af)) =>
    BR N v1 v4 v6 v7 j11 n11 (v14, (wI .i64 (v11.2 + 1))))
   fun j14 =>
   (Dl (0 ≤ v11.2)).bind fun _ =>
   AL (((Ft .u8 ((EA .u8 v7 v11.2)) 1) == 0))
    (j14 v11.1)
    ((BK v4.fq v11.2).bind fun v17 =>
    BF N v1 v4 v6 v11 v17 (fun (v19 : (List Af) × Bool) =>
     Bf (fun (v31 : Bool) =>
      AL v31
       ((Dl (v19.1.length + (([(Af.mk v1.2 v11.2 ((-1)))] : List Af)).length ≤ Dx)).bind fun _ =>
       j14 (v19.1 ++ (([(Af.mk v1.2 v11.2 ((-1)))] : List Af))))
       (j14 v19.1))
     fun j31 =>
     AL v4.fp
      (j31 (!v19.2))
      (j31 false)) N (v11.1, false, 0)))
   (j11 v11.1)
def CD (N : Nat) (p0 : Aa) (p1 : Ab) (j1 : ((List Af)) → Option ((List Af))) : Nat → ((List Af) × Int) → Option ((List Af))
 | 0, _ => none
 | n1 + 1, v1 =>
  AL ((decide (v1.2 < (p0.fc.length : Int))))
   ((BK p0.fc v1.2).bind fun v4 =>
   (D0 N p1 v4.fg).bind fun v5 =>
   (D0 N p1 v4.fk).bind fun v6 =>
   Bf (fun (v7 : Int) =>
    BR N v1 v4 v6 v7 (fun (v12 : (List Af)) =>
     CD N p0 p1 j1 n1 (v12, (wI .i64 (v1.2 + 1)))) N (v1.1, 0))
   fun j7 =>
   (Ei N v4).bind fun v8 =>
   AL v8
    ((BK p1.fd v1.2).bind fun v10 =>
    j7 v10)
    (j7 v5))
   (j1 v1.1)
def Eo (N : Nat) (p0 : Aa) (p1 : Ab) : Option ((List Af)) :=
 CD N p0 p1 (fun (v2 : (List Af)) =>
  some v2) N (([] : List Af), 0)
def DO (N : Nat) (p0 : Aa) (v1 : (List Ab) × Int) (j3 : Unit → Option (Ab × Af × Int)) : Nat → Int → Option (Ab × Af × Int)
 | 0, _ => none
 | n3 + 1, v3 =>
  AL ((decide (v3 < (v1.1.length : Int))))
   ((BK v1.1 v3).bind fun v6 =>
   (Eo N p0 v6).bind fun v7 =>
   AL ((decide (0 < (v7.length : Int))))
    ((BK v7 0).bind fun v9 =>
    some (v6, v9, 0))
    (DO N p0 v1 j3 n3 (wI .i64 (v3 + 1))))
   (j3 ())
def ED (N : Nat) (p0 : Aa) (p1 : Ab) : Option (Ab × Af × Int) :=
 (FC N p0 p1).bind fun v1 =>
 AL ((v1.2 != 0))
  (some ((Ab.mk (([] : List Int)) (([] : List Int)) (([] : List Int))), (Af.mk 0 0 0), v1.2))
  (DO N p0 v1 (fun (_ : Unit) =>
   some ((Ab.mk (([] : List Int)) (([] : List Int)) (([] : List Int))), (Af.mk 0 0 0), 15)) N 0)
def ES (_ : Nat) (p0 : Ac) : Option Bool :=
 Bf (fun (v1 : Bool) =>
  AL v1
   (some false)
   (Bf (fun (v5 : Bool) =>
    some v5)
   fun j5 =>
   AL ((p0.ff == 1))
    (j5 true)
    (j5 (p0.fj == 0))))
 fun j1 =>
 AL ((decide ((MZ p0.fh p0.fj) < 0)))
  (j1 true)
  (AL ((decide (p0.ff < 1)))
   (j1 true)
   (j1 (decide (4 < p0.ff))))
def Fj (_ : Nat) (p0 : Aa) (p1 : Ac) : Option Bool :=
 AL ((p1.ff == 3))
  (some ((decide (p1.fh < (p0.fc.length : Int)))))
  (Bf (fun (v2 : Bool) =>
   some v2)
  fun j2 =>
  AL ((decide (p1.fh < (p0.fb.length : Int))))
   (AL ((p1.ff != 1))
    (j2 true)
    ((BK p0.fb p1.fh).bind fun v5 =>
    j2 (decide (p1.fj < v5))))
   (j2 false))
def Fe (N : Nat) (p0 : Ab) : Option Ab :=
 (Br N p0.fe).bind fun v1 =>
 (Br N p0.fa).bind fun v2 =>
 (Bx N p0.fd).bind fun v3 =>
 some ((Ab.mk v1 v2 v3))
def Ex (_ : Nat) (p0 : Ar) : Option Bool :=
 Bf (fun (v1 : Bool) =>
  some v1)
 fun j1 =>
 AL ((p0.ff == 3))
  (j1 true)
  (j1 (p0.ff == 4))
def CM (N : Nat) (p0 : Aa) (p2 : Ac) (j7 : ((List Int)) → Option (Bool × (List Int) × (List Int))) : Nat → ((List Int) × Int) → Option (Bool × (List Int) × (List Int))
 | 0, _ => none
 | n7 + 1, v7 =>
  AL ((decide (v7.2 < (p0.fc.length : Int))))
   (Bf (fun (v10 : (List Int)) =>
    CM N p0 p2 j7 n7 (v10, (wI .i64 (v7.2 + 1))))
   fun j10 =>
   (BK p0.fc v7.2).bind fun v11 =>
   Bf (fun (v12 : Bool) =>
    AL v12
     ((BK v7.1 v7.2).bind fun v16 =>
     (Dl (0 ≤ p2.fj)).bind fun _ =>
     (BK v7.1 v7.2).bind fun _ =>
     j10 (v7.1.set ((v7.2).toNat) ((ME .u8 v16 ((C0 .u8 1 p2.fj))))))
     (j10 v7.1))
   fun j12 =>
   AL ((v11.fg == p2.fh))
    ((Ex N v11).bind fun v14 =>
    j12 v14)
    (j12 false))
   (j7 v7.1)
def GM (N : Nat) (p0 : Aa) (p1 : Ab) (p2 : Ac) : Option (Bool × (List Int) × (List Int)) :=
 Bf (fun (v1 : Bool) =>
  AL v1
   (some (false, p1.fa, p1.fd))
   ((BK p1.fa p2.fh).bind fun _ =>
   CM N p0 p2 (fun (v8 : (List Int)) =>
    some (true, p1.fa.set ((p2.fh).toNat) p2.fj, v8)) N (p1.fd, 0)))
 fun j1 =>
 (BK p1.fa p2.fh).bind fun v2 =>
 AL ((decide (0 ≤ v2)))
  (j1 true)
  ((BK p1.fe p2.fh).bind fun v4 =>
  j1 (v4 == p2.fj))
def EM (_ : Nat) (p0 : Ab) (p1 : Int) : Option Int :=
 (BK p0.fe p1).bind fun v1 =>
 (Dl (0 ≤ v1)).bind fun _ =>
 Bf (fun (v3 : Int) =>
  some v3)
 fun j3 =>
 (BK p0.fa p1).bind fun v4 =>
 AL ((decide (0 ≤ v4)))
  ((BK p0.fa p1).bind fun v6 =>
  (Dl (0 ≤ v6)).bind fun _ =>
  j3 (ME .u8 ((C0 .u8 1 v1)) ((C0 .u8 1 v6))))
  (j3 (C0 .u8 1 v1))
def Cp (_ : Nat) (p0 : Int) : Option Int :=
 (SX ((⟨⟨(List.append (List.append [8, 0, 1, 0, 2, 0, 1, 0, 3, 0, 1, 0, 2, 0, 1, 0, 4, 0, 1, 0, 2, 0, 1, 0, 3, 0, 1, 0, 2, 0, 1, 0, 5, 0, 1, 0, 2, 0, 1, 0, 3, 0, 1, 0, 2, 0, 1, 0, 4, 0, 1, 0, 2, 0, 1, 0, 3, 0, 1, 0, 2, 0, 1, 0] [6, 0, 1, 0, 2, 0, 1, 0, 3, 0, 1, 0, 2, 0, 1, 0, 4, 0, 1, 0, 2, 0, 1, 0, 3, 0, 1, 0, 2, 0, 1, 0, 5, 0, 1, 0, 2, 0, 1, 0, 3, 0, 1, 0, 2, 0, 1, 0, 4, 0, 1, 0, 2, 0, 1, 0, 3, 0, 1, 0, 2, 0, 1, 0]) (List.append [7, 0, 1, 0, 2, 0, 1, 0, 3, 0, 1, 0, 2, 0, 1, 0, 4, 0, 1, 0, 2, 0, 1, 0, 3, 0, 1, 0, 2, 0, 1, 0, 5, 0, 1, 0, 2, 0, 1, 0, 3, 0, 1, 0, 2, 0, 1, 0, 4, 0, 1, 0, 2, 0, 1, 0, 3, 0, 1, 0, 2, 0, 1, 0] [6, 0, 1, 0, 2, 0, 1, 0, 3, 0, 1, 0, 2, 0, 1, 0, 4, 0, 1, 0, 2, 0, 1, 0, 3, 0, 1, 0, 2, 0, 1, 0, 5, 0, 1, 0, 2, 0, 1, 0, 3, 0, 1, 0, 2, 0, 1, 0, 4, 0, 1, 0, 2, 0, 1, 0, 3, 0, 1, 0, 2, 0, 1, 0]))⟩⟩ : ByteArray)) p0).bind fun v1 =>
 some ((wI .i64 v1))
def CG (N : Nat) (p0 : Ar) (p2 : Int) (j1 : Unit → Option Bool) : Nat → Int → Option Bool
 | 0, _ => none
 | n1 + 1, v1 =>
  AL ((v1 != 0))
   ((Cp N v1).bind fun v4 =>
   (BK p0.fm v4).bind fun v5 =>
   (BK v5 p2).bind fun v6 =>
   AL ((!v6))
    (some false)
    (CG N p0 p2 j1 n1 (Ft .u8 v1 ((wI .u8 (v1 - 1))))))
   (j1 ())
def EH (N : Nat) (p0 : Ar) (p1 : Int) (p2 : Int) : Option Bool :=
 CG N p0 p2 (fun (_ : Unit) =>
  some true) N p1
def FF (N : Nat) (p0 : Aa) (p1 : Ab) (p2 : Int) : Option (Bool × (List Int)) :=
 (BK p0.fc p2).bind fun v1 =>
 (Ex N v1).bind fun v2 =>
 AL ((!v2))
  (some (false, p1.fd))
  ((EM N p1 v1.fg).bind fun v4 =>
  (BK p1.fd p2).bind fun v5 =>
  Bf (fun (v6 : Bool) =>
   AL v6
    (some (false, p1.fd))
    ((BK p1.fd p2).bind fun _ =>
    some (true, p1.fd.set ((p2).toNat) v4)))
  fun j6 =>
  (BK p1.fd p2).bind fun v7 =>
  AL ((v7 == v4))
   (j6 true)
   (AL ((v1.ff == 4))
    ((BK p1.fe v1.fg).bind fun v10 =>
    (EH N v1 ((Cz .u8 v5 v4)) v10).bind fun v11 =>
    j6 (!v11))
    (j6 false)))
def FA (N : Nat) (p0 : Aa) (p1 : Ab) (p2 : Ac) : Option (Ab × Bool) :=
 (Fe N p1).bind fun v1 =>
 AL ((p2.ff == 1))
  ((GM N p0 v1 p2).bind fun v3 =>
  some ((Ab.mk v1.fe v3.2.1 v3.2.2), v3.1))
  (AL ((p2.ff == 3))
   ((FF N p0 v1 p2.fh).bind fun v5 =>
   some ((Ab.mk v1.fe v1.fa v5.2), v5.1))
   ((BK v1.fa p2.fh).bind fun v6 =>
   AL ((decide (v6 < 0)))
    (some (v1, false))
    ((BK v1.fa p2.fh).bind fun _ =>
    Bf (fun (v9 : (List Int)) =>
     some ((Ab.mk v9 (v1.fa.set ((p2.fh).toNat) ((-1))) v1.fd), true))
    fun j9 =>
    AL ((p2.ff == 2))
     ((BK v1.fe p2.fh).bind fun _ =>
     j9 (v1.fe.set ((p2.fh).toNat) v6))
     (j9 v1.fe))))
def FJ (N : Nat) (p0 : Aa) (p1 : Ab) (p2 : Ac) : Option (Ab × Int) :=
 (ES N p2).bind fun v1 =>
 AL ((!v1))
  (some ((Ab.mk (([] : List Int)) (([] : List Int)) (([] : List Int))), 1))
  ((Fj N p0 p2).bind fun v3 =>
  AL ((!v3))
   (some ((Ab.mk (([] : List Int)) (([] : List Int)) (([] : List Int))), 4))
   ((FA N p0 p1 p2).bind fun v5 =>
   AL ((!v5.2))
    (some ((Ab.mk (([] : List Int)) (([] : List Int)) (([] : List Int))), 11))
    (some (v5.1, 0))))
def ER (N : Nat) (p0 : Aa) (p1 : Ab) (p2 : Ac) : Option (Ab × Int) :=
 (D6 N p0 p1).bind fun v1 =>
 AL ((v1 != 0))
  (some ((Ab.mk (([] : List Int)) (([] : List Int)) (([] : List Int))), v1))
  ((FJ N p0 p1 p2).bind fun v3 =>
  some (v3.1, v3.2))
def BH (N : Nat) (p0 : List Int) (p1 : List Int) (j2 : Unit → Option Bool) : Nat → Int → Option Bool
 | 0, _ => none
 | n2 + 1, v2 =>
  AL ((decide (v2 < (p0.length : Int))))
   ((BK p0 v2).bind fun v5 =>
   (BK p1 v2).bind fun v6 =>
   AL ((v5 != v6))
    (some false)
    (BH N p0 p1 j2 n2 (wI .i64 (v2 + 1))))
   (j2 ())
def CQ (N : Nat) (p0 : List Int) (p1 : List Int) : Option Bool :=
 AL (((p0.length : Int) != (p1.length : Int)))
  (some false)
  (BH N p0 p1 (fun (_ : Unit) =>
   some true) N 0)
def A4 (N : Nat) (p0 : List Int) (p1 : Int → Option Bool) (j1 : Unit → Option Int) : Nat → Int → Option Int
 | 0, _ => none
 | n1 + 1, v1 =>
  AL ((decide (v1 < (p0.length : Int))))
   ((BK p0 v1).bind fun v4 =>
   (p1 v4).bind fun v5 =>
   AL v5
    (some v1)
    (A4 N p0 p1 j1 n1 (wI .i64 (v1 + 1))))
   (j1 ())
def CX (N : Nat) (p0 : List Int) (p1 : Int → Option Bool) : Option Int :=
 A4 N p0 p1 (fun (_ : Unit) =>
  some ((-1))) N 0
def B2 (N : Nat) (p0 : List Int) (p1 : Int → Option Bool) : Option Bool :=
 (CX N p0 p1).bind fun v1 =>
 some ((decide (0 ≤ v1)))
def FR (_ : Nat) (p0 : Int) : Option Bool :=
 some ((decide (0 ≤ p0)))
def Fa (N : Nat) (p0 : Aa) (p1 : Ab) : Option Bool :=
 Bf (fun (v1 : Bool) =>
  some v1)
 fun j1 =>
 (D6 N p0 p1).bind fun v2 =>
 AL ((v2 == 0))
  ((CQ N p1.fe p0.fo).bind fun v4 =>
  AL v4
   ((B2 N p1.fa ((fun (x : Int) => FR N x))).bind fun v6 =>
   j1 (!v6))
   (j1 false))
  (j1 false)
def Dw (N : Nat) (p0 : Aa) (p1 : List Ac) (j5 : Ab → Option (Int × Ab × Af × Int)) : Nat → (Ab × Int) → Option (Int × Ab × Af × Int)
 | 0, _ => none
 | n5 + 1, v5 =>
  AL ((decide (v5.2 < (p1.length : Int))))
   ((BK p1 v5.2).bind fun v8 =>
   (ER N p0 v5.1 v8).bind fun v9 =>
   Bf (fun (v10 : Bool) =>
    AL v10
     (some (v5.2, (Ab.mk (([] : List Int)) (([] : List Int)) (([] : List Int))), (Af.mk 0 0 0), 0))
     ((ED N p0 v9.1).bind fun v13 =>
     AL ((v13.2.2 == 0))
      (some (v5.2, v13.1, v13.2.1, 0))
      (Dw N p0 p1 j5 n5 (v9.1, (wI .i64 (v5.2 + 1))))))
   fun j10 =>
   AL ((v9.2 != 0))
    (j10 true)
    (j10 (v8.ff == 4)))
   (j5 v5.1)
def EN (N : Nat) (p0 : Aa) (p1 : List Ac) : Option (Int × Ab × Af × Int) :=
 (EG N p0).bind fun v1 =>
 AL ((v1.2 != 0))
  (some (0, (Ab.mk (([] : List Int)) (([] : List Int)) (([] : List Int))), (Af.mk 0 0 0), v1.2))
  ((ED N p0 v1.1).bind fun v3 =>
  AL ((v3.2.2 == 0))
   (some ((-1), v3.1, v3.2.1, 0))
   (Dw N p0 p1 (fun (v6 : Ab) =>
    (Fa N p0 v6).bind fun v15 =>
    AL ((!v15))
     (some ((p1.length : Int), (Ab.mk (([] : List Int)) (([] : List Int)) (([] : List Int))), (Af.mk 0 0 0), 14))
     (some (0, (Ab.mk (([] : List Int)) (([] : List Int)) (([] : List Int))), (Af.mk 0 0 0), 15))) N (v1.1, 0)))
def FP (N : Nat) (p0 : Aa) (p1 : List Ac) : Option Bool :=
 (EN N p0 p1).bind fun v1 =>
 some ((v1.2.2.2 == 15))
def Eh (N : Nat) (p0 : Aa) (p1 : Ab) : Option (Bool × Int) :=
 (ED N p0 p1).bind fun v1 =>
 AL ((v1.2.2 == 0))
  (some (false, 0))
  (AL ((v1.2.2 == 15))
   (some (true, 0))
   (some (false, v1.2.2)))
def D8 (_ : Nat) (p0 : Int) : Option ByteArray :=
 (BK (([(⟨#[]⟩ : ByteArray), (⟨#[115, 116, 97, 114, 116]⟩ : ByteArray), (⟨#[102, 105, 110, 105, 115, 104]⟩ : ByteArray), (⟨#[99, 108, 101, 97, 114]⟩ : ByteArray), (⟨#[97, 98, 111, 114, 116]⟩ : ByteArray)] : List ByteArray)) p0).bind fun v1 =>
 some v1
def FW (_ : Nat) (p0 : Int) : Option ByteArray := Pp p0
def Fd (N : Nat) (p0 : Ac) : Option (ByteArray × Int) :=
 (ES N p0).bind fun v1 =>
 AL ((!v1))
  (some ((⟨#[]⟩ : ByteArray), 1))
  ((D8 N p0.ff).bind fun v3 =>
  (Dl (v3.size + ((⟨#[32]⟩ : ByteArray)).size ≤ 9223372036854775807)).bind fun _ =>
  (FW N p0.fh).bind fun v5 =>
  (Dl (((v3 ++ (⟨#[32]⟩ : ByteArray))).size + v5.size ≤ 9223372036854775807)).bind fun _ =>
  Bf (fun (v7 : ByteArray) =>
   some (v7, 0))
  fun j7 =>
  AL ((p0.ff == 1))
   ((FW N p0.fj).bind fun v9 =>
   (Dl (((⟨#[32]⟩ : ByteArray)).size + v9.size ≤ 9223372036854775807)).bind fun _ =>
   (Dl ((((v3 ++ (⟨#[32]⟩ : ByteArray)) ++ v5)).size + (((⟨#[32]⟩ : ByteArray) ++ v9)).size ≤ 9223372036854775807)).bind fun _ =>
   j7 (((v3 ++ (⟨#[32]⟩ : ByteArray)) ++ v5) ++ ((⟨#[32]⟩ : ByteArray) ++ v9)))
   (j7 ((v3 ++ (⟨#[32]⟩ : ByteArray)) ++ v5)))
def AV (N : Nat) (p0 : List Ac) (p1 : Ac) (j1 : Unit → Option Int) : Nat → Int → Option Int
 | 0, _ => none
 | n1 + 1, v1 =>
  AL ((decide (v1 < (p0.length : Int))))
   ((BK p0 v1).bind fun v4 =>
   AL (((p1.ff == v4.ff) && ((p1.fh == v4.fh) && ((p1.fj == v4.fj) && true))))
    (some v1)
    (AV N p0 p1 j1 n1 (wI .i64 (v1 + 1))))
   (j1 ())
def BN (N : Nat) (p0 : List Ac) (p1 : Ac) : Option Int :=
 AV N p0 p1 (fun (_ : Unit) =>
  some ((-1))) N 0
def Bw (N : Nat) (p0 : List Ac) (p1 : Ac) : Option Bool :=
 (BN N p0 p1).bind fun v1 =>
 some ((decide (0 ≤ v1)))
def Du (N : Nat) (p0 : List Ac) (j4 : Unit → Option Int) : Nat → Int → Option Int
 | 0, _ => none
 | n4 + 1, v4 =>
  AL ((decide (v4 < (p0.length : Int))))
   ((BK p0 v4).bind fun v7 =>
   (Fd N v7).bind fun v8 =>
   Bf (fun (v9 : Bool) =>
    AL v9
     (some 1)
     (Du N p0 j4 n4 (wI .i64 (v4 + 1))))
   fun j9 =>
   AL ((v8.2 != 0))
    (j9 true)
    (AL ((v7.ff == 4))
     (j9 true)
     ((Dl ((0 : Int) ≤ v4 ∧ 0 ≤ (v4).toNat ∧ (v4).toNat ≤ p0.length)).bind fun _ =>
     (Bw N (((p0.drop 0).take ((v4).toNat - 0))) v7).bind fun v13 =>
     j9 v13)))
   (j4 ())
def FK (N : Nat) (p0 : List Ac) : Option Int :=
 Bf (fun (v1 : Bool) =>
  AL v1
   (some 6)
   (Du N p0 (fun (_ : Unit) =>
    some 0) N 0))
 fun j1 =>
 AL ((decide ((p0.length : Int) < 1)))
  (j1 true)
  (j1 (decide (5 < (p0.length : Int))))
def C7 (N : Nat) (p0 : Aa) (p2 : List Ac) (j1 : Ab → Option (Ab × Bool)) : Nat → ((List Int) × (List Int) × (List Int) × Int) → Option (Ab × Bool)
 | 0, _ => none
 | n1 + 1, v1 =>
  AL ((decide (v1.2.2.2 < (p2.length : Int))))
   ((BK p2 v1.2.2.2).bind fun v4 =>
   (ER N p0 ((Ab.mk v1.1 v1.2.1 v1.2.2.1)) v4).bind fun v5 =>
   AL ((v5.2 != 0))
    (some ((Ab.mk (([] : List Int)) (([] : List Int)) (([] : List Int))), false))
    ((Eh N p0 v5.1).bind fun v7 =>
    Bf (fun (v8 : Bool) =>
     AL v8
      (some ((Ab.mk (([] : List Int)) (([] : List Int)) (([] : List Int))), false))
      (C7 N p0 p2 j1 n1 (v5.1.fe, v5.1.fa, v5.1.fd, (wI .i64 (v1.2.2.2 + 1)))))
    fun j8 =>
    AL ((v7.2 != 0))
     (j8 true)
     (j8 (!v7.1))))
   (j1 (Ab.mk v1.1 v1.2.1 v1.2.2.1))
def Cg (N : Nat) (p0 : Aa) (p1 : Ab) (p2 : List Ac) : Option (Ab × Bool) :=
 C7 N p0 p2 (fun (v2 : Ab) =>
  some (v2, true)) N (p1.fe, p1.fa, p1.fd, 0)
def AT (_ : Nat) (p0 : List Ac) : Option ((List Ac)) :=
 (Dl ((([] : List Ac)).length + p0.length ≤ Dx)).bind fun _ =>
 some ((([] : List Ac)) ++ p0)
def Ev (_ : Nat) (p0 : Int) : Option Bool :=
 some ((p0 != p0))
def D2 (N : Nat) (p0 : Int) (p1 : Int) : Option Int :=
 (Ev N p0).bind fun v1 =>
 (Ev N p1).bind fun v2 =>
 AL v1
  (AL v2
   (some 0)
   (some ((-1))))
  (AL v2
   (some 1)
   (AL ((decide (p0 < p1)))
    (some ((-1)))
    (AL ((decide (p1 < p0)))
     (some 1)
     (some 0))))
def BQ (N : Nat) (p0 : List Int) (p1 : List Int) (j1 : Unit → Option Int) : Nat → Int → Option Int
 | 0, _ => none
 | n1 + 1, v1 =>
  AL ((decide (v1 < (p0.length : Int))))
   ((BK p0 v1).bind fun v4 =>
   AL ((decide ((p1.length : Int) ≤ v1)))
    (some 1)
    ((BK p1 v1).bind fun v6 =>
    (D2 N v4 v6).bind fun v7 =>
    AL ((v7 != 0))
     (some v7)
     (BQ N p0 p1 j1 n1 (wI .i64 (v1 + 1)))))
   (j1 ())
def B8 (N : Nat) (p0 : List Int) (p1 : List Int) : Option Int :=
 BQ N p0 p1 (fun (_ : Unit) =>
  AL ((decide ((p0.length : Int) < (p1.length : Int))))
   (some ((-1)))
   (some 0)) N 0
def DE (_ : Nat) (p0 : Int) : Option Bool :=
 some ((p0 != p0))
def C4 (N : Nat) (p0 : Int) (p1 : Int) : Option Int :=
 (DE N p0).bind fun v1 =>
 (DE N p1).bind fun v2 =>
 AL v1
  (AL v2
   (some 0)
   (some ((-1))))
  (AL v2
   (some 1)
   (AL ((decide (p0 < p1)))
    (some ((-1)))
    (AL ((decide (p1 < p0)))
     (some 1)
     (some 0))))
def Bc (N : Nat) (p0 : List Int) (p1 : List Int) (j1 : Unit → Option Int) : Nat → Int → Option Int
 | 0, _ => none
 | n1 + 1, v1 =>
  AL ((decide (v1 < (p0.length : Int))))
   ((BK p0 v1).bind fun v4 =>
   AL ((decide ((p1.length : Int) ≤ v1)))
    (some 1)
    ((BK p1 v1).bind fun v6 =>
    (C4 N v4 v6).bind fun v7 =>
    AL ((v7 != 0))
     (some v7)
     (Bc N p0 p1 j1 n1 (wI .i64 (v1 + 1)))))
   (j1 ())
def BM (N : Nat) (p0 : List Int) (p1 : List Int) : Option Int :=
 Bc N p0 p1 (fun (_ : Unit) =>
  AL ((decide ((p0.length : Int) < (p1.length : Int))))
   (some ((-1)))
   (some 0)) N 0
def DX (N : Nat) (p0 : List Int) (j1 : Unit → Option Int) : Nat → Int → Option Int
 | 0, _ => none
 | n1 + 1, v1 =>
  AL ((decide (v1 < (p0.length : Int))))
   ((BK p0 v1).bind fun v4 =>
   AL ((v4 != 0))
    (some v4)
    (DX N p0 j1 n1 (wI .i64 (v1 + 1))))
   (j1 ())
def FE (N : Nat) (p0 : List Int) : Option Int :=
 DX N p0 (fun (_ : Unit) =>
  some 0) N 0
def Ew (N : Nat) (p0 : Ab) (p1 : Ab) : Option Int :=
 (B8 N p0.fe p1.fe).bind fun v1 =>
 (B8 N p0.fa p1.fa).bind fun v2 =>
 (BM N p0.fd p1.fd).bind fun v3 =>
 (FE N (([v1, v2, v3] : List Int))).bind fun v4 =>
 some v4
def Ff (N : Nat) (p0 : List Ac) (p1 : List Int) (p2 : List Int) (p3 : List Int) (p4 : List Ar) (p5 : List Int) (p6 : List Int) (p7 : List Int) (p8 : List Int) (p9 : List Int) (p10 : List Int) (p11 : Option (List Ac)) : Option (Bool × (Option (List Ac))) :=
 (Cg N ((Aa.mk p1 p2 p3 p4)) ((Ab.mk p5 p6 p7)) p0).bind fun v1 =>
 Bf (fun (v2 : Bool) =>
  AL v2
   (some (false, (some p0)))
   (some (true, p11)))
 fun j2 =>
 AL ((!v1.2))
  (j2 true)
  ((Ew N v1.1 ((Ab.mk p8 p9 p10))).bind fun v4 =>
  j2 (v4 != 0))
def BI (_ : Nat) (p0 : List Ac) (p1 : Int) (p2 : Int) : Option (Nat × (List Ac)) :=
 (Dl ((0 : Int) ≤ p1 ∧ (p1).toNat ≤ (p2).toNat ∧ 0 ≤ p2 ∧ (p2).toNat ≤ ((p0.length : Int)).toNat ∧ 0 ≤ (p0.length : Int) ∧ ((p0.length : Int)).toNat ≤ p0.length)).bind fun _ =>
 AL ((p1 == p2))
  (some (p0.length, p0))
  ((Dl ((0 : Int) ≤ p1 ∧ 0 ≤ (p1).toNat ∧ (p1).toNat ≤ p0.length)).bind fun _ =>
  (Dl ((0 : Int) ≤ p2 ∧ (p2).toNat ≤ p0.length ∧ p0.length ≤ p0.length)).bind fun _ =>
  (Dl ((p1).toNat + (((p0.drop ((p2).toNat)).take ((p0.length - (p2).toNat)))).length ≤ p0.length)).bind fun _ =>
  (Dl ((0 : Int) ≤ (((((p1).toNat + (((p0.drop ((p2).toNat)).take ((p0.length - (p2).toNat)))).length)) : Nat) : Int) ∧ (0 : Int) ≤ (p0.length : Int) ∧ ((((((p1).toNat + (((p0.drop ((p2).toNat)).take ((p0.length - (p2).toNat)))).length)) : Nat) : Int)).toNat ≤ ((p0.length : Int)).toNat ∧ ((p0.length : Int)).toNat ≤ (Gq p0 (0 + ((p1).toNat)) (((p0.drop ((p2).toNat)).take ((p0.length - (p2).toNat))))).length)).bind fun _ =>
  some (((p1).toNat + (((p0.drop ((p2).toNat)).take ((p0.length - (p2).toNat)))).length), Gq (Gq p0 (0 + ((p1).toNat)) (((p0.drop ((p2).toNat)).take ((p0.length - (p2).toNat))))) (((((((p1).toNat + (((p0.drop ((p2).toNat)).take ((p0.length - (p2).toNat)))).length)) : Nat) : Int)).toNat) (List.replicate ((((p0.length : Int)).toNat - ((((((p1).toNat + (((p0.drop ((p2).toNat)).take ((p0.length - (p2).toNat)))).length)) : Nat) : Int)).toNat)) ((Ac.mk 0 0 0)))))
def CV (N : Nat) (p0 : List Ac) (p1 : List Ac) (p2 : List Int) (p3 : List Int) (p4 : List Int) (p5 : List Ar) (p6 : List Int) (p7 : List Int) (p8 : List Int) (p9 : List Int) (p10 : List Int) (p11 : List Int) (rc : (List Ac) → (List Ac) → (List Int) → (List Int) → (List Int) → (List Ar) → (List Int) → (List Int) → (List Int) → (List Int) → (List Int) → (List Int) → (Option (List Ac)) → Option (Bool × (Option (List Ac)))) (j3 : ((Option (List Ac))) → Option (Bool × (Option (List Ac)))) : Nat → ((Option (List Ac)) × Int) → Option (Bool × (Option (List Ac)))
 | 0, _ => none
 | n3 + 1, v3 =>
  AL ((decide (v3.2 < (p1.length : Int))))
   ((BK p1 v3.2).bind fun v6 =>
   (AT N p0).bind fun v7 =>
   (Dl (v7.length + (([v6] : List Ac)).length ≤ Dx)).bind fun _ =>
   (AT N p1).bind fun v9 =>
   (BI N v9 v3.2 ((wI .i64 (v3.2 + 1)))).bind fun v10 =>
   (Dl (v10.1 ≤ v10.2.length)).bind fun _ =>
   (rc ((v7 ++ (([v6] : List Ac)))) ((v10.2.take v10.1)) p2 p3 p4 p5 p6 p7 p8 p9 p10 p11 v3.1).bind fun v13 =>
   AL ((!v13.1))
    (some (false, v13.2))
    (CV N p0 p1 p2 p3 p4 p5 p6 p7 p8 p9 p10 p11 rc j3 n3 (v13.2, (wI .i64 (v3.2 + 1)))))
   (j3 v3.1)
def En (N : Nat) (rc : (List Ac) → (List Ac) → (List Int) → (List Int) → (List Int) → (List Ar) → (List Int) → (List Int) → (List Int) → (List Int) → (List Int) → (List Int) → (Option (List Ac)) → Option (Bool × (Option (List Ac)))) (p0 : List Ac) (p1 : List Ac) (p2 : List Int) (p3 : List Int) (p4 : List Int) (p5 : List Ar) (p6 : List Int) (p7 : List Int) (p8 : List Int) (p9 : List Int) (p10 : List Int) (p11 : List Int) (p12 : Option (List Ac)) : Option (Bool × (Option (List Ac))) :=
 AL (((p1.length : Int) == 0))
  ((Ff N p0 p2 p3 p4 p5 p6 p7 p8 p9 p10 p11 p12).bind fun v2 =>
  some (v2.1, v2.2))
  (CV N p0 p1 p2 p3 p4 p5 p6 p7 p8 p9 p10 p11 rc (fun (v4 : (Option (List Ac))) =>
   some (true, v4)) N (p12, 0))
def CB (N : Nat) : Nat → (List Ac) → (List Ac) → (List Int) → (List Int) → (List Int) → (List Ar) → (List Int) → (List Int) → (List Int) → (List Int) → (List Int) → (List Int) → (Option (List Ac)) → Option (Bool × (Option (List Ac)))
 | 0, _, _, _, _, _, _, _, _, _, _, _, _, _ => none
 | k + 1, p0, p1, p2, p3, p4, p5, p6, p7, p8, p9, p10, p11, p12 => En N (CB N k) p0 p1 p2 p3 p4 p5 p6 p7 p8 p9 p10 p11 p12
def Gd (N : Nat) (p0 : List Ac) (p1 : List Ac) (p2 : List Int) (p3 : List Int) (p4 : List Int) (p5 : List Ar) (p6 : List Int) (p7 : List Int) (p8 : List Int) (p9 : List Int) (p10 : List Int) (p11 : List Int) (p12 : Option (List Ac)) : Option (Bool × (Option (List Ac))) := CB N N p0 p1 p2 p3 p4 p5 p6 p7 p8 p9 p10 p11 p12
def Fo (N : Nat) (p0 : Aa) (p1 : Ab) (p2 : List Ac) : Option ((List Ac) × Int) :=
 (Eh N p0 p1).bind fun v1 =>
 AL ((v1.2 != 0))
  (some (([] : List Ac), v1.2))
  ((FK N p2).bind fun v3 =>
  AL ((v3 != 0))
   (some (([] : List Ac), v3))
   ((Cg N p0 p1 p2).bind fun v5 =>
   Bf (fun (v6 : Bool) =>
    AL v6
     ((AT N p2).bind fun v9 =>
     some (v9, 0))
     ((Gd N (([] : List Ac)) p2 p0.fb p0.fi p0.fo p0.fc p1.fe p1.fa p1.fd v5.1.fe v5.1.fa v5.1.fd ((none : Option (List Ac)))).bind fun v10 =>
     (Dl (UQ v10.2 = true)).bind fun _ =>
     AL v10.2.isNone
      (some (([] : List Ac), 15))
      (some ((v10.2.getD []), 0))))
   fun j6 =>
   AL ((!v1.1))
    (j6 true)
    (j6 (!v5.2))))
def DW (N : Nat) (p0 : Aa) (p1 : Ab) (p2 : List Ac) : Option (Bool × Int) :=
 (D6 N p0 p1).bind fun v1 =>
 AL ((v1 != 0))
  (some (false, v1))
  ((Fo N p0 p1 p2).bind fun v3 =>
  some ((v3.2 == 15), 0))
def Es (N : Nat) (p0 : Aa) (v5 : (List Int) × (List Int) × (List Int) × (List Ac) × (List (List Ac))) (j8 : Int → Option ((List (List Ac)) × Int)) : Nat → Int → Option ((List (List Ac)) × Int)
 | 0, _ => none
 | n8 + 1, v8 =>
  AL ((decide (1 < v8)))
   ((Dl ((0 : Int) ≤ v8 ∧ 0 ≤ (v8).toNat ∧ (v8).toNat ≤ v5.2.2.2.1.length)).bind fun _ =>
   (DW N p0 ((Ab.mk v5.1 v5.2.1 v5.2.2.1)) (((v5.2.2.2.1.drop 0).take ((v8).toNat - 0)))).bind fun v12 =>
   AL v12.1
    (j8 v8)
    (Es N p0 v5 j8 n8 (wI .i64 (v8 - 1))))
   (j8 v8)
def Ez (N : Nat) (p0 : Aa) (j5 : ((List (List Ac))) → Option ((List (List Ac)) × Int)) : Nat → ((List Int) × (List Int) × (List Int) × (List Ac) × (List (List Ac))) → Option ((List (List Ac)) × Int)
 | 0, _ => none
 | n5 + 1, v5 =>
  AL ((decide (0 < (v5.2.2.2.1.length : Int))))
   (Es N p0 v5 (fun (v9 : Int) =>
    (Dl ((0 : Int) ≤ v9 ∧ 0 ≤ (v9).toNat ∧ (v9).toNat ≤ v5.2.2.2.1.length)).bind fun _ =>
    (AT N (((v5.2.2.2.1.drop 0).take ((v9).toNat - 0)))).bind fun v15 =>
    (Dl (v5.2.2.2.2.length + (([v15] : List (List Ac))).length ≤ Dx)).bind fun _ =>
    (Dl ((0 : Int) ≤ v9 ∧ 0 ≤ (v9).toNat ∧ (v9).toNat ≤ v5.2.2.2.1.length)).bind fun _ =>
    (Cg N p0 ((Ab.mk v5.1 v5.2.1 v5.2.2.1)) (((v5.2.2.2.1.drop 0).take ((v9).toNat - 0)))).bind fun v18 =>
    (Dl ((0 : Int) ≤ v9 ∧ (v9).toNat ≤ v5.2.2.2.1.length ∧ v5.2.2.2.1.length ≤ v5.2.2.2.1.length)).bind fun _ =>
    Ez N p0 j5 n5 (v18.1.fe, v18.1.fa, v18.1.fd, ((v5.2.2.2.1.drop (v9).toNat).take (v5.2.2.2.1.length - (v9).toNat)), v5.2.2.2.2 ++ (([v15] : List (List Ac))))) N (MZ 5 ((v5.2.2.2.1.length : Int))))
   (j5 v5.2.2.2.2)
def F2 (N : Nat) (p0 : Aa) (p1 : List Ac) : Option ((List (List Ac)) × Int) :=
 (EG N p0).bind fun v1 =>
 AL ((v1.2 != 0))
  (some (([] : List (List Ac)), v1.2))
  ((FP N p0 p1).bind fun v3 =>
  AL ((!v3))
   (some (([] : List (List Ac)), 13))
   (Ez N p0 (fun (v6 : (List (List Ac))) =>
    some (v6, 0)) N (v1.1.fe, v1.1.fa, v1.1.fd, p1, ([] : List (List Ac)))))
def BX (N : Nat) (p0 : List (List Bool)) (p1 : Int) (p2 : Int) (j2 : Unit → Option Bool) : Nat → Int → Option Bool
 | 0, _ => none
 | n2 + 1, v2 =>
  AL ((decide (v2 < p1)))
   ((BK p0 v2).bind fun v5 =>
   AL (((v5.length : Int) != p2))
    (some false)
    (BX N p0 p1 p2 j2 n2 (wI .i64 (v2 + 1))))
   (j2 ())
def CF (N : Nat) (p0 : List (List Bool)) (p1 : Int) (p2 : Int) : Option Bool :=
 AL (((p0.length : Int) != p1))
  (some false)
  (BX N p0 p1 p2 (fun (_ : Unit) =>
   some true) N 0)
def BG (N : Nat) (p1 : Ar) (j22 : Unit → Option Int) : Nat → Int → Option Int
 | 0, _ => none
 | n22 + 1, v22 =>
  AL ((decide (v22 < (p1.fm.length : Int))))
   ((BK p1.fm v22).bind fun v25 =>
   (BK v25 v22).bind fun v26 =>
   AL ((!v26))
    (some 1)
    (BG N p1 j22 n22 (wI .i64 (v22 + 1))))
   (j22 ())
def DB (N : Nat) (p0 : Aa) (p1 : Ar) : Option Int :=
 Bf (fun (v1 : Bool) =>
  AL v1
   (some 1)
   (Bf (fun (v7 : Bool) =>
    AL v7
     (some 4)
     ((BK p0.fb p1.fg).bind fun v12 =>
     (BK p0.fb p1.fk).bind fun v13 =>
     (CF N p1.fq v12 v13).bind fun v14 =>
     AL ((!v14))
      (some 6)
      (AL ((p1.ff != 4))
       (AL (((p1.fm.length : Int) != 0))
        (some 6)
        (some 0))
       ((BK p0.fb p1.fg).bind fun v18 =>
       (BK p0.fb p1.fg).bind fun v19 =>
       (CF N p1.fm v18 v19).bind fun v20 =>
       AL ((!v20))
        (some 6)
        (BG N p1 (fun (_ : Unit) =>
         some 0) N 0)))))
   fun j7 =>
   AL ((decide (p1.fg < 0)))
    (j7 true)
    (AL ((decide ((p0.fb.length : Int) ≤ p1.fg)))
     (j7 true)
     (AL ((decide (p1.fk < 0)))
      (j7 true)
      (j7 (decide ((p0.fb.length : Int) ≤ p1.fk)))))))
 fun j1 =>
 AL ((decide (p1.ff < 1)))
  (j1 true)
  (AL ((decide (4 < p1.ff)))
   (j1 true)
   (AL p1.fp
    ((AS N p1).bind fun v5 =>
    j1 v5)
    (j1 false)))
def A2 (N : Nat) (p0 : Aa) (j7 : Unit → Option Int) : Nat → Int → Option Int
 | 0, _ => none
 | n7 + 1, v7 =>
  AL ((decide (v7 < (p0.fb.length : Int))))
   ((BK p0.fb v7).bind fun v10 =>
   Bf (fun (v11 : Bool) =>
    AL v11
     (some 7)
     (A2 N p0 j7 n7 (wI .i64 (v7 + 1))))
   fun j11 =>
   AL ((decide (v10 < 1)))
    (j11 true)
    (AL ((decide (6 < v10)))
     (j11 true)
     ((BK p0.fi v7).bind fun v14 =>
     AL ((decide (v14 < 0)))
      (j11 true)
      ((BK p0.fi v7).bind fun v16 =>
      AL ((decide (v10 ≤ v16)))
       (j11 true)
       ((BK p0.fo v7).bind fun v18 =>
       AL ((decide (v18 < 0)))
        (j11 true)
        ((BK p0.fo v7).bind fun v20 =>
        j11 (decide (v10 ≤ v20))))))))
   (j7 ())
def AZ (N : Nat) (p0 : Aa) (j22 : Unit → Option Int) : Nat → Int → Option Int
 | 0, _ => none
 | n22 + 1, v22 =>
  AL ((decide (v22 < (p0.fc.length : Int))))
   ((BK p0.fc v22).bind fun v25 =>
   (DB N p0 v25).bind fun v26 =>
   AL ((v26 != 0))
    (some v26)
    (AZ N p0 j22 n22 (wI .i64 (v22 + 1))))
   (j22 ())
def BY (N : Nat) (p0 : Aa) : Option Int :=
 Bf (fun (v1 : Bool) =>
  AL v1
   (some 3)
   (Bf (fun (v4 : Bool) =>
    AL v4
     (some 6)
     (A2 N p0 (fun (_ : Unit) =>
      AZ N p0 (fun (_ : Unit) =>
       some 0) N 0) N 0))
   fun j4 =>
   AL (((p0.fi.length : Int) != (p0.fb.length : Int)))
    (j4 true)
    (j4 ((p0.fo.length : Int) != (p0.fb.length : Int)))))
 fun j1 =>
 AL ((decide (6 < (p0.fb.length : Int))))
  (j1 true)
  (j1 (decide (12 < (p0.fc.length : Int))))
def BJ (N : Nat) (p0 : Aa) (j3 : ((List Int) × (List Int)) → Option (Ab × Int)) : Nat → ((List Int) × (List Int) × Int) → Option (Ab × Int)
 | 0, _ => none
 | n3 + 1, v3 =>
  AL ((decide (v3.2.2 < (p0.fb.length : Int))))
   ((BK p0.fi v3.2.2).bind fun v6 =>
   (Dl (v3.1.length + (([v6] : List Int)).length ≤ Dx)).bind fun _ =>
   (Dl (v3.2.1.length + (([(-1)] : List Int)).length ≤ Dx)).bind fun _ =>
   BJ N p0 j3 n3 (v3.1 ++ (([v6] : List Int)), v3.2.1 ++ (([(-1)] : List Int)), (wI .i64 (v3.2.2 + 1))))
   (j3 (v3.1, v3.2.1))
def A3 (N : Nat) (p0 : Aa) (j9 : ((List Int)) → Option (Ab × Int)) : Nat → ((List Int) × Int) → Option (Ab × Int)
 | 0, _ => none
 | n9 + 1, v9 =>
  AL ((decide (v9.2 < (p0.fc.length : Int))))
   (Bf (fun (v12 : Int) =>
    (Dl (v9.1.length + (([v12] : List Int)).length ≤ Dx)).bind fun _ =>
    A3 N p0 j9 n9 (v9.1 ++ (([v12] : List Int)), (wI .i64 (v9.2 + 1))))
   fun j12 =>
   (BK p0.fc v9.2).bind fun v13 =>
   (AS N v13).bind fun v14 =>
   AL v14
    ((BK p0.fc v9.2).bind fun v16 =>
    (BK p0.fi v16.fg).bind fun v17 =>
    (Dl (0 ≤ v17)).bind fun _ =>
    j12 (C0 .u8 1 v17))
    (j12 0))
   (j9 v9.1)
def CO (N : Nat) (p0 : Aa) : Option (Ab × Int) :=
 (BY N p0).bind fun v1 =>
 AL ((v1 != 0))
  (some ((Ab.mk (([] : List Int)) (([] : List Int)) (([] : List Int))), v1))
  (BJ N p0 (fun (v4 : (List Int) × (List Int)) =>
   A3 N p0 (fun (v10 : (List Int)) =>
    some ((Ab.mk v4.1 v4.2 v10), 0)) N (([] : List Int), 0)) N (([] : List Int), ([] : List Int), 0))
def E3 (N : Nat) (p0 : Aa) (p1 : List (List Ac)) (j5 : ((List Ab)) → Option ((List Ab) × Int)) : Nat → (Ab × (List Ab) × Int) → Option ((List Ab) × Int)
 | 0, _ => none
 | n5 + 1, v5 =>
  AL ((decide (v5.2.2 < (p1.length : Int))))
   ((BK p1 v5.2.2).bind fun v8 =>
   (DW N p0 v5.1 v8).bind fun v9 =>
   Bf (fun (v10 : Bool) =>
    AL v10
     (some (([] : List Ab), 13))
     ((Cg N p0 v5.1 v8).bind fun v13 =>
     (Dl (v5.2.1.length + (([v13.1] : List Ab)).length ≤ Dx)).bind fun _ =>
     E3 N p0 p1 j5 n5 (v13.1, v5.2.1 ++ (([v13.1] : List Ab)), (wI .i64 (v5.2.2 + 1)))))
   fun j10 =>
   AL ((v9.2 != 0))
    (j10 true)
    (j10 (!v9.1)))
   (j5 v5.2.1)
def Gr (N : Nat) (p0 : Aa) (p1 : List (List Ac)) : Option ((List Ab) × Int) :=
 (Ch N p0).bind fun v1 =>
 AL ((v1 != 0))
  (some (([] : List Ab), v1))
  ((EG N p0).bind fun v3 =>
  AL ((v3.2 != 0))
   (some (([] : List Ab), v3.2))
   (E3 N p0 p1 (fun (v6 : (List Ab)) =>
    some (v6, 0)) N (v3.1, ([v3.1] : List Ab), 0)))
def DS (N : Nat) (p0 : List Ac) (p1 : List Ac) (j2 : Unit → Option Bool) : Nat → Int → Option Bool
 | 0, _ => none
 | n2 + 1, v2 =>
  AL ((decide (v2 < (p0.length : Int))))
   ((BK p0 v2).bind fun v5 =>
   (BK p1 v2).bind fun v6 =>
   AL ((!((v5.ff == v6.ff) && ((v5.fh == v6.fh) && ((v5.fj == v6.fj) && true)))))
    (some false)
    (DS N p0 p1 j2 n2 (wI .i64 (v2 + 1))))
   (j2 ())
def Em (N : Nat) (p0 : List Ac) (p1 : List Ac) : Option Bool :=
 AL (((p0.length : Int) != (p1.length : Int)))
  (some false)
  (DS N p0 p1 (fun (_ : Unit) =>
   some true) N 0)
def DU (N : Nat) (p0 : List (List Ac)) (p1 : List (List Ac)) (j2 : Unit → Option Bool) : Nat → Int → Option Bool
 | 0, _ => none
 | n2 + 1, v2 =>
  AL ((decide (v2 < (p0.length : Int))))
   ((BK p0 v2).bind fun v5 =>
   (BK p1 v2).bind fun v6 =>
   (Em N v5 v6).bind fun v7 =>
   AL ((!v7))
    (some false)
    (DU N p0 p1 j2 n2 (wI .i64 (v2 + 1))))
   (j2 ())
def Fz (N : Nat) (p0 : List (List Ac)) (p1 : List (List Ac)) : Option Bool :=
 AL (((p0.length : Int) != (p1.length : Int)))
  (some false)
  (DU N p0 p1 (fun (_ : Unit) =>
   some true) N 0)
def Hz (N : Nat) (p0 : Aa) (p1 : List (List Ac)) : Option Bool :=
 (Gr N p0 p1).bind fun v1 =>
 AL ((v1.2 != 0))
  (some false)
  ((BK v1.1 0).bind fun v3 =>
  (Eh N p0 v3).bind fun v4 =>
  Bf (fun (v5 : Bool) =>
   some v5)
  fun j5 =>
  AL ((v4.2 == 0))
   (AL v4.1
    ((BK v1.1 ((wI .i64 ((v1.1.length : Int) - 1)))).bind fun v8 =>
    (Fa N p0 v8).bind fun v9 =>
    j5 v9)
    (j5 false))
   (j5 false))
def EJ (N : Nat) (v4 : List Ac) (j5 : Int → Option Int) : Nat → (Int × Int) → Option Int
 | 0, _ => none
 | n5 + 1, v5 =>
  AL ((decide (v5.2 < (v4.length : Int))))
   (EJ N v4 j5 n5 ((MZ 1000000000000000 ((wI .i64 (v5.1 * (MZ ((wI .i64 (v5.2 + 1))) 1000))))), (wI .i64 (v5.2 + 1))))
   (j5 v5.1)
def EE (N : Nat) (p0 : List (List Ac)) (j1 : Int → Option Int) : Nat → (Int × Int) → Option Int
 | 0, _ => none
 | n1 + 1, v1 =>
  AL ((decide (v1.2 < (p0.length : Int))))
   ((BK p0 v1.2).bind fun v4 =>
   EJ N v4 (fun (v6 : Int) =>
    EE N p0 j1 n1 (v6, (wI .i64 (v1.2 + 1)))) N (v1.1, 0))
   (j1 v1.1)
def GW (N : Nat) (p0 : List (List Ac)) : Option Int :=
 EE N p0 (fun (v2 : Int) =>
  some v2) N (1, 0)
def DD (N : Nat) : Option Bool :=
 (EL N).bind fun v1 =>
 (F2 N v1.1 v1.2).bind fun v2 =>
 (CO N v1.1).bind fun v3 =>
 (Fo N v1.1 v3.1 v1.2).bind fun v4 =>
 (Dl ((0 : Int) ≤ 2 ∧ 0 ≤ (2 : Int).toNat ∧ (2 : Int).toNat ≤ v1.2.length)).bind fun _ =>
 (DW N v1.1 v3.1 (((v1.2.drop 0).take ((2 : Int).toNat - 0)))).bind fun v6 =>
 (Gr N v1.1 v2.1).bind fun v7 =>
 Bf (fun (v8 : Bool) =>
  some v8)
 fun j8 =>
 AL ((v2.2 == 0))
  ((Dl ((0 : Int) ≤ 2 ∧ 0 ≤ (2 : Int).toNat ∧ (2 : Int).toNat ≤ v1.2.length)).bind fun _ =>
  (Dl ((0 : Int) ≤ 2 ∧ (2 : Int).toNat ≤ v1.2.length ∧ v1.2.length ≤ v1.2.length)).bind fun _ =>
  (Fz N v2.1 (([((v1.2.drop 0).take ((2 : Int).toNat - 0)), ((v1.2.drop (2 : Int).toNat).take (v1.2.length - (2 : Int).toNat))] : List (List Ac)))).bind fun v12 =>
  AL v12
   (AL ((v4.2 == 0))
    ((BK v1.2 0).bind fun v15 =>
    (BK v1.2 2).bind fun v16 =>
    (BK v1.2 3).bind fun v17 =>
    (BK v1.2 1).bind fun v18 =>
    (Em N v4.1 (([v15, v16, v17, v18] : List Ac))).bind fun v19 =>
    AL v19
     (AL v6.1
      (AL ((v6.2 == 0))
       (AL ((v7.2 == 0))
        (AL (((v7.1.length : Int) == 3))
         ((Hz N v1.1 v2.1).bind fun v25 =>
         AL v25
          ((GW N v2.1).bind fun v27 =>
          j8 (v27 == 4))
          (j8 false))
         (j8 false))
        (j8 false))
       (j8 false))
      (j8 false))
     (j8 false))
    (j8 false))
   (j8 false))
  (j8 false)
def BA (_ : Nat) (p0 : Ab) (p1 : Int) : Option Int :=
 (BK p0.fe p1).bind fun v1 =>
 (Dl (0 ≤ v1)).bind fun _ =>
 Bf (fun (v3 : Int) =>
  some v3)
 fun j3 =>
 (BK p0.fa p1).bind fun v4 =>
 AL ((decide (0 ≤ v4)))
  ((BK p0.fa p1).bind fun v6 =>
  (Dl (0 ≤ v6)).bind fun _ =>
  j3 (ME .u8 ((C0 .u8 1 v1)) ((C0 .u8 1 v6))))
  (j3 (C0 .u8 1 v1))
def BL (N : Nat) (p0 : Aa) (p1 : Ab) (j7 : Unit → Option Int) : Nat → Int → Option Int
 | 0, _ => none
 | n7 + 1, v7 =>
  AL ((decide (v7 < (p0.fb.length : Int))))
   (Bf (fun (v10 : Bool) =>
    AL v10
     (some 7)
     ((BK p1.fe v7).bind fun v21 =>
     (BK p1.fa v7).bind fun v22 =>
     AL ((v21 == v22))
      (some 1)
      (BL N p0 p1 j7 n7 (wI .i64 (v7 + 1)))))
   fun j10 =>
   (BK p1.fe v7).bind fun v11 =>
   AL ((decide (v11 < 0)))
    (j10 true)
    ((BK p1.fe v7).bind fun v13 =>
    (BK p0.fb v7).bind fun v14 =>
    AL ((decide (v14 ≤ v13)))
     (j10 true)
     ((BK p1.fa v7).bind fun v16 =>
     AL ((decide (v16 < (-1))))
      (j10 true)
      ((BK p1.fa v7).bind fun v18 =>
      (BK p0.fb v7).bind fun v19 =>
      j10 (decide (v19 ≤ v18))))))
   (j7 ())
def BE (N : Nat) (p0 : Aa) (p1 : Ab) (j24 : Unit → Option Int) : Nat → Int → Option Int
 | 0, _ => none
 | n24 + 1, v24 =>
  AL ((decide (v24 < (p0.fc.length : Int))))
   ((BK p0.fc v24).bind fun v27 =>
   (BK p0.fb v27.fg).bind fun v28 =>
   (Dl (0 ≤ v28)).bind fun _ =>
   Bf (fun (v30 : Bool) =>
    AL v30
     (some 1)
     (BE N p0 p1 j24 n24 (wI .i64 (v24 + 1))))
   fun j30 =>
   (AS N v27).bind fun v31 =>
   AL ((!v31))
    ((BK p1.fd v24).bind fun v33 =>
    AL ((v33 != 0))
     (j30 true)
     ((AS N v27).bind fun v35 =>
     AL v35
      ((BK p1.fd v24).bind fun v37 =>
      AL (((Cz .u8 v37 ((wI .u8 ((C0 .u8 1 v28) - 1)))) != 0))
       (j30 true)
       ((BA N p1 v27.fg).bind fun v39 =>
       (BK p1.fd v24).bind fun v40 =>
       j30 ((Cz .u8 v39 v40) != 0)))
      (j30 false)))
    ((AS N v27).bind fun v41 =>
    AL v41
     ((BK p1.fd v24).bind fun v43 =>
     AL (((Cz .u8 v43 ((wI .u8 ((C0 .u8 1 v28) - 1)))) != 0))
      (j30 true)
      ((BA N p1 v27.fg).bind fun v45 =>
      (BK p1.fd v24).bind fun v46 =>
      j30 ((Cz .u8 v45 v46) != 0)))
     (j30 false)))
   (j24 ())
def Cw (N : Nat) (p0 : Aa) (p1 : Ab) : Option Int :=
 (BY N p0).bind fun v1 =>
 AL ((v1 != 0))
  (some v1)
  (Bf (fun (v3 : Bool) =>
   AL v3
    (some 6)
    (BL N p0 p1 (fun (_ : Unit) =>
     BE N p0 p1 (fun (_ : Unit) =>
      some 0) N 0) N 0))
  fun j3 =>
  AL (((p1.fe.length : Int) != (p0.fb.length : Int)))
   (j3 true)
   (AL (((p1.fa.length : Int) != (p0.fb.length : Int)))
    (j3 true)
    (j3 ((p1.fd.length : Int) != (p0.fc.length : Int)))))
def DC (_ : Nat) (p0 : Ac) : Option Bool :=
 Bf (fun (v1 : Bool) =>
  some v1)
 fun j1 =>
 AL ((decide (1 ≤ p0.ff)))
  (AL ((decide (p0.ff ≤ 4)))
   (AL ((decide (0 ≤ p0.fh)))
    (AL ((decide (0 ≤ p0.fj)))
     (AL ((p0.ff == 1))
      (j1 true)
      (j1 (p0.fj == 0)))
     (j1 false))
    (j1 false))
   (j1 false))
  (j1 false)
def BW (_ : Nat) (p0 : Int) (p1 : Int) : Option Bool :=
 (Dl (0 ≤ p1)).bind fun _ =>
 some (((Ft .u8 ((EA .u8 p0 p1)) 1) == 1))
def BC (N : Nat) (p0 : Aa) (p2 : Ac) (j12 : ((List Int)) → Option (Ab × Bool)) : Nat → ((List Int) × Int) → Option (Ab × Bool)
 | 0, _ => none
 | n12 + 1, v12 =>
  AL ((decide (v12.2 < (p0.fc.length : Int))))
   (Bf (fun (v15 : (List Int)) =>
    BC N p0 p2 j12 n12 (v15, (wI .i64 (v12.2 + 1))))
   fun j15 =>
   Bf (fun (v16 : Bool) =>
    AL v16
     ((BK v12.1 v12.2).bind fun v22 =>
     (Dl (0 ≤ p2.fj)).bind fun _ =>
     (BK v12.1 v12.2).bind fun _ =>
     j15 (v12.1.set ((v12.2).toNat) ((ME .u8 v22 ((C0 .u8 1 p2.fj))))))
     (j15 v12.1))
   fun j16 =>
   (BK p0.fc v12.2).bind fun v17 =>
   AL ((v17.fg == p2.fh))
    ((BK p0.fc v12.2).bind fun v19 =>
    (AS N v19).bind fun v20 =>
    j16 v20)
    (j16 false))
   (j12 v12.1)
def Bi (N : Nat) (p0 : Aa) (p1 : Ab) (p2 : Ac) (v32 : Ar) (v35 : Int) (j38 : Unit → Option (Ab × Bool)) : Nat → Int → Option (Ab × Bool)
 | 0, _ => none
 | n38 + 1, v38 =>
  (BK p0.fb v32.fg).bind fun v40 =>
  AL ((decide (v38 < v40)))
   (Bf (fun (v42 : Bool) =>
    Bf (fun (v47 : Bool) =>
     AL v47
      (some ((Ab.mk (([] : List Int)) (([] : List Int)) (([] : List Int))), false))
      (Bi N p0 p1 p2 v32 v35 j38 n38 (wI .i64 (v38 + 1))))
    fun j47 =>
    AL v42
     (AL ((v32.ff == 4))
      ((BK v32.fm v38).bind fun v50 =>
      (BK p1.fe v32.fg).bind fun v51 =>
      (BK v50 v51).bind fun v52 =>
      j47 (!v52))
      (j47 false))
     (j47 false))
   fun j42 =>
   (BK p1.fd p2.fh).bind fun v43 =>
   (BW N v43 v38).bind fun v44 =>
   AL v44
    ((BW N v35 v38).bind fun v46 =>
    j42 (!v46))
    (j42 false))
   (j38 ())
def CP (N : Nat) (p0 : Aa) (p1 : Ab) (p2 : Ac) : Option (Ab × Bool) :=
 (Dl ((([] : List Int)).length + p1.fe.length ≤ Dx)).bind fun _ =>
 (Dl ((([] : List Int)).length + p1.fa.length ≤ Dx)).bind fun _ =>
 (Dl ((([] : List Int)).length + p1.fd.length ≤ Dx)).bind fun _ =>
 Bf (fun (v4 : (List Int) × (List Int) × (List Int)) =>
  some ((Ab.mk v4.1 v4.2.1 v4.2.2), true))
 fun j4 =>
 AL ((p2.ff == 1))
  (Bf (fun (v6 : Bool) =>
   AL v6
    (some ((Ab.mk (([] : List Int)) (([] : List Int)) (([] : List Int))), false))
    ((BK ((([] : List Int)) ++ p1.fa) p2.fh).bind fun _ =>
    BC N p0 p2 (fun (v13 : (List Int)) =>
     j4 ((([] : List Int)) ++ p1.fe, ((([] : List Int)) ++ p1.fa).set ((p2.fh).toNat) p2.fj, v13)) N ((([] : List Int)) ++ p1.fd, 0)))
  fun j6 =>
  (BK p1.fa p2.fh).bind fun v7 =>
  AL ((decide (0 ≤ v7)))
   (j6 true)
   ((BK p1.fe p2.fh).bind fun v9 =>
   j6 (p2.fj == v9)))
  (AL ((p2.ff == 2))
   ((BK p1.fa p2.fh).bind fun v26 =>
   AL ((decide (v26 < 0)))
    (some ((Ab.mk (([] : List Int)) (([] : List Int)) (([] : List Int))), false))
    ((BK p1.fa p2.fh).bind fun v28 =>
    (BK ((([] : List Int)) ++ p1.fe) p2.fh).bind fun _ =>
    (BK ((([] : List Int)) ++ p1.fa) p2.fh).bind fun _ =>
    j4 (((([] : List Int)) ++ p1.fe).set ((p2.fh).toNat) v28, ((([] : List Int)) ++ p1.fa).set ((p2.fh).toNat) ((-1)), (([] : List Int)) ++ p1.fd)))
   (AL ((p2.ff == 3))
    ((BK p0.fc p2.fh).bind fun v32 =>
    (AS N v32).bind fun v33 =>
    AL ((!v33))
     (some ((Ab.mk (([] : List Int)) (([] : List Int)) (([] : List Int))), false))
     ((BA N p1 v32.fg).bind fun v35 =>
     (BK p1.fd p2.fh).bind fun v36 =>
     AL ((v36 == v35))
      (some ((Ab.mk (([] : List Int)) (([] : List Int)) (([] : List Int))), false))
      (Bi N p0 p1 p2 v32 v35 (fun (_ : Unit) =>
       (BK ((([] : List Int)) ++ p1.fd) p2.fh).bind fun _ =>
       j4 ((([] : List Int)) ++ p1.fe, (([] : List Int)) ++ p1.fa, ((([] : List Int)) ++ p1.fd).set ((p2.fh).toNat) v35)) N 0)))
    ((BK p1.fa p2.fh).bind fun v55 =>
    AL ((decide (v55 < 0)))
     (some ((Ab.mk (([] : List Int)) (([] : List Int)) (([] : List Int))), false))
     ((BK ((([] : List Int)) ++ p1.fa) p2.fh).bind fun _ =>
     j4 ((([] : List Int)) ++ p1.fe, ((([] : List Int)) ++ p1.fa).set ((p2.fh).toNat) ((-1)), (([] : List Int)) ++ p1.fd)))))
def DF (N : Nat) (p0 : Aa) (p1 : Ab) (p2 : Ac) : Option (Ab × Int) :=
 (Cw N p0 p1).bind fun v1 =>
 AL ((v1 != 0))
  (some ((Ab.mk (([] : List Int)) (([] : List Int)) (([] : List Int))), v1))
  ((DC N p2).bind fun v3 =>
  AL ((!v3))
   (some ((Ab.mk (([] : List Int)) (([] : List Int)) (([] : List Int))), 1))
   (Bf (fun (v5 : Bool) =>
    AL v5
     (some ((Ab.mk (([] : List Int)) (([] : List Int)) (([] : List Int))), 4))
     (Bf (fun (v11 : Bool) =>
      AL v11
       (some ((Ab.mk (([] : List Int)) (([] : List Int)) (([] : List Int))), 4))
       ((CP N p0 p1 p2).bind fun v15 =>
       AL ((!v15.2))
        (some ((Ab.mk (([] : List Int)) (([] : List Int)) (([] : List Int))), 11))
        (some (v15.1, 0))))
     fun j11 =>
     AL ((p2.ff == 1))
      ((BK p0.fb p2.fh).bind fun v13 =>
      j11 (decide (v13 ≤ p2.fj)))
      (j11 false)))
   fun j5 =>
   AL ((p2.ff == 3))
    (AL ((decide ((p0.fc.length : Int) ≤ p2.fh)))
     (j5 true)
     (AL ((p2.ff != 3))
      (j5 (decide ((p0.fb.length : Int) ≤ p2.fh)))
      (j5 false)))
    (AL ((p2.ff != 3))
     (j5 (decide ((p0.fb.length : Int) ≤ p2.fh)))
     (j5 false))))
def Dj (_ : Nat) (p0 : Ab) : Option Ab :=
 (Dl ((([] : List Int)).length + p0.fe.length ≤ Dx)).bind fun _ =>
 (Dl ((([] : List Int)).length + p0.fa.length ≤ Dx)).bind fun _ =>
 (Dl ((([] : List Int)).length + p0.fd.length ≤ Dx)).bind fun _ =>
 some ((Ab.mk ((([] : List Int)) ++ p0.fe) ((([] : List Int)) ++ p0.fa) ((([] : List Int)) ++ p0.fd)))
def BZ (N : Nat) (p0 : Ab) (j1 : Int → Option ((List Ab))) : Nat → (Int × Int) → Option ((List Ab))
 | 0, _ => none
 | n1 + 1, v1 =>
  AL ((decide (v1.2 < (p0.fa.length : Int))))
   (Bf (fun (v4 : Int) =>
    BZ N p0 j1 n1 (v4, (wI .i64 (v1.2 + 1))))
   fun j4 =>
   (BK p0.fa v1.2).bind fun v5 =>
   AL ((decide (0 ≤ v5)))
    (j4 (wI .i64 (v1.1 + 1)))
    (j4 v1.1))
   (j1 v1.1)
def BB (N : Nat) (p0 : Ab) (v7 : (List Ab) × Int) (j12 : ((List Int)) → Option ((List Ab))) : Nat → ((List Int) × Int × Int) → Option ((List Ab))
 | 0, _ => none
 | n12 + 1, v12 =>
  AL ((decide (v12.2.2 < (p0.fa.length : Int))))
   (Bf (fun (v15 : (List Int) × Int) =>
    BB N p0 v7 j12 n12 (v15.1, v15.2, (wI .i64 (v12.2.2 + 1))))
   fun j15 =>
   (BK p0.fa v12.2.2).bind fun v16 =>
   AL ((decide (v16 < 0)))
    (j15 (v12.1, v12.2.1))
    (Bf (fun (v18 : (List Int)) =>
     j15 (v18, (wI .i64 (v12.2.1 + 1))))
    fun j18 =>
    (Dl (0 ≤ v12.2.1)).bind fun _ =>
    AL (((Int.tmod ((EA .i64 v7.2 v12.2.1)) 2) == 1))
     ((BK v12.1 v12.2.2).bind fun _ =>
     j18 (v12.1.set ((v12.2.2).toNat) ((-1))))
     (j18 v12.1)))
   (j12 v12.1)
def Be (N : Nat) (p0 : Ab) (v2 : Int) (j7 : ((List Ab)) → Option ((List Ab))) : Nat → ((List Ab) × Int) → Option ((List Ab))
 | 0, _ => none
 | n7 + 1, v7 =>
  (Dl (0 ≤ v2)).bind fun _ =>
  AL ((decide (v7.2 < (C0 .i64 1 v2))))
   ((Dj N p0).bind fun v11 =>
   BB N p0 v7 (fun (v13 : (List Int)) =>
    (Dl (v7.1.length + (([(Ab.mk v11.fe v13 v11.fd)] : List Ab)).length ≤ Dx)).bind fun _ =>
    Be N p0 v2 j7 n7 (v7.1 ++ (([(Ab.mk v11.fe v13 v11.fd)] : List Ab)), (wI .i64 (v7.2 + 1)))) N (v11.fa, 0, 0))
   (j7 v7.1)
def Dq (N : Nat) (p0 : Ab) : Option ((List Ab)) :=
 BZ N p0 (fun (v2 : Int) =>
  Be N p0 v2 (fun (v8 : (List Ab)) =>
   some v8) N (([] : List Ab), 0)) N (0, 0)
def D3 (N : Nat) (p0 : Aa) (p1 : Ab) : Option ((List Ab) × Int) :=
 (Cw N p0 p1).bind fun v1 =>
 AL ((v1 != 0))
  (some (([] : List Ab), v1))
  ((Dq N p1).bind fun v3 =>
  some (v3, 0))
def Ba (N : Nat) (p0 : Aa) (p1 : Ab) (v1 : (List Af) × Int) (v4 : Ar) (v10 : (List Af) × Int) (j17 : ((List Af) × Bool) → Option ((List Af))) : Nat → ((List Af) × Bool × Int) → Option ((List Af))
 | 0, _ => none
 | n17 + 1, v17 =>
  (BK p0.fb v4.fk).bind fun v19 =>
  AL ((decide (v17.2.2 < v19)))
   (Bf (fun (v21 : (List Af) × Bool) =>
    Ba N p0 p1 v1 v4 v10 j17 n17 (v21.1, v21.2, (wI .i64 (v17.2.2 + 1))))
   fun j21 =>
   (BA N p1 v4.fk).bind fun v22 =>
   (BW N v22 v17.2.2).bind fun v23 =>
   AL ((!v23))
    (j21 (v17.1, v17.2.1))
    (Bf (fun (v25 : Bool) =>
     Bf (fun (v29 : Bool) =>
      AL v29
       ((Dl (v17.1.length + (([(Af.mk v1.2 v10.2 v17.2.2)] : List Af)).length ≤ Dx)).bind fun _ =>
       j21 (v17.1 ++ (([(Af.mk v1.2 v10.2 v17.2.2)] : List Af)), v25))
       (j21 (v17.1, v25)))
     fun j29 =>
     AL ((!v4.fp))
      ((BK v4.fq v10.2).bind fun v31 =>
      (BK v31 v17.2.2).bind fun v32 =>
      j29 (!v32))
      (j29 false))
    fun j25 =>
    AL v17.2.1
     (j25 true)
     ((BK v4.fq v10.2).bind fun v27 =>
     (BK v27 v17.2.2).bind fun v28 =>
     j25 v28)))
   (j17 (v17.1, v17.2.1))
def Bj (N : Nat) (p0 : Aa) (p1 : Ab) (v1 : (List Af) × Int) (v4 : Ar) (v6 : Int) (j10 : ((List Af)) → Option ((List Af))) : Nat → ((List Af) × Int) → Option ((List Af))
 | 0, _ => none
 | n10 + 1, v10 =>
  (BK p0.fb v4.fg).bind fun v12 =>
  AL ((decide (v10.2 < v12)))
   (Bf (fun (v14 : (List Af)) =>
    Bj N p0 p1 v1 v4 v6 j10 n10 (v14, (wI .i64 (v10.2 + 1))))
   fun j14 =>
   (BW N v6 v10.2).bind fun v15 =>
   AL ((!v15))
    (j14 v10.1)
    (Ba N p0 p1 v1 v4 v10 (fun (v18 : (List Af) × Bool) =>
     Bf (fun (v35 : Bool) =>
      AL v35
       ((Dl (v18.1.length + (([(Af.mk v1.2 v10.2 ((-1)))] : List Af)).length ≤ Dx)).bind fun _ =>
       j14 (v18.1 ++ (([(Af.mk v1.2 v10.2 ((-1)))] : List Af))))
       (j14 v18.1))
     fun j35 =>
     AL v4.fp
      (j35 (!v18.2))
      (j35 false)) N (v10.1, false, 0)))
   (j10 v10.1)
def B0 (N : Nat) (p0 : Aa) (p1 : Ab) (j1 : ((List Af)) → Option ((List Af))) : Nat → ((List Af) × Int) → Option ((List Af))
 | 0, _ => none
 | n1 + 1, v1 =>
  AL ((decide (v1.2 < (p0.fc.length : Int))))
   ((BK p0.fc v1.2).bind fun v4 =>
   (BA N p1 v4.fg).bind fun v5 =>
   Bf (fun (v6 : Int) =>
    Bj N p0 p1 v1 v4 v6 (fun (v11 : (List Af)) =>
     B0 N p0 p1 j1 n1 (v11, (wI .i64 (v1.2 + 1)))) N (v1.1, 0))
   fun j6 =>
   (AS N v4).bind fun v7 =>
   AL v7
    ((BK p1.fd v1.2).bind fun v9 =>
    j6 v9)
    (j6 v5))
   (j1 v1.1)
def DG (N : Nat) (p0 : Aa) (p1 : Ab) : Option ((List Af)) :=
 B0 N p0 p1 (fun (v2 : (List Af)) =>
  some v2) N (([] : List Af), 0)
def B1 (N : Nat) (p0 : Aa) (v1 : (List Ab) × Int) (j3 : Unit → Option (Ab × Af × Int)) : Nat → Int → Option (Ab × Af × Int)
 | 0, _ => none
 | n3 + 1, v3 =>
  AL ((decide (v3 < (v1.1.length : Int))))
   ((BK v1.1 v3).bind fun v6 =>
   (DG N p0 v6).bind fun v7 =>
   AL ((decide (0 < (v7.length : Int))))
    ((BK v1.1 v3).bind fun v9 =>
    (BK v7 0).bind fun v10 =>
    some (v9, v10, 0))
    (B1 N p0 v1 j3 n3 (wI .i64 (v3 + 1))))
   (j3 ())
def Dz (N : Nat) (p0 : Aa) (p1 : Ab) : Option (Ab × Af × Int) :=
 (D3 N p0 p1).bind fun v1 =>
 AL ((v1.2 != 0))
  (some ((Ab.mk (([] : List Int)) (([] : List Int)) (([] : List Int))), (Af.mk 0 0 0), v1.2))
  (B1 N p0 v1 (fun (_ : Unit) =>
   some ((Ab.mk (([] : List Int)) (([] : List Int)) (([] : List Int))), (Af.mk 0 0 0), 15)) N 0)
def Cb (N : Nat) (p0 : Aa) (p1 : Ab) (j3 : Unit → Option Bool) : Nat → Int → Option Bool
 | 0, _ => none
 | n3 + 1, v3 =>
  AL ((decide (v3 < (p1.fe.length : Int))))
   (Bf (fun (v6 : Bool) =>
    AL v6
     (some false)
     (Cb N p0 p1 j3 n3 (wI .i64 (v3 + 1))))
   fun j6 =>
   (BK p1.fa v3).bind fun v7 =>
   AL ((decide (0 ≤ v7)))
    (j6 true)
    ((BK p1.fe v3).bind fun v9 =>
    (BK p0.fo v3).bind fun v10 =>
    j6 (v9 != v10)))
   (j3 ())
def Da (N : Nat) (p0 : Aa) (p1 : Ab) : Option Bool :=
 (Cw N p0 p1).bind fun v1 =>
 AL ((v1 != 0))
  (some false)
  (Cb N p0 p1 (fun (_ : Unit) =>
   some true) N 0)
def BO (N : Nat) (p0 : Aa) (p1 : List Ac) (j3 : Ab → Option (Int × Ab × Af × Int)) : Nat → ((List Int) × (List Int) × (List Int) × Int) → Option (Int × Ab × Af × Int)
 | 0, _ => none
 | n3 + 1, v3 =>
  AL ((decide (v3.2.2.2 < (p1.length : Int))))
   (Bf (fun (v6 : (List Int) × (List Int) × (List Int)) =>
    (Dz N p0 ((Ab.mk v6.1 v6.2.1 v6.2.2))).bind fun v14 =>
    AL ((v14.2.2 == 0))
     (some (v3.2.2.2, v14.1, v14.2.1, 0))
     (BO N p0 p1 j3 n3 (v6.1, v6.2.1, v6.2.2, (wI .i64 (v3.2.2.2 + 1)))))
   fun j6 =>
   AL ((decide (0 ≤ v3.2.2.2)))
    ((BK p1 v3.2.2.2).bind fun v8 =>
    (DF N p0 ((Ab.mk v3.1 v3.2.1 v3.2.2.1)) v8).bind fun v9 =>
    Bf (fun (v10 : Bool) =>
     AL v10
      (some (v3.2.2.2, (Ab.mk (([] : List Int)) (([] : List Int)) (([] : List Int))), (Af.mk 0 0 0), 0))
      (j6 (v9.1.fe, v9.1.fa, v9.1.fd)))
    fun j10 =>
    AL ((v9.2 != 0))
     (j10 true)
     ((BK p1 v3.2.2.2).bind fun v12 =>
     j10 (v12.ff == 4)))
    (j6 (v3.1, v3.2.1, v3.2.2.1)))
   (j3 (Ab.mk v3.1 v3.2.1 v3.2.2.1))
def C6 (N : Nat) (p0 : Aa) (p1 : List Ac) : Option (Int × Ab × Af × Int) :=
 (CO N p0).bind fun v1 =>
 AL ((v1.2 != 0))
  (some (0, (Ab.mk (([] : List Int)) (([] : List Int)) (([] : List Int))), (Af.mk 0 0 0), v1.2))
  (BO N p0 p1 (fun (v4 : Ab) =>
   (Da N p0 v4).bind fun v16 =>
   AL ((!v16))
    (some ((p1.length : Int), (Ab.mk (([] : List Int)) (([] : List Int)) (([] : List Int))), (Af.mk 0 0 0), 14))
    (some (0, (Ab.mk (([] : List Int)) (([] : List Int)) (([] : List Int))), (Af.mk 0 0 0), 15))) N (v1.1.fe, v1.1.fa, v1.1.fd, (-1)))
def CR (N : Nat) (p0 : Aa) (p1 : List Ac) : Option Bool :=
 (C6 N p0 p1).bind fun v1 =>
 some ((v1.2.2.2 == 15))
def Bl (N : Nat) (p2 : List Int) (j15 : ((List Ac) × Int) → Option Bool) : Nat → ((List Ac) × Int × (List Ac)) → Option Bool
 | 0, _ => none
 | n15 + 1, v15 =>
  AL ((decide (0 < (v15.2.2.length : Int))))
   (Bf (fun (v18 : Int) =>
    (BK v15.2.2 v18).bind fun v22 =>
    (Dl (v15.1.length + (([v22] : List Ac)).length ≤ Dx)).bind fun _ =>
    (Dl ((0 : Int) ≤ v18 ∧ 0 ≤ (v18).toNat ∧ (v18).toNat ≤ v15.2.2.length)).bind fun _ =>
    (Dl ((0 : Int) ≤ (wI .i64 (v18 + 1)) ∧ ((wI .i64 (v18 + 1))).toNat ≤ v15.2.2.length ∧ v15.2.2.length ≤ v15.2.2.length)).bind fun _ =>
    (Dl ((v18).toNat + (((v15.2.2.drop (((wI .i64 (v18 + 1))).toNat)).take ((v15.2.2.length - ((wI .i64 (v18 + 1))).toNat)))).length ≤ v15.2.2.length)).bind fun _ =>
    Bl N p2 j15 n15 (v15.1 ++ (([v22] : List Ac)), (wI .i64 (v15.2.1 + 1)), (Gq v15.2.2 (0 + ((v18).toNat)) (((v15.2.2.drop (((wI .i64 (v18 + 1))).toNat)).take ((v15.2.2.length - ((wI .i64 (v18 + 1))).toNat))))).take (((v18).toNat + (((v15.2.2.drop (((wI .i64 (v18 + 1))).toNat)).take ((v15.2.2.length - ((wI .i64 (v18 + 1))).toNat)))).length))))
   fun j18 =>
   AL ((decide (v15.2.1 < (p2.length : Int))))
    ((BK p2 v15.2.1).bind fun v20 =>
    (Dl ((v15.2.2.length : Int) ≠ 0)).bind fun _ =>
    j18 (Int.tmod ((wI .i64 v20)) ((v15.2.2.length : Int))))
    (j18 0))
   (j15 (v15.1, v15.2.1))
def Bm (N : Nat) (p2 : List Int) (v8 : (List (List Ac)) × Int) (j10 : ((List Ac)) → Option Bool) : Nat → ((List Ac) × Int × Int) → Option Bool
 | 0, _ => none
 | n10 + 1, v10 =>
  AL ((decide (v10.2.2 < (v8.1.length : Int))))
   ((BK v8.1 v10.2.2).bind fun v13 =>
   (Dl ((([] : List Ac)).length + v13.length ≤ Dx)).bind fun _ =>
   Bl N p2 (fun (v16 : (List Ac) × Int) =>
    Bm N p2 v8 j10 n10 (v16.1, v16.2, (wI .i64 (v10.2.2 + 1)))) N (v10.1, v10.2.1, (([] : List Ac)) ++ v13))
   (j10 v10.1)
def CA (N : Nat) (p0 : BP) (p1 : List Ac) (p2 : List Int) : Option Bool :=
 (Eb N p0).bind fun v1 =>
 Bf (fun (v2 : Bool) =>
  AL v2
   ((DD N).bind fun v7 =>
   some v7)
   ((F2 N v1.1 p1).bind fun v8 =>
   AL ((v8.2 != 0))
    (some ((v8.2 == 13)))
    (Bm N p2 v8 (fun (v11 : (List Ac)) =>
     (CR N v1.1 v11).bind fun v31 =>
     some v31) N (([] : List Ac), 0, 0))))
 fun j2 =>
 (DD N).bind fun v3 =>
 AL ((!v3))
  (j2 true)
  (AL ((!v1.2))
   (j2 true)
   (j2 (decide (10 < (p1.length : Int)))))
def Ka {α : Type} (w : α → Prop) (xs : List α) : Prop := ∀ x, x ∈ xs → w x
def ST (n : Int) : Prop := (Lit.int .i64 n).wf = true
def Ju (n : Int) : Prop := (Lit.int .u8 n).wf = true
def UF (n : Int) : Prop := (Lit.int .u16 n).wf = true
def GD (x : FU) : Prop := Ju x.ff ∧ Ju x.fg ∧ Ju x.fk ∧ (fun _ => True) x.fp ∧ UF x.ft ∧ UF x.fu ∧ True
def EY (x : BP) : Prop := (Ka Ju) x.fb ∧ (Ka Ju) x.fi ∧ (Ka Ju) x.fo ∧ (Ka GD) x.fr ∧ True
def IW (x : Ac) : Prop := ST x.ff ∧ ST x.fh ∧ ST x.fj ∧ True
open Go.RowKit
open Go.Proofs
abbrev K5 (x : FU) : List C := [.pure (.val (.int .u8 x.ff)), .pure (.val (.int .u8 x.fg)), .pure (.val (.int .u8 x.fk)), .pure (.val (.bool x.fp)), .pure (.val (.int .u16 x.ft)), .pure (.val (.int .u16 x.fu))]
abbrev Co (x : BP) : List C := [sC (x.fb.map B6), sC (x.fi.map B6), sC (x.fo.map B6), sC (x.fr.map Fr)]
abbrev Ce (x : Ac) : List C := [iC x.ff, iC x.fh, iC x.fj]
abbrev A9 (x : Ar) : List C := [iC x.ff, iC x.fg, iC x.fk, .pure (.val (.bool x.fp)), sC (x.fq.map (GF eB)), sC (x.fm.map (GF eB))]
abbrev Ah (x : Aa) : List C := [sC (x.fb.map Ao), sC (x.fi.map Ao), sC (x.fo.map Ao), sC (x.fc.map AQ)]
abbrev Ay (x : Ab) : List C := [sC (x.fe.map Ao), sC (x.fa.map Ao), sC (x.fd.map B6)]
abbrev DT (x : Af) : List C := [iC x.fv, iC x.fw, iC x.fy]
theorem Az : Tryz.prog.follows .mixedOrders = true := by kernel_rfl
theorem wq {X : G7} {y : Code} {id : Nat} {ops : Array Oper} {dr : Bool} {Q : Exit → St → Prop} {st : St} {n : Nat} (hn : ops.size = n) (h : A6 Tryz.prog X ops dr (fun st' => W Tryz.prog X y Q st') n 0 st []) : W Tryz.prog X (.seq (.region id ops dr) y) Q st := Xu Az hn h
theorem wp {X : G7} {y z : Code} {id : Nat} {ops : Array Oper} {dr : Bool} {Q : Exit → St → Prop} {st : St} {n : Nat} (hn : ops.size = n) (h : A6 Tryz.prog X ops dr (fun st' => W Tryz.prog X y (Nc (W Tryz.prog X z Q) Q) st') n 0 st []) : W Tryz.prog X (.seq (.seq (.region id ops dr) y) z) Q st := AP (Xu Az hn h)
theorem RD : D7 Tryz.prog 22 false = true := by kernel_rfl
theorem UA : D7 Tryz.prog 23 false = true := by kernel_rfl
theorem WA : D7 Tryz.prog 25 true = true := by kernel_rfl
theorem P6 : D7 Tryz.prog 28 false = true := by kernel_rfl
theorem A0 : D7 Tryz.prog 29 false = true := by kernel_rfl
theorem BV : D7 Tryz.prog 3 false = true := by kernel_rfl
theorem GI : D7 Tryz.prog 30 false = true := by kernel_rfl
theorem CI : D7 Tryz.prog 32 true = true := by kernel_rfl
theorem Gv : D7 Tryz.prog 36 false = true := by kernel_rfl
theorem A7 : D7 Tryz.prog 38 true = true := by kernel_rfl
theorem Qz : D7 Tryz.prog 4 false = true := by kernel_rfl
theorem Vp : D7 Tryz.prog 5 false = true := by kernel_rfl
theorem Gw : D7 Tryz.prog 54 true = true := by kernel_rfl
theorem VF : D7 Tryz.prog 58 false = true := by kernel_rfl
theorem WS : D7 Tryz.prog 60 true = true := by kernel_rfl
theorem Je : D7 Tryz.prog 61 false = true := by kernel_rfl
theorem GB : D7 Tryz.prog 63 true = true := by kernel_rfl
theorem I2 : D7 Tryz.prog 74 false = true := by kernel_rfl
theorem XA : D7 Tryz.prog 9 false = true := by kernel_rfl
theorem HQ : D7 Tryz.prog 93 true = true := by kernel_rfl
theorem Om : D7 Tryz.prog 96 false = true := by kernel_rfl
theorem Vz : EK Tryz.prog 28 24 = true := by kernel_rfl
theorem Lz : EK Tryz.prog 3 8 = true := by kernel_rfl
theorem RH : EK Tryz.prog 38 72 = true := by kernel_rfl
theorem UC : EK Tryz.prog 4 1 = true := by kernel_rfl
theorem Qn : EK Tryz.prog 54 24 = true := by kernel_rfl
theorem Wo : EK Tryz.prog 63 80 = true := by kernel_rfl
theorem Ps : EK Tryz.prog 74 1 = true := by kernel_rfl
theorem Qt : EK Tryz.prog 93 24 = true := by kernel_rfl
theorem VZ : EK Tryz.prog 96 24 = true := by kernel_rfl
theorem Oz : CH Tryz.prog 25 0 0 = true := by kernel_rfl
theorem S7 : CH Tryz.prog 25 1 1 = true := by kernel_rfl
theorem Ts : CH Tryz.prog 25 2 2 = true := by kernel_rfl
theorem OD : CH Tryz.prog 25 3 3 = true := by kernel_rfl
theorem Bn : CH Tryz.prog 32 0 0 = true := by kernel_rfl
theorem zFS : CH Tryz.prog 32 1 1 = true := by kernel_rfl
theorem Hd : CH Tryz.prog 32 2 2 = true := by kernel_rfl
theorem Ct : CH Tryz.prog 32 3 3 = true := by kernel_rfl
theorem Cs : CH Tryz.prog 38 0 0 = true := by kernel_rfl
theorem Bo : CH Tryz.prog 38 1 1 = true := by kernel_rfl
theorem Ck : CH Tryz.prog 38 2 2 = true := by kernel_rfl
theorem DK : CH Tryz.prog 54 0 0 = true := by kernel_rfl
theorem DR : CH Tryz.prog 54 1 1 = true := by kernel_rfl
theorem Fs : CH Tryz.prog 54 2 2 = true := by kernel_rfl
theorem TP : CH Tryz.prog 60 0 0 = true := by kernel_rfl
theorem Tu : CH Tryz.prog 60 1 1 = true := by kernel_rfl
theorem TE : CH Tryz.prog 60 2 2 = true := by kernel_rfl
theorem T6 : CH Tryz.prog 60 3 3 = true := by kernel_rfl
theorem T1 : CH Tryz.prog 60 4 4 = true := by kernel_rfl
theorem TQ : CH Tryz.prog 60 5 5 = true := by kernel_rfl
theorem EV : CH Tryz.prog 63 0 0 = true := by kernel_rfl
theorem Cy : CH Tryz.prog 63 1 1 = true := by kernel_rfl
theorem Hf : CH Tryz.prog 63 2 2 = true := by kernel_rfl
theorem HT : CH Tryz.prog 63 3 3 = true := by kernel_rfl
theorem Iy : CH Tryz.prog 63 4 4 = true := by kernel_rfl
theorem FT : CH Tryz.prog 63 5 5 = true := by kernel_rfl
theorem Vf : AD Tryz.prog 10 = true := by kernel_rfl
theorem Ws : AD Tryz.prog 100 = true := by kernel_rfl
theorem T8 : AD Tryz.prog 101 = true := by kernel_rfl
theorem Us : AD Tryz.prog 102 = true := by kernel_rfl
theorem Qr : AD Tryz.prog 103 = true := by kernel_rfl
theorem We : AD Tryz.prog 104 = true := by kernel_rfl
theorem VQ : AD Tryz.prog 105 = true := by kernel_rfl
theorem VW : AD Tryz.prog 106 = true := by kernel_rfl
theorem VE : AD Tryz.prog 107 = true := by kernel_rfl
theorem VA : AD Tryz.prog 109 = true := by kernel_rfl
theorem Wl : AD Tryz.prog 110 = true := by kernel_rfl
theorem VH : AD Tryz.prog 111 = true := by kernel_rfl
theorem Wa : AD Tryz.prog 112 = true := by kernel_rfl
theorem Uf : AD Tryz.prog 117 = true := by kernel_rfl
theorem Wg : AD Tryz.prog 118 = true := by kernel_rfl
theorem Wm : AD Tryz.prog 119 = true := by kernel_rfl
theorem V6 : AD Tryz.prog 12 = true := by kernel_rfl
theorem VJ : AD Tryz.prog 125 = true := by kernel_rfl
theorem V5 : AD Tryz.prog 14 = true := by kernel_rfl
theorem Vt : AD Tryz.prog 15 = true := by kernel_rfl
theorem Xn : AD Tryz.prog 17 = true := by kernel_rfl
theorem Xc : AD Tryz.prog 18 = true := by kernel_rfl
theorem Xi : AD Tryz.prog 19 = true := by kernel_rfl
theorem Wn : AD Tryz.prog 20 = true := by kernel_rfl
theorem On : AD Tryz.prog 21 = true := by kernel_rfl
theorem Wd : AD Tryz.prog 22 = true := by kernel_rfl
theorem Xd : AD Tryz.prog 23 = true := by kernel_rfl
theorem VS : AD Tryz.prog 24 = true := by kernel_rfl
theorem VN : AD Tryz.prog 25 = true := by kernel_rfl
theorem WM : AD Tryz.prog 26 = true := by kernel_rfl
theorem RJ : AD Tryz.prog 28 = true := by kernel_rfl
theorem TH : AD Tryz.prog 29 = true := by kernel_rfl
theorem UO : AD Tryz.prog 30 = true := by kernel_rfl
theorem U4 : AD Tryz.prog 31 = true := by kernel_rfl
theorem Xl : AD Tryz.prog 32 = true := by kernel_rfl
theorem TT : AD Tryz.prog 33 = true := by kernel_rfl
theorem TR : AD Tryz.prog 34 = true := by kernel_rfl
theorem Vv : AD Tryz.prog 35 = true := by kernel_rfl
theorem W1 : AD Tryz.prog 36 = true := by kernel_rfl
theorem Xq : AD Tryz.prog 37 = true := by kernel_rfl
theorem UW : AD Tryz.prog 44 = true := by kernel_rfl
theorem WG : AD Tryz.prog 45 = true := by kernel_rfl
theorem V8 : AD Tryz.prog 46 = true := by kernel_rfl
theorem V4 : AD Tryz.prog 48 = true := by kernel_rfl
theorem Xf : AD Tryz.prog 49 = true := by kernel_rfl
theorem Vd : AD Tryz.prog 50 = true := by kernel_rfl
theorem UZ : AD Tryz.prog 51 = true := by kernel_rfl
theorem Ve : AD Tryz.prog 52 = true := by kernel_rfl
theorem Vc : AD Tryz.prog 53 = true := by kernel_rfl
theorem WP : AD Tryz.prog 54 = true := by kernel_rfl
theorem Wz : AD Tryz.prog 55 = true := by kernel_rfl
theorem VR : AD Tryz.prog 56 = true := by kernel_rfl
theorem W6 : AD Tryz.prog 57 = true := by kernel_rfl
theorem WX : AD Tryz.prog 58 = true := by kernel_rfl
theorem VX : AD Tryz.prog 59 = true := by kernel_rfl
theorem Xs : AD Tryz.prog 60 = true := by kernel_rfl
theorem Xe : AD Tryz.prog 61 = true := by kernel_rfl
theorem WW : AD Tryz.prog 62 = true := by kernel_rfl
theorem Xp : AD Tryz.prog 64 = true := by kernel_rfl
theorem Sq : AD Tryz.prog 66 = true := by kernel_rfl
theorem Xo : AD Tryz.prog 67 = true := by kernel_rfl
theorem WY : AD Tryz.prog 68 = true := by kernel_rfl
theorem Xg : AD Tryz.prog 69 = true := by kernel_rfl
theorem XD : AD Tryz.prog 7 = true := by kernel_rfl
theorem Xt : AD Tryz.prog 70 = true := by kernel_rfl
theorem Xr : AD Tryz.prog 71 = true := by kernel_rfl
theorem Xj : AD Tryz.prog 72 = true := by kernel_rfl
theorem WL : AD Tryz.prog 73 = true := by kernel_rfl
theorem Xk : AD Tryz.prog 74 = true := by kernel_rfl
theorem TU : AD Tryz.prog 75 = true := by kernel_rfl
theorem WT : AD Tryz.prog 76 = true := by kernel_rfl
theorem WO : AD Tryz.prog 77 = true := by kernel_rfl
theorem WH : AD Tryz.prog 78 = true := by kernel_rfl
theorem VP : AD Tryz.prog 79 = true := by kernel_rfl
theorem Xv : AD Tryz.prog 8 = true := by kernel_rfl
theorem Ww : AD Tryz.prog 80 = true := by kernel_rfl
theorem V9 : AD Tryz.prog 81 = true := by kernel_rfl
theorem Wv : AD Tryz.prog 82 = true := by kernel_rfl
theorem Xb : AD Tryz.prog 83 = true := by kernel_rfl
theorem W3 : AD Tryz.prog 84 = true := by kernel_rfl
theorem W5 : AD Tryz.prog 85 = true := by kernel_rfl
theorem Xh : AD Tryz.prog 86 = true := by kernel_rfl
theorem Wy : AD Tryz.prog 87 = true := by kernel_rfl
theorem WV : AD Tryz.prog 88 = true := by kernel_rfl
theorem Wx : AD Tryz.prog 91 = true := by kernel_rfl
theorem Wq : AD Tryz.prog 92 = true := by kernel_rfl
theorem W2 : AD Tryz.prog 93 = true := by kernel_rfl
theorem WB : AD Tryz.prog 94 = true := by kernel_rfl
theorem WC : AD Tryz.prog 95 = true := by kernel_rfl
theorem VM : AD Tryz.prog 96 = true := by kernel_rfl
theorem VU : AD Tryz.prog 97 = true := by kernel_rfl
theorem Xm : AD Tryz.prog 99 = true := by kernel_rfl
theorem QR : N2 Tryz.prog 126 .u64 = true := by kernel_rfl
theorem Qp : N2 Tryz.prog 137 .u32 = true := by kernel_rfl
theorem Ub : N2 Tryz.prog 140 .u64 = true := by kernel_rfl
theorem Ur : N2 Tryz.prog 3 .i64 = true := by kernel_rfl
theorem Wp : HW Tryz.prog 32 = some [(0, 1), (1, 1), (2, 1), (3, 1)] := by kernel_rfl
theorem E6 : HW Tryz.prog 38 = some [(0, 1), (1, 1), (2, 1)] := by kernel_rfl
theorem SU : HW Tryz.prog 54 = some [(0, 1), (1, 1), (2, 1)] := by kernel_rfl
theorem WE : HW Tryz.prog 63 = some [(0, 1), (1, 1), (2, 1), (3, 1), (4, 1), (5, 1)] := by kernel_rfl
theorem Jz : HW Tryz.prog 93 = some [(0, 1), (1, 1), (2, 1)] := by kernel_rfl
theorem Ut : R3 Tryz.prog 54 = some [0, 0, 0] := by kernel_rfl
theorem Fy : sliceB Tryz.prog 117 93 = true := by kernel_rfl
theorem Sp : sliceB Tryz.prog 133 9 = true := by kernel_rfl
theorem MA : sliceB Tryz.prog 22 5 = true := by kernel_rfl
theorem SB : sliceB Tryz.prog 23 60 = true := by kernel_rfl
theorem Bk : sliceB Tryz.prog 28 54 = true := by kernel_rfl
theorem Ax : sliceB Tryz.prog 29 3 = true := by kernel_rfl
theorem DI : sliceB Tryz.prog 30 63 = true := by kernel_rfl
theorem CK : sliceB Tryz.prog 36 74 = true := by kernel_rfl
theorem Hp : sliceB Tryz.prog 47 28 = true := by kernel_rfl
theorem FQ : sliceB Tryz.prog 61 96 = true := by kernel_rfl
theorem Ge : sliceB Tryz.prog 70 38 = true := by kernel_rfl
theorem Gn : sliceB Tryz.prog 96 4 = true := by kernel_rfl
theorem RT : (Tryz.prog.underlying 126).isSome = true := by kernel_rfl
theorem Qw : (Tryz.prog.underlying 137).isSome = true := by kernel_rfl
theorem Uh : (Tryz.prog.underlying 140).isSome = true := by kernel_rfl
theorem Xy : (Tryz.prog.underlying 3).isSome = true := by kernel_rfl
theorem Uv : (Tryz.prog.underlying 5).isSome = true := by kernel_rfl
theorem Xa : Qx Tryz.prog 9 = true := by kernel_rfl
theorem WN : Gs Tryz.prog 25 4 = true := by kernel_rfl
theorem NS : Gs Tryz.prog 28 1 = true := by kernel_rfl
theorem RU : Gs Tryz.prog 29 1 = true := by kernel_rfl
theorem CT : Gs Tryz.prog 3 1 = true := by kernel_rfl
theorem WR : Gs Tryz.prog 30 1 = true := by kernel_rfl
theorem Cv : Gs Tryz.prog 32 4 = true := by kernel_rfl
theorem WI : Gs Tryz.prog 36 1 = true := by kernel_rfl
theorem AE : Gs Tryz.prog 38 3 = true := by kernel_rfl
theorem P2 : Gs Tryz.prog 4 1 = true := by kernel_rfl
theorem W9 : Gs Tryz.prog 5 1 = true := by kernel_rfl
theorem Cr : Gs Tryz.prog 54 3 = true := by kernel_rfl
theorem UN : Gs Tryz.prog 60 6 = true := by kernel_rfl
theorem Wr : Gs Tryz.prog 61 1 = true := by kernel_rfl
theorem DH : Gs Tryz.prog 63 6 = true := by kernel_rfl
theorem E5 : Gs Tryz.prog 74 1 = true := by kernel_rfl
theorem Xx : Gs Tryz.prog 9 1 = true := by kernel_rfl
theorem Dr : Gs Tryz.prog 93 3 = true := by kernel_rfl
theorem L7 : Gs Tryz.prog 96 1 = true := by kernel_rfl
theorem Td : DP Tryz.prog 28 = some (.slice none 0 0) := by kernel_rfl
theorem KG : DP Tryz.prog 3 = some (.int .i64 0) := by kernel_rfl
theorem ON : DP Tryz.prog 32 = some (.agg #[.slice none 0 0, .slice none 0 0, .slice none 0 0, .slice none 0 0]) := by kernel_rfl
theorem B4 : DP Tryz.prog 38 = some (.agg #[.slice none 0 0, .slice none 0 0, .slice none 0 0]) := by kernel_rfl
theorem Vn : DP Tryz.prog 4 = some (.bool false) := by kernel_rfl
theorem Ix : DP Tryz.prog 54 = some (.agg #[.int .i64 0, .int .i64 0, .int .i64 0]) := by kernel_rfl
theorem WD : DP Tryz.prog 60 = some (.agg #[.int .u8 0, .int .u8 0, .int .u8 0, .bool false, .int .u16 0, .int .u16 0]) := by kernel_rfl
theorem KK : DP Tryz.prog 63 = some (.agg #[.int .i64 0, .int .i64 0, .int .i64 0, .bool false, .slice none 0 0, .slice none 0 0]) := by kernel_rfl
theorem NQ : DP Tryz.prog 74 = some (.int .u8 0) := by kernel_rfl
theorem XB : DP Tryz.prog 9 = some (.string ⟨#[]⟩) := by kernel_rfl
theorem Fp : DP Tryz.prog 93 = some (.agg #[.int .i64 0, .int .i64 0, .int .i64 0]) := by kernel_rfl
theorem Vw : DP Tryz.prog 96 = some (.slice none 0 0) := by kernel_rfl
set_option maxRecDepth 10000
theorem Hn (N : Nat) (p0 : List Int) (p1 : Int) (r : Int) (h : C9 N p0 p1 = some r) : As Tryz.prog 20 [pD (.sl (p0.map B6)), iD p1] [] (iD r) := by
 unfold C9 at h
 refine cw (n := 14) (rs := [.tmp 4]) Tryz.func20 fun w0 S0 => ?_
 refine wq rfl (qa rfl (Ad (wp rfl (qw 2 rfl (AG MA rfl (A1 rfl (Ad ?_)))))))
 refine Bh h (fun h => ?_) fun h => ?_
 ·refine wq rfl (qw 2 rfl ?_)
  refine B3 h fun v2 a2 b2 h => qi MA W9 a2 (Ag b2) rfl (qk Vp rfl (IS Uv Ur rfl (qe rfl ?_)))
  obtain rfl := sj h
  refine Ae (sm [] [(4, iD ((wI .i64 v2)))] [] rfl rfl) (Aq ?_)
  exact ⟨⟨[_], tm, rfl⟩, tv⟩
 ·refine Am (wq rfl (qe rfl ?_))
  obtain rfl := sj h
  refine Ae (sm [] [(4, iD 0)] [] rfl rfl) (Aq ?_)
  exact ⟨⟨[_], tm, rfl⟩, tv⟩
theorem BT (N : Nat) (p0 : Ar) (r : Bool) (h : AS N p0 = some r) : As Tryz.prog 21 [.e (.agg (A9 p0))] [] (bD r) := by
 unfold AS at h
 refine cw (n := 11) (rs := [.tmp 2]) Tryz.func21 fun w0 S0 => ?_
 refine wq rfl (qb rfl (qe rfl ?_))
 refine AM h (fun v1 => mk [(2, bD v1)] []) (fun j1 h => ?_) (fun v1 h => ?_)
 ·refine Aj Az rfl (qf EV rfl (ql BV rfl (Bv rfl (qm rfl ?_))))
  refine Dp 6 h rfl (fun h => ?_) fun h => ?_
  ·refine qw 3 rfl (qp rfl (qe rfl ?_))
   exact sn [] h
  ·refine qf EV rfl (ql BV rfl (Bv rfl (qp rfl (qe rfl ?_))))
   exact sn [] h
 ·obtain rfl := sj h
  refine Ae (sm [] [(2, bD v1)] [] rfl rfl) (Aq ?_)
  exact ⟨⟨[_], tm, rfl⟩, tv⟩
theorem Hv (N : Nat) (p0 : Int) (p1 : Int) (p2 : Int) (p3 : Bool) (r : (List (List Bool))) (h : Db N p0 p1 p2 p3 = some r) : As Tryz.prog 22 [iD p0, iD p1, pD (.val (.int .u16 p2)), bD p3] [(1, r.map (GF eB))] (oD (.own 0)) := by
 unfold Db at h
 refine cw (n := 47) (rs := [.tmp 8]) Tryz.func22 fun w0 S0 => ?_
 refine wq rfl (qa rfl (Ad (wq rfl (qa rfl (Ad (wp rfl (qe rfl ?_)))))))
 refine AJ (L := BS N p0 p1 p2 p3) h (fun v1 => mk [(0, iD p0), (1, iD p1), (2, pD (.val (.int .u16 p2))), (3, bD p3), (9, oD (.own 2001)), (10, iD v1.2)] [(2001, .vec 1 (v1.1.map (GF eB)))]) (fun v2 => mk [(9, oD (.own 2002))] [(2002, .vec 1 (v2.map (GF eB)))]) (fun _ _ => rfl) ((Ca 9 2010 1 rfl rfl rfl).trans (sm [(2001, 2010)] _ _ rfl rfl)) (fun j1 n1 v1 h => ?_) (fun v2 s h hs => ?_)
 ·unfold BS at h
  refine wp rfl (qw 2 rfl (A1 rfl (Ad ?_)))
  refine Bh h (fun h => ?_) fun h => ?_
  ·refine Am (AP (AO (wq rfl (qa rfl (Ad (wp rfl (qe rfl ?_)))))))
   refine AJ (L := BU N p1 p2 p3 v1) h (fun v4 => mk [(0, iD p0), (1, iD p1), (2, pD (.val (.int .u16 p2))), (3, bD p3), (9, oD (.own 2003)), (10, iD v1.2), (11, oD (.own 2004)), (12, iD v4.2)] [(2003, .vec 1 (v1.1.map (GF eB))), (2004, .vec 1 (v4.1.map eB))]) (fun v5 => mk [(0, iD p0), (1, iD p1), (2, pD (.val (.int .u16 p2))), (3, bD p3), (9, oD (.own 2005)), (10, iD v1.2), (11, oD (.own 2006))] [(2005, .vec 1 (v1.1.map (GF eB))), (2006, .vec 1 (v5.map eB))]) (fun _ _ => rfl) ((Ca 11 2009 1 rfl rfl rfl).trans (sm [(2003, 2001), (2004, 2009)] _ _ rfl rfl)) (fun j4 n4 v4 h => ?_) (fun v5 s h hs => ?_)
   ·unfold BU at h
    refine wp rfl (qw 2 rfl (A1 rfl (Ad ?_)))
    refine Bh h (fun h => ?_) fun h => ?_
    ·refine Am ?_
     refine AM h (fun v7 => mk [(0, iD p0), (1, iD p1), (2, pD (.val (.int .u16 p2))), (3, bD p3), (9, oD (.own 2007)), (10, iD v1.2), (11, oD (.own 2008)), (12, iD v4.2)] [(2007, .vec 1 (v1.1.map (GF eB))), (2008, .vec 1 (v7.map eB))]) (fun j7 h => ?_) (fun v7 h => ?_)
     ·refine AO (Aj Az rfl (qw 3 rfl ?_))
      refine Dp 25 h rfl (fun h => ?_) fun h => ?_
      ·refine qw 2 rfl (Bv rfl (qp rfl (qm rfl ?_)))
       refine Dp 30 h rfl (fun h => ?_) fun h => ?_
       ·refine qw 8 rfl (qp rfl (El Gn P2 Vn rfl ?_))
        refine E1 h fun c10 h => Ek (f := eB) Gn Gn P2 UC Vn c10 rfl (qe rfl ?_)
        exact sn [(2007, 2003), (2008, 41)] h
       ·refine qw 2 rfl (Ki rfl (qm rfl (Bq rfl ?_)))
        refine E1 h fun c11 h => If rfl c11 (JC rfl (by decide) (Bv rfl (qp rfl (El Gn P2 Vn rfl ?_))))
        refine E1 h fun c12 h => Ek (f := eB) Gn Gn P2 UC Vn c12 rfl (qe rfl ?_)
        exact sn [(2007, 2003), (2008, 41)] h
      ·refine qw 3 rfl (qp rfl (qw 3 rfl (Ki rfl (qm rfl (Bq rfl ?_)))))
       refine E1 h fun c13 h => If rfl c13 (JC rfl (by decide) (Bv rfl (qp rfl (El Gn P2 Vn rfl ?_))))
       refine E1 h fun c14 h => Ek (f := eB) Gn Gn P2 UC Vn c14 rfl (qe rfl ?_)
       exact sn [(2007, 2003), (2008, 41)] h
     ·refine Aj Az rfl (qm rfl (Bq rfl (qe rfl ?_)))
      exact sn [(2003, 2007), (2004, 2008)] h
    ·refine AY ?_
     exact sn [(2005, 2003), (2006, 2004)] h
   ·refine Ae hs (Aj Az rfl (qw 2 rfl (DA (AW 2006 _ _ rfl rfl) (El FQ L7 Vw rfl ?_))))
    refine E1 h fun c15 h => Ek (f := (GF eB)) FQ FQ L7 VZ Vw c15 rfl (qa rfl (Ad (Aj Az rfl (qm rfl (Bq rfl (qe rfl ?_))))))
    exact sn [(2001, 45)] h
  ·refine AY ?_
   exact sn [(2002, 2001)] h
 ·refine Ae hs (wq rfl (qm rfl (qe rfl ?_)))
  obtain rfl := sj h
  refine Ae (sm [(1000, 2002)] [(8, oD (.own 1000))] [(1000, .vec 1 (v2.map (GF eB)))] rfl rfl) (Aq ?_)
  exact ⟨⟨[_], tm, rfl⟩, ⟨rfl, tv⟩⟩
theorem KT (N : Nat) (p0 : BP) (r : Aa × Bool) (h : Eb N p0 = some r) : As Tryz.prog 7 [.e (.agg (Co p0))] [(1, r.1.fb.map Ao), (1, r.1.fi.map Ao), (1, r.1.fo.map Ao), (6, r.1.fc.map AQ)] (.tup [.agg [.own 0, .own 1, .own 2, .own 3], .one (.pure (.val (.bool r.2)))]) := by
 unfold Eb at h
 refine cw (n := 152) (rs := [.cell 2 32, .tmp 3]) Tryz.func7 fun w0 S0 => ?_
 refine wq rfl (qb rfl (qz ON rfl (qa rfl (Ad (AP ?_)))))
 refine AM h (fun v1 => mk [(1, oD (.ptr 1 0)), (2, oD (.ptr 2 0)), (19, bD v1)] [(1, .box (Co p0)), (2, .box [.pure (.nil0), .pure (.nil0), .pure (.nil0), .pure (.nil0)])]) (fun j1 h => ?_) (fun v1 h => ?_)
 ·refine Aj Az rfl (qf Oz rfl (ql RD rfl (AG MA rfl (E0 rfl (qm rfl ?_)))))
  refine Dp 14 h rfl (fun h => ?_) fun h => ?_
  ·refine qw 4 rfl (qp rfl (Ad ?_))
   exact sn [] h
  ·refine qf OD rfl (ql UA rfl (AG SB rfl (E0 rfl (qp rfl (Ad ?_)))))
   exact sn [] h
 ·refine Bh h (fun h => ?_) fun h => ?_
  ·refine wq rfl (AR ON Wp rfl (qs Cv rfl (qe rfl ?_)))
   obtain rfl := sj h
   refine Ae ((Aw 2 0 2001 1 _ rfl rfl rfl rfl).trans ((Aw 2 1 2002 1 _ rfl rfl rfl rfl).trans ((Aw 2 2 2003 1 _ rfl rfl rfl rfl).trans ((Aw 2 3 2004 6 _ rfl rfl rfl rfl).trans (sm [(1000, 2001), (1001, 2002), (1002, 2003), (1003, 2004)] [(2, oD (.ptr 2 0)), (3, bD false)] [(2, .box [.own 1000, .own 1001, .own 1002, .own 1003]), (1000, .vec 1 ((([] : List Int)).map Ao)), (1001, .vec 1 ((([] : List Int)).map Ao)), (1002, .vec 1 ((([] : List Int)).map Ao)), (1003, .vec 6 ((([] : List Ar)).map AQ))] rfl rfl))))) (Aq ?_)
   exact ⟨⟨[_, _], ⟨.cellN _ _ _ _ _ _ _ rfl rfl CI Cv rfl rfl (Fq rfl), tm⟩, rfl⟩, ⟨rfl, rfl, rfl, rfl, tv⟩⟩
  ·refine Am (wq rfl (qz ON rfl (Ad (wp rfl (qe rfl ?_)))))
   refine AJ (L := B7 N p0) h (fun v4 => mk [(1, oD (.ptr 1 0)), (2, oD (.ptr 2 0)), (4, oD (.ptr 4 0)), (5, iD v4.2.2.2)] [(1, .box (Co p0)), (2, .box [.pure (.nil0), .pure (.nil0), .pure (.nil0), .pure (.nil0)]), (4, .box [.own 2005, .own 2006, .own 2007, .pure (.nil0)]), (2005, .vec 1 (v4.1.map Ao)), (2006, .vec 1 (v4.2.1.map Ao)), (2007, .vec 1 (v4.2.2.1.map Ao))]) (fun v5 => mk [(1, oD (.ptr 1 0)), (2, oD (.ptr 2 0)), (4, oD (.ptr 4 0))] [(1, .box (Co p0)), (2, .box [.pure (.nil0), .pure (.nil0), .pure (.nil0), .pure (.nil0)]), (4, .box [.own 2008, .own 2009, .own 2010, .pure (.nil0)]), (2008, .vec 1 (v5.1.map Ao)), (2009, .vec 1 (v5.2.1.map Ao)), (2010, .vec 1 (v5.2.2.map Ao))]) (fun _ _ => rfl) ((Aw 4 0 2011 1 _ rfl rfl rfl rfl).trans ((Aw 4 1 2012 1 _ rfl rfl rfl rfl).trans ((Aw 4 2 2013 1 _ rfl rfl rfl rfl).trans (sm [(2005, 2011), (2006, 2012), (2007, 2013)] _ _ rfl rfl)))) (fun j4 n4 v4 h => ?_) (fun v5 s h hs => ?_)
   ·unfold B7 at h
    refine wp rfl (qm rfl (qf Oz rfl (ql RD rfl (AG MA rfl (A1 rfl (Ad ?_))))))
    refine Bh h (fun h => ?_) fun h => ?_
    ·refine Am (AP (AO (wq rfl (qf Oz rfl (ql RD rfl (qm rfl ?_))))))
     refine B3 h fun v7 a7 b7 h => qi MA W9 a7 (Ag b7) rfl (qk Vp rfl (JC rfl (by decide) (IS Uv Ur rfl (Bq rfl (qa rfl (Ad (wq rfl (qf Bn rfl (ql A0 rfl (qm rfl (El Ax CT KG rfl ?_)))))))))))
     refine E1 h fun c8 h => Ek (f := Ao) Ax Ax CT Lz KG c8 rfl (qf Bn rfl (qs RU rfl (Ad (wq rfl (qf zFS rfl (ql A0 rfl (qf S7 rfl (ql RD rfl (qm rfl ?_)))))))))
     refine B9 h fun v9 a9 h => Av [] (Hn N p0.fi v4.2.2.2 v9 a9) Wn rfl (qm rfl ?_)
     refine E1 h fun c10 h => JC rfl c10 (El Ax CT KG rfl ?_)
     refine E1 h fun c11 h => Ek (f := Ao) Ax Ax CT Lz KG c11 rfl (qf zFS rfl (qs RU rfl (AH (by kernel_rfl) (Aj Az rfl (qf Hd rfl (ql A0 rfl (qf Ts rfl (ql RD rfl (qm rfl ?_)))))))))
     refine B9 h fun v12 a12 h => Av [] (Hn N p0.fo v4.2.2.2 v12 a12) Wn rfl (qm rfl ?_)
     refine E1 h fun c13 h => JC rfl c13 (El Ax CT KG rfl ?_)
     refine E1 h fun c14 h => Ek (f := Ao) Ax Ax CT Lz KG c14 rfl (qf Hd rfl (qs RU rfl (AH (by kernel_rfl) (Aj Az rfl (qm rfl (Bq rfl (qe rfl ?_)))))))
     exact sn [(2005, 40), (2006, 51), (2007, 62)] h
    ·refine AY ?_
     exact sn [(2008, 2005), (2009, 2006), (2010, 2007)] h
   ·refine Ae hs (wp rfl (qe rfl ?_))
    refine AJ (L := Bd N p0 v5) h (fun v15 => mk [(1, oD (.ptr 1 0)), (2, oD (.ptr 2 0)), (4, oD (.ptr 4 0)), (7, iD v15.2)] [(1, .box (Co p0)), (2, .box [.pure (.nil0), .pure (.nil0), .pure (.nil0), .pure (.nil0)]), (4, .box [.own 2014, .own 2015, .own 2016, .own 2017]), (2014, .vec 1 (v5.1.map Ao)), (2015, .vec 1 (v5.2.1.map Ao)), (2016, .vec 1 (v5.2.2.map Ao)), (2017, .vec 6 (v15.1.map AQ))]) (fun v16 => mk [(2, oD (.ptr 2 0)), (4, oD (.ptr 4 0))] [(2, .box [.pure (.nil0), .pure (.nil0), .pure (.nil0), .pure (.nil0)]), (4, .box [.own 2018, .own 2019, .own 2020, .own 2021]), (2018, .vec 1 (v5.1.map Ao)), (2019, .vec 1 (v5.2.1.map Ao)), (2020, .vec 1 (v5.2.2.map Ao)), (2021, .vec 6 (v16.map AQ))]) (fun _ _ => rfl) ((Aw 4 3 2039 6 _ rfl rfl rfl rfl).trans (sm [(2014, 2008), (2015, 2009), (2016, 2010), (2017, 2039)] _ _ rfl rfl)) (fun j15 n15 v15 h => ?_) (fun v16 s h hs => ?_)
    ·unfold Bd at h
     refine AP ?_
     refine AM h (fun v17 => mk [(1, oD (.ptr 1 0)), (2, oD (.ptr 2 0)), (4, oD (.ptr 4 0)), (7, iD v15.2), (74, bD v17)] [(1, .box (Co p0)), (2, .box [.pure (.nil0), .pure (.nil0), .pure (.nil0), .pure (.nil0)]), (4, .box [.own 2022, .own 2023, .own 2024, .own 2025]), (2022, .vec 1 (v5.1.map Ao)), (2023, .vec 1 (v5.2.1.map Ao)), (2024, .vec 1 (v5.2.2.map Ao)), (2025, .vec 6 (v15.1.map AQ))]) (fun j17 h => ?_) (fun v17 h => ?_)
     ·refine Aj Az rfl (qm rfl (qf OD rfl (ql UA rfl (AG SB rfl (A1 rfl (qm rfl ?_))))))
      refine Dp 69 h rfl (fun h => ?_) fun h => ?_
      ·refine qf Bn rfl (ql A0 rfl (E9 Ax rfl (E0 rfl (qp rfl (Ad ?_)))))
       exact sn [(2022, 2014), (2023, 2015), (2024, 2016), (2025, 2017)] h
      ·refine qw 4 rfl (qp rfl (Ad ?_))
       exact sn [(2022, 2014), (2023, 2015), (2024, 2016), (2025, 2017)] h
     ·refine Bh h (fun h => ?_) fun h => ?_
      ·refine Am (AP (AO (wq rfl (qf OD rfl (ql UA rfl (qm rfl ?_))))))
       refine B3 h fun v20 a20 b20 h => qi SB UN a20 (Ag b20) rfl (qK WS UN rfl (qz WD rfl (qs UN rfl (Ad (wq rfl (qf TP rfl (ql Vp rfl (JC rfl (by decide) (IS Uv Ur rfl (Bq rfl (qf Tu rfl (ql Vp rfl (IS Uv Ur rfl (qf Bn rfl (ql A0 rfl (E9 Ax rfl ?_))))))))))))))))
       refine E1 h fun c21 h => JC rfl c21 (qf TE rfl (ql Vp rfl (IS Uv Ur rfl (qf Bn rfl (ql A0 rfl (E9 Ax rfl ?_))))))
       refine E1 h fun c22 h => JC rfl c22 (AR KK WE rfl (qz KK rfl (qs DH rfl (AH (by kernel_rfl) ?_))))
       refine AM h (fun v23 => mk [(1, oD (.ptr 1 0)), (2, oD (.ptr 2 0)), (4, oD (.ptr 4 0)), (7, iD v15.2), (8, oD (.ptr 8 0)), (9, oD (.ptr 9 0))] [(1, .box (Co p0)), (2, .box [.pure (.nil0), .pure (.nil0), .pure (.nil0), .pure (.nil0)]), (4, .box [.own 2026, .own 2027, .own 2028, .own 2029]), (8, .box (K5 v20)), (9, .box [iC ((wI .i64 (1 + (wI .i64 ((Int.tmod v20.ff 4)))))), iC ((Int.tmod ((wI .i64 v20.fg)) ((v5.1.length : Int)))), iC ((Int.tmod ((wI .i64 v20.fk)) ((v5.1.length : Int)))), .pure (.val (.bool v23)), .pure (.nil0), .pure (.nil0)]), (2026, .vec 1 (v5.1.map Ao)), (2027, .vec 1 (v5.2.1.map Ao)), (2028, .vec 1 (v5.2.2.map Ao)), (2029, .vec 6 (v15.1.map AQ))]) (fun j23 h => ?_) (fun v23 h => ?_)
       ·refine Aj Az rfl (qf T6 rfl (ql Qz rfl (qm rfl ?_)))
        refine Dp 104 h rfl (fun h => ?_) fun h => ?_
        ·refine qL GB DH rfl ?_
         refine B9 h fun v25 a25 h => Av [] (BT N ((Ar.mk ((wI .i64 (1 + (wI .i64 ((Int.tmod v20.ff 4)))))) ((Int.tmod ((wI .i64 v20.fg)) ((v5.1.length : Int)))) ((Int.tmod ((wI .i64 v20.fk)) ((v5.1.length : Int)))) false (([] : List (List Bool))) (([] : List (List Bool))))) v25 a25) On rfl (Cd rfl (qp rfl (qf HT rfl (qs P2 rfl (Ad ?_)))))
         exact sn [(2026, 2022), (2027, 2023), (2028, 2024), (2029, 2025)] h
        ·refine qw 3 rfl (qp rfl (qf HT rfl (qs P2 rfl (Ad ?_))))
         exact sn [(2026, 2022), (2027, 2023), (2028, 2024), (2029, 2025)] h
       ·refine wq rfl (qf Bn rfl (ql A0 rfl (qf Cy rfl (ql BV rfl ?_))))
        refine B3 h fun v26 a26 b26 h => qI Ax CT a26 (Ag b26) rfl (qj BV (Ag b26) rfl (qf Bn rfl (ql A0 rfl (qf Hf rfl (ql BV rfl ?_)))))
        refine B3 h fun v27 a27 b27 h => qI Ax CT a27 (Ag b27) rfl (qj BV (Ag b27) rfl (qf T1 rfl (ql VF rfl ?_)))
        refine B9 h fun v28 a28 h => Av [2030] (Hv N v26 v27 v20.ft false v28 a28) Wd rfl (qf Iy rfl (qs Wr rfl (AH (by kernel_rfl) ?_)))
        refine AM h (fun v29 => mk [(1, oD (.ptr 1 0)), (2, oD (.ptr 2 0)), (4, oD (.ptr 4 0)), (7, iD v15.2), (9, oD (.ptr 9 0))] [(1, .box (Co p0)), (2, .box [.pure (.nil0), .pure (.nil0), .pure (.nil0), .pure (.nil0)]), (4, .box [.own 2031, .own 2032, .own 2033, .own 2034]), (9, .box [iC ((wI .i64 (1 + (wI .i64 ((Int.tmod v20.ff 4)))))), iC ((Int.tmod ((wI .i64 v20.fg)) ((v5.1.length : Int)))), iC ((Int.tmod ((wI .i64 v20.fk)) ((v5.1.length : Int)))), .pure (.val (.bool v23)), .own 2035, .own 2036]), (2031, .vec 1 (v5.1.map Ao)), (2032, .vec 1 (v5.2.1.map Ao)), (2033, .vec 1 (v5.2.2.map Ao)), (2034, .vec 6 (v15.1.map AQ)), (2035, .vec 1 (v28.map (GF eB))), (2036, .vec 1 (v29.map (GF eB)))]) (fun j29 h => ?_) (fun v29 h => ?_)
        ·refine wq rfl (qf EV rfl (ql BV rfl (Bv rfl (Ad ?_))))
         refine Bh h (fun h => ?_) fun h => ?_
         ·refine Aj Az rfl (qf Bn rfl (ql A0 rfl (qf Cy rfl (ql BV rfl ?_))))
          refine B3 h fun v31 a31 b31 h => qI Ax CT a31 (Ag b31) rfl (qj BV (Ag b31) rfl (qf Bn rfl (ql A0 rfl (qf Cy rfl (ql BV rfl ?_)))))
          refine B3 h fun v32 a32 b32 h => qI Ax CT a32 (Ag b32) rfl (qj BV (Ag b32) rfl (qf TQ rfl (ql VF rfl ?_)))
          refine B9 h fun v33 a33 h => Av [2037] (Hv N v31 v32 v20.fu true v33 a33) Wd rfl (qf FT rfl (qs Wr rfl (AH (by kernel_rfl) ?_)))
          exact sn [(2031, 2026), (2032, 2027), (2033, 2028), (2034, 2029), (2035, 2030), (2036, 2037)] h
         ·refine Am ?_
          exact R7 _ h ((Aw 9 5 2038 1 _ rfl rfl rfl rfl).trans (sm [(2031, 2026), (2032, 2027), (2033, 2028), (2034, 2029), (2035, 2030), (2036, 2038)] _ _ rfl rfl))
        ·refine Aj Az rfl (qf Ct rfl (ql GI rfl (qL GB DH rfl (DA (AW 2035 _ _ rfl rfl) (DA (AW 2036 _ _ rfl rfl) (El DI DH KK rfl ?_))))))
         refine E1 h fun c34 h => Ek (f := AQ) DI DI DH Wo KK c34 rfl (qf Ct rfl (qs WR rfl (Ad (Aj Az rfl (qm rfl (Bq rfl (qe rfl ?_)))))))
         exact sn [(2014, 2031), (2015, 2032), (2016, 2033), (2017, 149)] h
      ·refine AY ?_
       exact sn [(2018, 2022), (2019, 2023), (2020, 2024), (2021, 2025)] h
    ·refine Ae hs (wq rfl (qL CI Cv rfl (qs Cv rfl (qe rfl ?_))))
     obtain rfl := sj h
     refine Ae (sm [(1000, 2018), (1001, 2019), (1002, 2020), (1003, 2021)] [(2, oD (.ptr 2 0)), (3, bD true)] [(2, .box [.own 1000, .own 1001, .own 1002, .own 1003]), (1000, .vec 1 (v5.1.map Ao)), (1001, .vec 1 (v5.2.1.map Ao)), (1002, .vec 1 (v5.2.2.map Ao)), (1003, .vec 6 (v16.map AQ))] rfl rfl) (Aq ?_)
     exact ⟨⟨[_, _], ⟨.cellN _ _ _ _ _ _ _ rfl rfl CI Cv rfl rfl (Fq rfl), tm⟩, rfl⟩, ⟨rfl, rfl, rfl, rfl, tv⟩⟩
theorem IU (N : Nat) (r : Aa × (List Ac)) (h : EL N = some r) : As Tryz.prog 23 [] [(1, r.1.fb.map Ao), (1, r.1.fi.map Ao), (1, r.1.fo.map Ao), (3, r.2.map Ai)] (.tup [.agg [.own 0, .own 1, .own 2, sC (r.1.fc.map AQ)], .one (.own 3)]) := by
 unfold EL at h
 refine cw (n := 13) (rs := [.cell 0 32, .tmp 1]) Tryz.func23 fun w0 S0 => ?_
 refine wq rfl (qz ON rfl (qa rfl (Ad (wq rfl (El Ax CT KG rfl (El Ax CT KG rfl (El Ax CT KG rfl (AR ON Wp rfl (qz ON rfl (qs Cv rfl (Ad (wq rfl (qL CI Cv rfl (AR Ix SU rfl (AR Ix SU rfl (AR Ix SU rfl (AR Ix SU rfl (El Bk Cr Ix rfl (qs Cv rfl (qe rfl ?_))))))))))))))))))))
 obtain rfl := sj h
 refine Ae ((Dn 0 _ rfl).trans (sm [(1000, 3), (1001, 4), (1002, 5), (1003, 12)] [(0, oD (.ptr 0 0)), (1, oD (.own 1003))] [(0, .box [.own 1000, .own 1001, .own 1002, sC ((([] : List Ar)).map AQ)]), (1000, .vec 1 ((([2, 2] : List Int)).map Ao)), (1001, .vec 1 ((([0, 0] : List Int)).map Ao)), (1002, .vec 1 ((([1, 1] : List Int)).map Ao)), (1003, .vec 3 ((([(Ac.mk 1 0 1), (Ac.mk 1 1 1), (Ac.mk 2 0 0), (Ac.mk 2 1 0)] : List Ac)).map Ai))] rfl rfl)) (Aq ?_)
 exact ⟨⟨[_, _], ⟨.cellN _ _ _ _ _ _ _ rfl rfl CI Cv rfl rfl (Fq rfl), tm⟩, rfl⟩, ⟨rfl, rfl, rfl, rfl, tv⟩⟩
theorem Gj (N : Nat) (p0 : Int) (p1 : Int) (r : Bool) (h : De N p0 p1 = some r) : As Tryz.prog 75 [iD p0, iD p1] [] (bD r) := by
 unfold De at h
 refine cw (n := 12) (rs := [.tmp 4]) Tryz.func75 fun w0 S0 => ?_
 refine wq rfl (qe rfl ?_)
 refine AM h (fun v1 => mk [(4, bD v1)] []) (fun j1 h => ?_) (fun v1 h => ?_)
 ·refine Aj Az rfl (qm rfl (D1 rfl (qm rfl ?_)))
  refine Dp 7 h rfl (fun h => ?_) fun h => ?_
  ·refine qw 2 rfl (A1 rfl (qp rfl (qe rfl ?_)))
   exact sn [] h
  ·refine qw 3 rfl (qp rfl (qe rfl ?_))
   exact sn [] h
 ·obtain rfl := sj h
  refine Ae (sm [] [(4, bD v1)] [] rfl rfl) (Aq ?_)
  exact ⟨⟨[_], tm, rfl⟩, tv⟩
theorem OC (N : Nat) (p0 : Int) (p1 : Bool) (r : Bool) (h : FB N p0 p1 = some r) : As Tryz.prog 95 [iD p0, bD p1] [] (bD r) := by
 unfold FB at h
 refine cw (n := 23) (rs := [.tmp 4]) Tryz.func95 fun w0 S0 => ?_
 refine wq rfl (qe rfl ?_)
 refine AM h (fun v1 => mk [(4, bD v1)] []) (fun j1 h => ?_) (fun v1 h => ?_)
 ·refine Aj Az rfl (qm rfl (Bv rfl (qm rfl ?_)))
  refine Dp 7 h rfl (fun h => ?_) fun h => ?_
  ·refine qw 2 rfl (qp rfl (qw 4 rfl (qu rfl (qu rfl (qw 2 rfl (qu rfl (qu rfl (qn rfl (qp rfl (qe rfl ?_))))))))))
   exact sn [] h
  ·refine qm rfl (Bv rfl (qp rfl (qm rfl ?_)))
   refine Dp 11 h rfl (fun h => ?_) fun h => ?_
   ·refine qw 3 rfl (qu rfl (qu rfl (qw 2 rfl (qu rfl (qu rfl (qn rfl (qp rfl (qe rfl ?_))))))))
    exact sn [] h
   ·refine qm rfl (Bv rfl (qm rfl ?_))
    refine Dp 14 h rfl (fun h => ?_) fun h => ?_
    ·refine qw 2 rfl (qp rfl (qw 2 rfl (Cd rfl (qp rfl (qp rfl (qe rfl ?_))))))
     exact sn [] h
    ·refine qm rfl (Bv rfl (qp rfl (qm rfl ?_)))
     refine Dp 18 h rfl (fun h => ?_) fun h => ?_
     ·refine qm rfl (Cd rfl (qp rfl (qp rfl (qe rfl ?_))))
      exact sn [] h
     ·refine qw 2 rfl (qp rfl (qp rfl (qe rfl ?_)))
      exact sn [] h
 ·obtain rfl := sj h
  refine Ae (sm [] [(4, bD v1)] [] rfl rfl) (Aq ?_)
  exact ⟨⟨[_], tm, rfl⟩, tv⟩
theorem KJ (N : Nat) (p0 : List Bool) (p1 : Int) (r : Bool) (h : C3 N p0 p1 = some r) : As Tryz.prog 107 [pD (.sl (p0.map eB)), oD (.rop [.val (.int .i64 p1)])] [] (bD r) := by
 unfold C3 at h
 refine cw (n := 8) (rs := [.tmp 3]) Tryz.func107 fun w0 S0 => ?_
 refine wq rfl (qa rfl (Ad (wq rfl (qm rfl (AG Gn rfl (qk BV rfl (By rfl (qe rfl ?_))))))))
 obtain rfl := sj h
 refine Ae (sm [] [(3, bD (((p0.length : Int) != p1)))] [] rfl rfl) (Aq ?_)
 exact ⟨⟨[_], tm, rfl⟩, tv⟩
theorem GY (N : Nat) (p0 : List (List Bool)) (p1 : (List Bool) → Option Bool) (r : Int) (h : CE N p0 p1 = some r) : As Tryz.prog 112 [pD (.sl (p0.map (GF eB))), oD (.clo (Mf (Rr false (GF eB)) tB p1))] [] (iD r) := by
 unfold CE at h
 refine cw (n := 19) (rs := [.tmp 4]) Tryz.func112 fun w0 S0 => ?_
 refine wq rfl (qa rfl (Ad (wp rfl (qm rfl (AG FQ rfl (qm rfl (Ad ?_)))))))
 refine AJ (L := Bb N p0 p1) h (fun v1 => mk [(0, pD (.sl (p0.map (GF eB)))), (1, oD (.clo (Mf (Rr false (GF eB)) tB p1))), (7, iD ((p0.length : Int))), (8, iD v1)] []) (fun v2 => mk [] []) (fun _ _ => rfl) (sm [] _ _ rfl rfl) (fun j1 n1 v1 h => ?_) (fun v2 s h hs => ?_)
 ·unfold Bb at h
  refine wq rfl (A1 rfl (Ad (AP ?_)))
  refine Bh h (fun h => ?_) fun h => ?_
  ·refine Am (AP (AO (wq rfl (qm rfl (qa rfl (Ad (wq rfl (qw 3 rfl ?_))))))))
   refine B3 h fun v4 a4 b4 h => qi FQ L7 a4 (Ag b4) rfl (qk Om rfl ?_)
   refine B9 h fun v5 a5 h => QC (ds0 := [_]) (ar := (Rr false (GF eB)) v4) (.p rfl) rfl rfl ⟨rfl, tv⟩ rfl rfl rfl (QO (QA _ _ (Vx WU)) a5) ?_
   refine Ad ?_
   refine Bh h (fun h => ?_) fun h => ?_
   ·refine wq rfl (qm rfl (qe rfl ?_))
    obtain rfl := sj h
    refine Ae (sm [] [(4, iD v1)] [] rfl rfl) (Aq ?_)
    exact ⟨⟨[_], tm, rfl⟩, tv⟩
   ·refine Am (Aj Az rfl (Bq rfl (qm rfl (Ad ?_))))
    exact sn [] h
  ·refine AY ?_
   exact sn [] h
 ·refine Ae hs (wq rfl (qe rfl ?_))
  obtain rfl := sj h
  refine Ae (sm [] [(4, iD ((-1)))] [] rfl rfl) (Aq ?_)
  exact ⟨⟨[_], tm, rfl⟩, tv⟩
theorem Gu (N : Nat) (p0 : List (List Bool)) (p1 : (List Bool) → Option Bool) (r : Bool) (h : Cl N p0 p1 = some r) : As Tryz.prog 106 [pD (.sl (p0.map (GF eB))), oD (.clo (Mf (Rr false (GF eB)) tB p1))] [] (bD r) := by
 unfold Cl at h
 refine cw (n := 9) (rs := [.tmp 4]) Tryz.func106 fun w0 S0 => ?_
 refine wq rfl (qa rfl (Ad (wq rfl (qw 2 rfl ?_))))
 refine B9 h fun v1 a1 h => Av [] (GY N p0 p1 v1 a1) Wa rfl (D1 rfl (qe rfl ?_))
 obtain rfl := sj h
 refine Ae (sm [] [(4, bD ((decide (0 ≤ v1))))] [] rfl rfl) (Aq ?_)
 exact ⟨⟨[_], tm, rfl⟩, tv⟩
theorem I3 (N : Nat) (p0 : List (List Bool)) (p1 : Int) (p2 : Int) (r : Bool) (h : D5 N p0 p1 p2 = some r) : As Tryz.prog 96 [pD (.sl (p0.map (GF eB))), iD p1, iD p2] [] (bD r) := by
 unfold D5 at h
 refine cw (n := 17) (rs := [.tmp 6]) Tryz.func96 fun w0 S0 => ?_
 refine wq rfl (qb rfl (qe rfl ?_))
 refine AM h (fun v1 => mk [(6, bD v1)] []) (fun j1 h => ?_) (fun v1 h => ?_)
 ·refine Aj Az rfl (qm rfl (AG FQ rfl (qm rfl (Bv rfl (qm rfl ?_)))))
  refine Dp 11 h rfl (fun h => ?_) fun h => ?_
  ·refine qm rfl (DA (Ky 5 [.val (.int .i64 p2)] rfl rfl) ?_)
   refine PP (capD := [_]) (Mf (Rr false (GF eB)) tB ((fun (x : List Bool) => C3 N x p2))) (.g rfl rfl) VE rfl ⟨rfl, tv⟩ rfl (fun ar t ht => by obtain ⟨x, r, rfl, hq, rfl⟩ := M8 ht; exact KJ N x p2 r hq) ?_
   refine B9 h fun v3 a3 h => Av [] (Gu N p0 ((fun (x : List Bool) => C3 N x p2)) v3 a3) VW rfl (Cd rfl (qp rfl (qe rfl ?_)))
   exact sn [] h
  ·refine qw 4 rfl (qp rfl (qe rfl ?_))
   exact sn [] h
 ·obtain rfl := sj h
  refine Ae (sm [] [(6, bD v1)] [] rfl rfl) (Aq ?_)
  exact ⟨⟨[_], tm, rfl⟩, tv⟩
theorem MG (N : Nat) (p0 : Aa) (p1 : Ar) (r : Int) (h : Fl N p0 p1 = some r) : As Tryz.prog 76 [.e (.agg (Ah p0)), .e (.agg (A9 p1))] [] (iD r) := by
 unfold Fl at h
 refine cw (n := 87) (rs := [.tmp 4]) Tryz.func76 fun w0 S0 => ?_
 refine wq rfl (qb rfl (qb rfl (qa rfl (Ad (wp rfl (qf EV rfl (ql BV rfl (qf HT rfl (ql Qz rfl ?_)))))))))
 refine B9 h fun v1 a1 h => Av [] (OC N p1.ff p1.fp v1 a1) WC rfl (Cd rfl (Ad ?_))
 refine Bh h (fun h => ?_) fun h => ?_
 ·refine wq rfl (qe rfl ?_)
  obtain rfl := sj h
  refine Ae (sm [] [(4, iD 1)] [] rfl rfl) (Aq ?_)
  exact ⟨⟨[_], tm, rfl⟩, tv⟩
 ·refine Am (AP ?_)
  refine AM h (fun v3 => mk [(2, oD (.ptr 2 0)), (3, oD (.ptr 3 0)), (29, bD v3)] [(2, .box (Ah p0)), (3, .box (A9 p1))]) (fun j3 h => ?_) (fun v3 h => ?_)
  ·refine Aj Az rfl (qf Cy rfl (ql BV rfl (qf Bn rfl (ql A0 rfl (AG Ax rfl ?_)))))
   refine B9 h fun v4 a4 h => Av [] (Gj N p1.fg ((p0.fb.length : Int)) v4 a4) TU rfl (Cd rfl (qm rfl ?_))
   refine Dp 21 h rfl (fun h => ?_) fun h => ?_
   ·refine qw 7 rfl (qp rfl (Ad ?_))
    exact sn [] h
   ·refine qf Hf rfl (ql BV rfl (qf Bn rfl (ql A0 rfl (AG Ax rfl ?_))))
    refine B9 h fun v6 a6 h => Av [] (Gj N p1.fk ((p0.fb.length : Int)) v6 a6) TU rfl (Cd rfl (qp rfl (Ad ?_)))
    exact sn [] h
  ·refine Bh h (fun h => ?_) fun h => ?_
   ·refine wq rfl (qe rfl ?_)
    obtain rfl := sj h
    refine Ae (sm [] [(4, iD 4)] [] rfl rfl) (Aq ?_)
    exact ⟨⟨[_], tm, rfl⟩, tv⟩
   ·refine Am (wq rfl (qf Bn rfl (ql A0 rfl (qf Cy rfl (ql BV rfl ?_)))))
    refine B3 h fun v8 a8 b8 h => qi Ax CT a8 (Ag b8) rfl (qk BV rfl (qa rfl (Ad (wq rfl (qf EV rfl (ql BV rfl (Bv rfl (qa rfl (Ad (AP ?_))))))))))
    refine AM h (fun v9 => mk [(3, oD (.ptr 3 0)), (70, bD v9)] [(3, .box (A9 p1))]) (fun j9 h => ?_) (fun v9 h => ?_)
    ·refine Aj Az rfl (qf Iy rfl (ql Je rfl (qm rfl (qf Bn rfl (ql A0 rfl (qf Hf rfl (ql BV rfl ?_)))))))
     refine B3 h fun v10 a10 b10 h => qi Ax CT a10 (Ag b10) rfl (qk BV rfl ?_)
     refine B9 h fun v11 a11 h => Av [] (I3 N p1.fq v8 v10 v11 a11) VM rfl (Cd rfl (qm rfl ?_))
     refine Dp 50 h rfl (fun h => ?_) fun h => ?_
     ·refine qw 2 rfl (qu rfl (qu rfl (qu rfl (qu rfl (qu rfl (qu rfl (qn rfl (qp rfl (qw 4 rfl (qu rfl (qu rfl (qu rfl (qu rfl (qn rfl (qp rfl (AH (by kernel_rfl) ?_))))))))))))))))
      exact sn [] h
     ·refine qw 2 rfl ?_
      refine Dp 52 h rfl (fun h => ?_) fun h => ?_
      ·refine qf FT rfl (ql Je rfl (qw 2 rfl ?_))
       refine B9 h fun v14 a14 h => Av [] (I3 N p1.fm v8 v8 v14 a14) VM rfl (Cd rfl (qp rfl (qp rfl (qm rfl ?_))))
       refine Dp 61 h rfl (fun h => ?_) fun h => ?_
       ·refine qw 3 rfl (qu rfl (qu rfl (qu rfl (qu rfl (qn rfl (qp rfl (AH (by kernel_rfl) ?_)))))))
        exact sn [] h
       ·refine qm rfl (Cd rfl (qm rfl ?_))
        refine Dp 64 h rfl (fun h => ?_) fun h => ?_
        ·refine qf FT rfl (ql Je rfl (AG FQ rfl (E0 rfl (qp rfl (qp rfl (AH (by kernel_rfl) ?_))))))
         exact sn [] h
        ·refine qw 4 rfl (qp rfl (qp rfl (AH (by kernel_rfl) ?_)))
         exact sn [] h
      ·refine qw 6 rfl (qp rfl (qp rfl (qw 2 rfl (Cd rfl (qm rfl ?_)))))
       refine Dp 64 h rfl (fun h => ?_) fun h => ?_
       ·refine qf FT rfl (ql Je rfl (AG FQ rfl (E0 rfl (qp rfl (qp rfl (AH (by kernel_rfl) ?_))))))
        exact sn [] h
       ·refine qw 4 rfl (qp rfl (qp rfl (AH (by kernel_rfl) ?_)))
        exact sn [] h
    ·refine Bh h (fun h => ?_) fun h => ?_
     ·refine wq rfl (qe rfl ?_)
      obtain rfl := sj h
      refine Ae (sm [] [(4, iD 6)] [] rfl rfl) (Aq ?_)
      exact ⟨⟨[_], tm, rfl⟩, tv⟩
     ·refine Am (wp rfl (qf FT rfl (ql Je rfl (AG FQ rfl (qm rfl (Ad ?_))))))
      refine AJ (L := Cu N p1) h (fun v19 => mk [(3, oD (.ptr 3 0)), (73, iD ((p1.fm.length : Int))), (74, iD v19)] [(3, .box (A9 p1))]) (fun v20 => mk [] []) (fun _ _ => rfl) (sm [] _ _ rfl rfl) (fun j19 n19 v19 h => ?_) (fun v20 s h hs => ?_)
      ·unfold Cu at h
       refine wq rfl (A1 rfl (Ad (AP ?_)))
       refine Bh h (fun h => ?_) fun h => ?_
       ·refine Am (AP (AO (wq rfl (qm rfl (qa rfl (Ad (wq rfl (qf FT rfl (ql Je rfl (qm rfl ?_))))))))))
        refine B3 h fun v22 a22 b22 h => qi FQ L7 a22 (Ag b22) rfl (qk Om rfl (qm rfl ?_))
        refine B3 h fun v23 a23 b23 h => qi Gn P2 a23 (Ag b23) rfl (qk Qz rfl (Cd rfl (Ad ?_)))
        refine Bh h (fun h => ?_) fun h => ?_
        ·refine wq rfl (qe rfl ?_)
         obtain rfl := sj h
         refine Ae (sm [] [(4, iD 1)] [] rfl rfl) (Aq ?_)
         exact ⟨⟨[_], tm, rfl⟩, tv⟩
        ·refine Am (Aj Az rfl (Bq rfl (qm rfl (Ad ?_))))
         exact sn [] h
       ·refine AY ?_
        exact sn [] h
      ·refine Ae hs (wq rfl (qe rfl ?_))
       obtain rfl := sj h
       refine Ae (sm [] [(4, iD 0)] [] rfl rfl) (Aq ?_)
       exact ⟨⟨[_], tm, rfl⟩, tv⟩
theorem Fc (N : Nat) (p0 : Aa) (r : Int) (h : Ch N p0 = some r) : As Tryz.prog 50 [.e (.agg (Ah p0))] [] (iD r) := by
 unfold Ch at h
 refine cw (n := 81) (rs := [.tmp 2]) Tryz.func50 fun w0 S0 => ?_
 refine wq rfl (qb rfl (qa rfl (Ad (wq rfl (qf Bn rfl (ql A0 rfl (AG Ax rfl (qa rfl (Ad (AP ?_))))))))))
 refine AM h (fun v1 => mk [(1, oD (.ptr 1 0)), (3, iD ((p0.fb.length : Int))), (19, bD v1)] [(1, .box (Ah p0))]) (fun j1 h => ?_) (fun v1 h => ?_)
 ·refine Aj Az rfl (qm rfl (E0 rfl (qm rfl ?_)))
  refine Dp 14 h rfl (fun h => ?_) fun h => ?_
  ·refine qw 4 rfl (qp rfl (Ad ?_))
   exact sn [] h
  ·refine qf Ct rfl (ql GI rfl (AG DI rfl (E0 rfl (qp rfl (Ad ?_)))))
   exact sn [] h
 ·refine Bh h (fun h => ?_) fun h => ?_
  ·refine wq rfl (qe rfl ?_)
   obtain rfl := sj h
   refine Ae (sm [] [(2, iD 3)] [] rfl rfl) (Aq ?_)
   exact ⟨⟨[_], tm, rfl⟩, tv⟩
  ·refine Am (AP ?_)
   refine AM h (fun v4 => mk [(1, oD (.ptr 1 0)), (31, bD v4)] [(1, .box (Ah p0))]) (fun j4 h => ?_) (fun v4 h => ?_)
   ·refine Aj Az rfl (qf zFS rfl (ql A0 rfl (AG Ax rfl (qm rfl (By rfl (qm rfl ?_))))))
    refine Dp 25 h rfl (fun h => ?_) fun h => ?_
    ·refine qw 5 rfl (qp rfl (Ad ?_))
     exact sn [] h
    ·refine qf Hd rfl (ql A0 rfl (AG Ax rfl (qm rfl (By rfl (qp rfl (Ad ?_))))))
     exact sn [] h
   ·refine Bh h (fun h => ?_) fun h => ?_
    ·refine wq rfl (qe rfl ?_)
     obtain rfl := sj h
     refine Ae (sm [] [(2, iD 6)] [] rfl rfl) (Aq ?_)
     exact ⟨⟨[_], tm, rfl⟩, tv⟩
    ·refine Am (wp rfl (qf Bn rfl (ql A0 rfl (AG Ax rfl (qm rfl (Ad ?_))))))
     refine AJ (L := BD N p0) h (fun v7 => mk [(1, oD (.ptr 1 0)), (33, pD (.sl (p0.fb.map Ao))), (34, iD ((p0.fb.length : Int))), (35, iD v7)] [(1, .box (Ah p0))]) (fun v8 => mk [(1, oD (.ptr 1 0))] [(1, .box (Ah p0))]) (fun _ _ => rfl) (sm [] _ _ rfl rfl) (fun j7 n7 v7 h => ?_) (fun v8 s h hs => ?_)
     ·unfold BD at h
      refine wq rfl (A1 rfl (Ad (AP ?_)))
      refine Bh h (fun h => ?_) fun h => ?_
      ·refine Am (AP (AO (wq rfl (qm rfl ?_))))
       refine B3 h fun v10 a10 b10 h => qi Ax CT a10 (Ag b10) rfl (qk BV rfl (qa rfl (qe rfl ?_)))
       refine AM h (fun v11 => mk [(1, oD (.ptr 1 0)), (33, pD (.sl (p0.fb.map Ao))), (34, iD ((p0.fb.length : Int))), (35, iD v7), (65, bD v11)] [(1, .box (Ah p0))]) (fun j11 h => ?_) (fun v11 h => ?_)
       ·refine Aj Az rfl (qm rfl (A1 rfl (qm rfl ?_)))
        refine Dp 42 h rfl (fun h => ?_) fun h => ?_
        ·refine qw 2 rfl (qp rfl (qw 9 rfl (qp rfl (qw 9 rfl (qp rfl (Ad ?_))))))
         exact sn [] h
        ·refine qm rfl (E0 rfl (qp rfl (qm rfl ?_)))
         refine Dp 46 h rfl (fun h => ?_) fun h => ?_
         ·refine qw 8 rfl (qp rfl (qw 9 rfl (qp rfl (Ad ?_))))
          exact sn [] h
         ·refine qf zFS rfl (ql A0 rfl (qm rfl ?_))
          refine B3 h fun v14 a14 b14 h => qi Ax CT a14 (Ag b14) rfl (qk BV rfl (qm rfl ?_))
          refine B9 h fun v15 a15 h => Av [] (Gj N v14 v10 v15 a15) TU rfl (Cd rfl (qp rfl (qm rfl ?_)))
          refine Dp 56 h rfl (fun h => ?_) fun h => ?_
          ·refine qw 8 rfl (qp rfl (Ad ?_))
           exact sn [] h
          ·refine qf Hd rfl (ql A0 rfl (qm rfl ?_))
           refine B3 h fun v17 a17 b17 h => qi Ax CT a17 (Ag b17) rfl (qk BV rfl (qm rfl ?_))
           refine B9 h fun v18 a18 h => Av [] (Gj N v17 v10 v18 a18) TU rfl (Cd rfl (qp rfl (Ad ?_)))
           exact sn [] h
       ·refine Bh h (fun h => ?_) fun h => ?_
        ·refine wq rfl (qe rfl ?_)
         obtain rfl := sj h
         refine Ae (sm [] [(2, iD 7)] [] rfl rfl) (Aq ?_)
         exact ⟨⟨[_], tm, rfl⟩, tv⟩
        ·refine Am (Aj Az rfl (Bq rfl (qm rfl (Ad ?_))))
         exact sn [] h
      ·refine AY ?_
       exact sn [] h
     ·refine Ae hs (wp rfl (qf Ct rfl (ql GI rfl (AG DI rfl (qm rfl (Ad ?_))))))
      refine AJ (L := Bu N p0) h (fun v20 => mk [(1, oD (.ptr 1 0)), (68, pD (.sl (p0.fc.map AQ))), (69, iD ((p0.fc.length : Int))), (70, iD v20)] [(1, .box (Ah p0))]) (fun v21 => mk [] []) (fun _ _ => rfl) (sm [] _ _ rfl rfl) (fun j20 n20 v20 h => ?_) (fun v21 s h hs => ?_)
      ·unfold Bu at h
       refine wq rfl (A1 rfl (Ad (AP ?_)))
       refine Bh h (fun h => ?_) fun h => ?_
       ·refine Am (AP (AO (wq rfl ?_)))
        refine B3 h fun v23 a23 b23 h => qi DI DH a23 (Ag b23) rfl (qK GB DH rfl (qz KK rfl (qs DH rfl (Ad (wq rfl (qL CI Cv rfl (qL GB DH rfl ?_)))))))
        refine B9 h fun v24 a24 h => Av [] (MG N p0 v23 v24 a24) WT rfl (qa rfl (Ad (wq rfl (qm rfl (By rfl (Ad ?_))))))
        refine Bh h (fun h => ?_) fun h => ?_
        ·refine wq rfl (qm rfl (qe rfl ?_))
         obtain rfl := sj h
         refine Ae (sm [] [(2, iD v24)] [] rfl rfl) (Aq ?_)
         exact ⟨⟨[_], tm, rfl⟩, tv⟩
        ·refine Am (Aj Az rfl (Bq rfl (qm rfl (Ad ?_))))
         exact sn [] h
       ·refine AY ?_
        exact sn [] h
      ·refine Ae hs (wq rfl (qe rfl ?_))
       obtain rfl := sj h
       refine Ae (sm [] [(2, iD 0)] [] rfl rfl) (Aq ?_)
       exact ⟨⟨[_], tm, rfl⟩, tv⟩
theorem C2 (N : Nat) (p0 : List Int) (r : (List Int)) (h : Br N p0 = some r) : As Tryz.prog 66 [pD (.sl (p0.map Ao))] [(1, r.map Ao)] (oD (.own 0)) := by
 unfold Br at h
 refine cw (n := 8) (rs := [.tmp 2]) Tryz.func66 fun w0 S0 => ?_
 refine wq rfl (qa rfl (Ad (wp rfl (qm rfl ?_))))
 refine N4 (.p rfl) rfl Ax ?_
 refine Ad ?_
 refine OA rfl (fun c2 => ?_) ?_
 ·have c2 := List.map_eq_nil_iff.1 c2
  rw [c2] at h
  have h : (some (([] : List Int))) = some r := h
  refine wq rfl (qe rfl ?_)
  obtain rfl := sj h
  refine Ae ((Ca 2 2001 1 rfl rfl rfl).trans (sm [(1000, 2001)] [(2, oD (.own 1000))] [(1000, .vec 1 ((([] : List Int)).map Ao))] rfl rfl)) (Aq ?_)
  exact ⟨⟨[_], tm, rfl⟩, ⟨rfl, tv⟩⟩
 ·refine Am (wq rfl (El Ax CT KG rfl (qm rfl ?_)))
  refine E1 h fun c1 h => H8 (f := Ao) Ax Ax CT Lz KG (fun _ => rfl) c1 rfl (qe rfl ?_)
  obtain rfl := sj h
  refine Ae (sm [(1000, 7)] [(2, oD (.own 1000))] [(1000, .vec 1 (((([] : List Int)) ++ p0).map Ao))] rfl rfl) (Aq ?_)
  exact ⟨⟨[_], tm, rfl⟩, ⟨rfl, tv⟩⟩
theorem Kt (N : Nat) (p0 : Int) (p1 : Int) (r : Int × Int) (h : FZ N p0 p1 = some r) : As Tryz.prog 104 [pD (.val (.int .u32 p0)), pD (.val (.int .u32 p1))] [] (.tup [.one (.pure (.val (.int .u32 r.1))), .one (.pure (.val (.int .u32 r.2)))]) := by
 unfold FZ at h
 refine cw (n := 17) (rs := [.tmp 4, .tmp 5]) Tryz.func104 fun w0 S0 => ?_
 refine wq rfl (qa rfl (qa rfl (Ad (wq rfl (qm rfl (IS Qw Ub rfl (qm rfl (IS Qw Ub rfl (Ki rfl (qa rfl (Ad (wq rfl (qm rfl (If rfl (by decide) (IS Uh Qp rfl (qm rfl (IS Uh Qp rfl (qa rfl (qe rfl ?_)))))))))))))))))))
 obtain rfl := sj h
 refine Ae (sm [] [(4, pD (.val (.int .u32 ((wI .u32 ((EA .u64 ((wI .u64 ((wI .u64 p0) * (wI .u64 p1)))) 32))))))), (5, pD (.val (.int .u32 ((wI .u32 ((wI .u64 ((wI .u64 p0) * (wI .u64 p1)))))))))] [] rfl rfl) (Aq ?_)
 exact ⟨⟨[_, _], ⟨.tmp _ _ rfl, tm⟩, rfl⟩, tv⟩
theorem J8 (N : Nat) (p0 : Int) (p1 : Int) (r : Int × Int) (h : F0 N p0 p1 = some r) : As Tryz.prog 105 [pD (.val (.int .u64 p0)), pD (.val (.int .u64 p1))] [] (.tup [.one (.pure (.val (.int .u64 r.1))), .one (.pure (.val (.int .u64 r.2)))]) := by
 unfold F0 at h
 refine cw (n := 51) (rs := [.tmp 4, .tmp 5]) Tryz.func105 fun w0 S0 => ?_
 refine wq rfl (qa rfl (qa rfl (Ad (wq rfl (qm rfl (Lq rfl (qa rfl (Ad (wq rfl (qm rfl (If rfl (by decide) (qa rfl (Ad (wq rfl (qm rfl (Lq rfl (qa rfl (Ad (wq rfl (qm rfl (If rfl (by decide) (qa rfl (Ad (wq rfl (qw 2 rfl (Ki rfl (qa rfl (Ad (wq rfl (qw 2 rfl ?_))))))))))))))))))))))))))))))
 refine Ki rfl (qm rfl (If rfl (by decide) (Bq rfl (qa rfl (Ad (wq rfl (qm rfl (Lq rfl (qa rfl (Ad (wq rfl (qm rfl (If rfl (by decide) (qa rfl (Ad (wq rfl (qw 3 rfl (Ki rfl (Bq rfl (qa rfl (Ad (wq rfl (qw 2 rfl (Ki rfl (qm rfl (Bq rfl (qm rfl (If rfl (by decide) (Bq rfl (qa rfl (Ad (AP ?_))))))))))))))))))))))))))))))))
 refine Aj Az rfl (qw 2 rfl (Ki rfl (qe rfl ?_)))
 obtain rfl := sj h
 refine Ae (sm [] [(4, pD (.val (.int .u64 ((wI .u64 ((wI .u64 ((wI .u64 ((EA .u64 p0 32) * (EA .u64 p1 32))) + (EA .u64 ((wI .u64 ((wI .u64 ((EA .u64 p0 32) * (Ft .u64 p1 4294967295))) + (EA .u64 ((wI .u64 ((Ft .u64 p0 4294967295) * (Ft .u64 p1 4294967295)))) 32)))) 32))) + (EA .u64 ((wI .u64 ((Ft .u64 ((wI .u64 ((wI .u64 ((EA .u64 p0 32) * (Ft .u64 p1 4294967295))) + (EA .u64 ((wI .u64 ((Ft .u64 p0 4294967295) * (Ft .u64 p1 4294967295)))) 32)))) 4294967295) + (wI .u64 ((Ft .u64 p0 4294967295) * (EA .u64 p1 32)))))) 32))))))), (5, pD (.val (.int .u64 ((wI .u64 (p0 * p1))))))] [] rfl rfl) (Aq ?_)
 exact ⟨⟨[_, _], ⟨.tmp _ _ rfl, tm⟩, rfl⟩, tv⟩
theorem LA (N : Nat) (p0 : Int) (p1 : Int) (r : Int × Int) (h : GA N p0 p1 = some r) : As Tryz.prog 91 [pD (.val (.int .u64 p0)), pD (.val (.int .u64 p1))] [] (.tup [.one (.pure (.val (.int .u64 r.1))), .one (.pure (.val (.int .u64 r.2)))]) := by
 unfold GA at h
 refine cw (n := 30) (rs := [.tmp 4, .tmp 5]) Tryz.func91 fun w0 S0 => ?_
 refine wq rfl (qa rfl (qa rfl (Ad (AP ?_))))
 refine Bh h (fun h => ?_) fun h => ?_
 ·refine wq rfl (qm rfl (IS RT Qp rfl (qm rfl (IS RT Qp rfl ?_))))
  refine B9 h fun v2 a2 h => Av [] (Kt N ((wI .u32 p0)) ((wI .u32 p1)) v2 a2) We rfl (qm rfl (qx rfl (qx rfl (qa rfl (qa rfl (Ad (wq rfl (qm rfl (IS Qw QR rfl (qm rfl (IS Qw QR rfl (qa rfl (qe rfl ?_)))))))))))))
  obtain rfl := sj h
  refine Ae (sm [] [(4, pD (.val (.int .u64 ((wI .u64 v2.1))))), (5, pD (.val (.int .u64 ((wI .u64 v2.2)))))] [] rfl rfl) (Aq ?_)
  exact ⟨⟨[_, _], ⟨.tmp _ _ rfl, tm⟩, rfl⟩, tv⟩
 ·refine Am (wq rfl (qw 2 rfl ?_))
  refine B9 h fun v3 a3 h => Av [] (J8 N p0 p1 v3 a3) VQ rfl (qm rfl (qx rfl (qx rfl (qa rfl (qa rfl (Ad (wq rfl (qw 2 rfl (qa rfl (qe rfl ?_))))))))))
  obtain rfl := sj h
  refine Ae (sm [] [(4, pD (.val (.int .u64 v3.1))), (5, pD (.val (.int .u64 v3.2)))] [] rfl rfl) (Aq ?_)
  exact ⟨⟨[_, _], ⟨.tmp _ _ rfl, tm⟩, rfl⟩, tv⟩
theorem Ic (N : Nat) (p0 : List Int) (p1 : Int) (r : (List Int)) (h : Dy N p0 p1 = some r) : As Tryz.prog 67 [pD (.sl (p0.map Ao)), iD p1] [(1, r.map Ao)] (oD (.own 0)) := by
 unfold Dy at h
 refine cw (n := 48) (rs := [.tmp 4]) Tryz.func67 fun w0 S0 => ?_
 refine wq rfl (qe rfl ?_)
 refine AM h (fun v1 => mk [(0, pD (.sl (p0.map Ao))), (1, iD p1)] []) (fun j1 h => ?_) (fun v1 h => ?_)
 ·refine wq rfl (qm rfl (A1 rfl (Ad ?_)))
  refine Bh h (fun h => ?_) fun h => ?_
  ·refine Aj Az rfl ?_
   cases h
  ·refine Am ?_
   exact sn [] h
 ·refine wq rfl (qm rfl (AG Ax rfl (IS Xy QR rfl (qm rfl (IS Xy QR rfl ?_)))))
  refine B9 h fun v3 a3 h => Av [] (LA N ((wI .u64 ((p0.length : Int)))) ((wI .u64 p1)) v3 a3) Wx rfl (qm rfl (qx rfl (qx rfl (qa rfl (qe rfl ?_)))))
  refine AM h (fun v4 => mk [(0, pD (.sl (p0.map Ao))), (6, pD (.val (.int .u64 v3.2)))] []) (fun j4 h => ?_) (fun v4 h => ?_)
  ·refine AM h (fun v5 => mk [(0, pD (.sl (p0.map Ao))), (6, pD (.val (.int .u64 v3.2))), (26, bD v5)] []) (fun j5 h => ?_) (fun v5 h => ?_)
   ·refine Aj Az rfl (qm rfl (E0 rfl (qm rfl ?_)))
    refine Dp 23 h rfl (fun h => ?_) fun h => ?_
    ·refine qw 2 rfl (qp rfl (Ad ?_))
     exact sn [] h
    ·refine qm rfl (E0 rfl (qp rfl (Ad ?_)))
     exact sn [] h
   ·refine Bh h (fun h => ?_) fun h => ?_
    ·refine Aj Az rfl ?_
     cases h
    ·refine Am ?_
     exact sn [] h
  ·refine wq rfl (qm rfl (IS RT Ur rfl ?_))
   refine E1 h fun c8 h => Lv (.p rfl) rfl rfl rfl Ax CT Lz (Iq rfl) KG rfl rfl rfl c8.1 c8.2.1 c8.2.2 (QK Ao _ ((0 : Int))) ?_
   refine qa rfl (Ad (wq rfl (qw 2 rfl ?_)))
   refine QS Ao (List.replicate ((wI .i64 v3.2)).toNat ((0 : Int))) p0 (.p rfl) rfl (Hl Ao _ _ (List.replicate ((wI .i64 v3.2)).toNat ((0 : Int)))) rfl rfl (TW Ao _ _ (fun _ => rfl)) tv Ax CT ?_
   refine qa rfl (Ad (AP ?_))
   refine AJ (L := CW N) h (fun v9 => mk [(7, oD (.own 2001)), (8, iD v9.2)] [(2001, .vec 1 (v9.1.map Ao))]) (fun v10 => mk [(7, oD (.own 2002))] [(2002, .vec 1 (v10.map Ao))]) (fun _ _ => rfl) (sm [(2001, 30)] _ _ rfl rfl) (fun j9 n9 v9 h => ?_) (fun v10 s h hs => ?_)
   ·unfold CW at h
    refine wp rfl (qw 2 rfl (E9 Ax rfl (A1 rfl (Ad ?_))))
    refine Bh h (fun h => ?_) fun h => ?_
    ·refine Am (AO (Aj Az rfl (qw 3 rfl ?_)))
     obtain ⟨c12, h⟩ := EQ h
     have w13 : ((v9.2).toNat) + ((v9.1.length - (v9.2).toNat)) ≤ v9.1.length := by have := c12.2.1; have := c12.2.2; omega
     refine Hy Ao v9.1 (.p rfl) rfl (Hl Ao _ _ v9.1) rfl Ax CT (.some _ _ _ _ c12.1) (.none _) ⟨rfl, tv⟩ tv c12.2.1 (by rw [Nat.zero_add]; exact c12.2.2) (Nat.zero_add _) rfl ?_
     refine qw 2 rfl ?_
     obtain ⟨c14, h⟩ := EQ h
     have w15 : 0 + ((v9.2).toNat) ≤ v9.1.length := by have := c14.2.1; have := c14.2.2; omega
     refine Hy Ao v9.1 (.p rfl) rfl (Hl Ao _ _ v9.1) rfl Ax CT (.none _) (.some _ _ _ _ c14.1) tv ⟨rfl, tv⟩ c14.2.1 (by rw [Nat.zero_add]; exact c14.2.2) (Nat.zero_add _) rfl ?_
     refine QS Ao v9.1 (((v9.1.drop 0).take ((v9.2).toNat))) (.p rfl) rfl (Ij Ao _ _ ((v9.2).toNat) ((v9.1.length - (v9.2).toNat)) v9.1 w13) rfl rfl (K3 Ao _ _ 0 ((v9.2).toNat) v9.1 w15) ⟨rfl, tv⟩ Ax CT ?_
     refine Bq rfl (qa rfl (AH (by kernel_rfl) ?_))
     exact sn [] h
    ·refine AY ?_
     exact sn [(2002, 2001)] h
   ·refine Ae hs (wq rfl (qm rfl (qe rfl ?_)))
    obtain rfl := sj h
    refine Ae (sm [(1000, 2002)] [(4, oD (.own 1000))] [(1000, .vec 1 (v10.map Ao))] rfl rfl) (Aq ?_)
    exact ⟨⟨[_], tm, rfl⟩, ⟨rfl, tv⟩⟩
theorem Iu (N : Nat) (p0 : Ar) (r : Bool) (h : Ei N p0 = some r) : As Tryz.prog 51 [.e (.agg (A9 p0))] [] (bD r) := by
 unfold Ei at h
 refine cw (n := 11) (rs := [.tmp 2]) Tryz.func51 fun w0 S0 => ?_
 refine wq rfl (qb rfl (qe rfl ?_))
 refine AM h (fun v1 => mk [(2, bD v1)] []) (fun j1 h => ?_) (fun v1 h => ?_)
 ·refine Aj Az rfl (qf EV rfl (ql BV rfl (Bv rfl (qm rfl ?_))))
  refine Dp 6 h rfl (fun h => ?_) fun h => ?_
  ·refine qw 3 rfl (qp rfl (qe rfl ?_))
   exact sn [] h
  ·refine qf EV rfl (ql BV rfl (Bv rfl (qp rfl (qe rfl ?_))))
   exact sn [] h
 ·obtain rfl := sj h
  refine Ae (sm [] [(2, bD v1)] [] rfl rfl) (Aq ?_)
  exact ⟨⟨[_], tm, rfl⟩, tv⟩
theorem Jh (N : Nat) (p0 : Aa) (r : Ab × Int) (h : EG N p0 = some r) : As Tryz.prog 44 [.e (.agg (Ah p0))] [(1, r.1.fe.map Ao), (1, r.1.fa.map Ao), (1, r.1.fd.map B6)] (.tup [.agg [.own 0, .own 1, .own 2], .one (iC r.2)]) := by
 unfold EG at h
 refine cw (n := 50) (rs := [.cell 2 38, .tmp 3]) Tryz.func44 fun w0 S0 => ?_
 refine wq rfl (qb rfl (qz B4 rfl (qa rfl (Ad (wp rfl (qL CI Cv rfl ?_))))))
 refine B9 h fun v1 a1 h => Av [] (Fc N p0 v1 a1) Vd rfl (qa rfl (Ad (wq rfl (qm rfl (By rfl (Ad ?_))))))
 refine Bh h (fun h => ?_) fun h => ?_
 ·refine wq rfl (AR B4 E6 rfl (qm rfl (qs AE rfl (qe rfl ?_))))
  obtain rfl := sj h
  refine Ae ((Aw 2 0 2001 1 _ rfl rfl rfl rfl).trans ((Aw 2 1 2002 1 _ rfl rfl rfl rfl).trans ((Aw 2 2 2003 1 _ rfl rfl rfl rfl).trans (sm [(1000, 2001), (1001, 2002), (1002, 2003)] [(2, oD (.ptr 2 0)), (3, iD v1)] [(2, .box [.own 1000, .own 1001, .own 1002]), (1000, .vec 1 ((([] : List Int)).map Ao)), (1001, .vec 1 ((([] : List Int)).map Ao)), (1002, .vec 1 ((([] : List Int)).map B6))] rfl rfl)))) (Aq ?_)
  exact ⟨⟨[_, _], ⟨.cellN _ _ _ _ _ _ _ rfl rfl A7 AE rfl rfl (Fq rfl), tm⟩, rfl⟩, ⟨rfl, rfl, rfl, tv⟩⟩
 ·refine Am (wq rfl (qf zFS rfl (ql A0 rfl ?_)))
  refine B9 h fun v3 a3 h => Av [2004] (C2 N p0.fi v3 a3) Sq rfl (El Ax CT KG rfl (qf zFS rfl (ql A0 rfl (AG Ax rfl ?_))))
  refine B9 h fun v4 a4 h => Ip [2005] [17] (Ic N (([(-1)] : List Int)) ((p0.fi.length : Int)) v4 a4) Xo (PR (fun _ => rfl) GC) rfl (qf Ct rfl (ql GI rfl (AG DI rfl ?_)))
  refine E1 h fun c5 h => Lv (.p rfl) rfl rfl rfl CK E5 Ps (Iq rfl) NQ rfl rfl rfl c5.1 c5.2.1 c5.2.2 (QK B6 _ ((0 : Int))) ?_
  refine AR B4 E6 rfl (qz B4 rfl (qs AE rfl (AH (by kernel_rfl) (wp rfl (qf Ct rfl (ql GI rfl (AG DI rfl (qm rfl (Ad ?_)))))))))
  refine AJ (L := Dd N p0) h (fun v6 => mk [(1, oD (.ptr 1 0)), (2, oD (.ptr 2 0)), (5, oD (.ptr 5 0)), (28, pD (.sl (p0.fc.map AQ))), (29, iD ((p0.fc.length : Int))), (30, iD v6.2)] [(1, .box (Ah p0)), (2, .box [.pure (.nil0), .pure (.nil0), .pure (.nil0)]), (5, .box [.own 2006, .own 2007, .own 2008]), (2006, .vec 1 (v3.map Ao)), (2007, .vec 1 (v4.map Ao)), (2008, .vec 1 (v6.1.map B6))]) (fun v7 => mk [(2, oD (.ptr 2 0)), (5, oD (.ptr 5 0))] [(2, .box [.pure (.nil0), .pure (.nil0), .pure (.nil0)]), (5, .box [.own 2009, .own 2010, .own 2011]), (2009, .vec 1 (v3.map Ao)), (2010, .vec 1 (v4.map Ao)), (2011, .vec 1 (v7.map B6))]) (fun _ _ => rfl) (sm [(2006, 2004), (2007, 2005), (2008, 25)] _ _ rfl rfl) (fun j6 n6 v6 h => ?_) (fun v7 s h hs => ?_)
  ·unfold Dd at h
   refine wq rfl (A1 rfl (Ad (AP ?_)))
   refine Bh h (fun h => ?_) fun h => ?_
   ·refine Am ?_
    refine AM h (fun v9 => mk [(1, oD (.ptr 1 0)), (2, oD (.ptr 2 0)), (5, oD (.ptr 5 0)), (28, pD (.sl (p0.fc.map AQ))), (29, iD ((p0.fc.length : Int))), (30, iD v6.2)] [(1, .box (Ah p0)), (2, .box [.pure (.nil0), .pure (.nil0), .pure (.nil0)]), (5, .box [.own 2012, .own 2013, .own 2014]), (2012, .vec 1 (v3.map Ao)), (2013, .vec 1 (v4.map Ao)), (2014, .vec 1 (v9.map B6))]) (fun j9 h => ?_) (fun v9 h => ?_)
    ·refine AO (wq rfl (qm rfl ?_))
     refine B3 h fun v10 a10 b10 h => qi DI DH a10 (Ag b10) rfl (qK GB DH rfl (qz KK rfl (qa rfl (qs DH rfl (Ad (wq rfl (qL GB DH rfl ?_)))))))
     refine B9 h fun v11 a11 h => Av [] (Iu N v10 v11 a11) UZ rfl (Ad ?_)
     refine Bh h (fun h => ?_) fun h => ?_
     ·refine Aj Az rfl (qf Ck rfl (ql Gv rfl (qm rfl (qf zFS rfl (ql A0 rfl (qf Cy rfl (ql BV rfl ?_)))))))
      refine B3 h fun v13 a13 b13 h => qi Ax CT a13 (Ag b13) rfl (qk BV rfl ?_)
      refine E1 h fun c14 h => HU rfl c14 ?_
      refine B3 h fun v15 a15 b15 h => qI CK E5 a15 (Ag b15) rfl ?_
      refine Ea rfl rfl rfl rfl (Ag b15) rfl E5 rfl (Iq rfl) (Ec B6 v6.1 _ ((C0 .u8 1 v13))) ?_
      refine AH (by kernel_rfl) ?_
      exact sn [(2012, 2006), (2013, 2007), (2014, 2008)] h
     ·refine Am ?_
      exact sn [(2012, 2006), (2013, 2007), (2014, 2008)] h
    ·refine Aj Az rfl (Bq rfl (qm rfl (Ad ?_)))
     exact sn [(2006, 2012), (2007, 2013), (2008, 2014)] h
   ·refine AY ?_
    exact sn [(2009, 2006), (2010, 2007), (2011, 2008)] h
  ·refine Ae hs (wq rfl (qL A7 AE rfl (qs AE rfl (qe rfl ?_))))
   obtain rfl := sj h
   refine Ae (sm [(1000, 2009), (1001, 2010), (1002, 2011)] [(2, oD (.ptr 2 0)), (3, iD 0)] [(2, .box [.own 1000, .own 1001, .own 1002]), (1000, .vec 1 (v3.map Ao)), (1001, .vec 1 (v4.map Ao)), (1002, .vec 1 (v7.map B6))] rfl rfl) (Aq ?_)
   exact ⟨⟨[_, _], ⟨.cellN _ _ _ _ _ _ _ rfl rfl A7 AE rfl rfl (Fq rfl), tm⟩, rfl⟩, ⟨rfl, rfl, rfl, tv⟩⟩
theorem H9 (N : Nat) (p0 : Ab) (p1 : Int) (r : Int) (h : D0 N p0 p1 = some r) : As Tryz.prog 52 [.e (.agg (Ay p0)), iD p1] [] (pD (.val (.int .u8 r))) := by
 unfold D0 at h
 refine cw (n := 27) (rs := [.tmp 4]) Tryz.func52 fun w0 S0 => ?_
 refine wq rfl (qb rfl (qa rfl (Ad (wq rfl (qf Cs rfl (ql A0 rfl (qm rfl ?_)))))))
 refine B3 h fun v1 a1 b1 h => qi Ax CT a1 (Ag b1) rfl (qk BV rfl ?_)
 refine E1 h fun c2 h => HU rfl c2 (qe rfl ?_)
 refine AM h (fun v3 => mk [(5, pD (.val (.int .u8 v3)))] []) (fun j3 h => ?_) (fun v3 h => ?_)
 ·refine wq rfl (qf Bo rfl (ql A0 rfl (qm rfl ?_)))
  refine B3 h fun v4 a4 b4 h => qi Ax CT a4 (Ag b4) rfl (qk BV rfl (D1 rfl (Ad ?_)))
  refine Bh h (fun h => ?_) fun h => ?_
  ·refine Aj Az rfl (qm rfl (qf Bo rfl (ql A0 rfl (qm rfl ?_))))
   refine B3 h fun v6 a6 b6 h => qi Ax CT a6 (Ag b6) rfl (qk BV rfl ?_)
   refine E1 h fun c7 h => HU rfl c7 (RV rfl (qe rfl ?_))
   exact sn [] h
  ·refine Am ?_
   exact sn [] h
 ·refine wq rfl (qm rfl (qe rfl ?_))
  obtain rfl := sj h
  refine Ae (sm [] [(4, pD (.val (.int .u8 v3)))] [] rfl rfl) (Aq ?_)
  exact ⟨⟨[_], tm, rfl⟩, tv⟩
theorem HV (N : Nat) (p0 : Aa) (p1 : Ab) (r : Int) (h : D6 N p0 p1 = some r) : As Tryz.prog 29 [.e (.agg (Ah p0)), .e (.agg (Ay p1))] [] (iD r) := by
 unfold D6 at h
 refine cw (n := 135) (rs := [.tmp 4]) Tryz.func29 fun w0 S0 => ?_
 refine wq rfl (qb rfl (qb rfl (qa rfl (Ad (wp rfl (qL CI Cv rfl ?_))))))
 refine B9 h fun v1 a1 h => Av [] (Fc N p0 v1 a1) Vd rfl (qa rfl (Ad (wq rfl (qm rfl (By rfl (Ad ?_))))))
 refine Bh h (fun h => ?_) fun h => ?_
 ·refine wq rfl (qm rfl (qe rfl ?_))
  obtain rfl := sj h
  refine Ae (sm [] [(4, iD v1)] [] rfl rfl) (Aq ?_)
  exact ⟨⟨[_], tm, rfl⟩, tv⟩
 ·refine Am (AP ?_)
  refine AM h (fun v3 => mk [(2, oD (.ptr 2 0)), (3, oD (.ptr 3 0)), (41, bD v3)] [(2, .box (Ah p0)), (3, .box (Ay p1))]) (fun j3 h => ?_) (fun v3 h => ?_)
  ·refine Aj Az rfl (qf Cs rfl (ql A0 rfl (AG Ax rfl (qf Bn rfl (ql A0 rfl (AG Ax rfl (By rfl (qm rfl ?_))))))))
   refine Dp 24 h rfl (fun h => ?_) fun h => ?_
   ·refine qw 7 rfl (qp rfl (qw 8 rfl (qp rfl (Ad ?_))))
    exact sn [] h
   ·refine qf Bo rfl (ql A0 rfl (AG Ax rfl (qf Bn rfl (ql A0 rfl (AG Ax rfl (By rfl (qp rfl (qm rfl ?_))))))))
    refine Dp 33 h rfl (fun h => ?_) fun h => ?_
    ·refine qw 7 rfl (qp rfl (Ad ?_))
     exact sn [] h
    ·refine qf Ck rfl (ql Gv rfl (AG CK rfl (qf Ct rfl (ql GI rfl (AG DI rfl (By rfl (qp rfl (Ad ?_))))))))
     exact sn [] h
  ·refine Bh h (fun h => ?_) fun h => ?_
   ·refine wq rfl (qe rfl ?_)
    obtain rfl := sj h
    refine Ae (sm [] [(4, iD 6)] [] rfl rfl) (Aq ?_)
    exact ⟨⟨[_], tm, rfl⟩, tv⟩
   ·refine Am (wp rfl (qf Bn rfl (ql A0 rfl (AG Ax rfl (qm rfl (Ad ?_))))))
    refine AJ (L := Dc N p0 p1) h (fun v7 => mk [(2, oD (.ptr 2 0)), (3, oD (.ptr 3 0)), (43, pD (.sl (p0.fb.map Ao))), (44, iD ((p0.fb.length : Int))), (45, iD v7)] [(2, .box (Ah p0)), (3, .box (Ay p1))]) (fun v8 => mk [(2, oD (.ptr 2 0)), (3, oD (.ptr 3 0))] [(2, .box (Ah p0)), (3, .box (Ay p1))]) (fun _ _ => rfl) (sm [] _ _ rfl rfl) (fun j7 n7 v7 h => ?_) (fun v8 s h hs => ?_)
    ·unfold Dc at h
     refine wq rfl (A1 rfl (Ad (AP ?_)))
     refine Bh h (fun h => ?_) fun h => ?_
     ·refine Am (AP (AO (wq rfl (qm rfl ?_))))
      refine B3 h fun v10 a10 b10 h => qi Ax CT a10 (Ag b10) rfl (qk BV rfl (qa rfl (qa rfl (Ad (AP ?_)))))
      refine AM h (fun v11 => mk [(2, oD (.ptr 2 0)), (3, oD (.ptr 3 0)), (6, iD v7), (43, pD (.sl (p0.fb.map Ao))), (44, iD ((p0.fb.length : Int))), (45, iD v7), (81, bD v11)] [(2, .box (Ah p0)), (3, .box (Ay p1))]) (fun j11 h => ?_) (fun v11 h => ?_)
      ·refine Aj Az rfl (qf Cs rfl (ql A0 rfl (qm rfl ?_)))
       refine B3 h fun v12 a12 b12 h => qi Ax CT a12 (Ag b12) rfl (qk BV rfl (A1 rfl (qm rfl ?_)))
       refine Dp 56 h rfl (fun h => ?_) fun h => ?_
       ·refine qw 7 rfl (qp rfl (qw 7 rfl (qp rfl (qw 8 rfl (qp rfl (Ad ?_))))))
        exact sn [] h
       ·refine qf Cs rfl (ql A0 rfl (qm rfl ?_))
        refine B3 h fun v14 a14 b14 h => qi Ax CT a14 (Ag b14) rfl (qk BV rfl (qm rfl (D1 rfl (qp rfl (qm rfl ?_)))))
        refine Dp 65 h rfl (fun h => ?_) fun h => ?_
        ·refine qw 6 rfl (qp rfl (qw 8 rfl (qp rfl (Ad ?_))))
         exact sn [] h
        ·refine qf Bo rfl (ql A0 rfl (qm rfl ?_))
         refine B3 h fun v16 a16 b16 h => qi Ax CT a16 (Ag b16) rfl (qk BV rfl (A1 rfl (qp rfl (qm rfl ?_))))
         refine Dp 73 h rfl (fun h => ?_) fun h => ?_
         ·refine qw 7 rfl (qp rfl (Ad ?_))
          exact sn [] h
         ·refine qf Bo rfl (ql A0 rfl (qm rfl ?_))
          refine B3 h fun v18 a18 b18 h => qi Ax CT a18 (Ag b18) rfl (qk BV rfl (qm rfl (D1 rfl (qp rfl (Ad ?_)))))
          exact sn [] h
      ·refine Bh h (fun h => ?_) fun h => ?_
       ·refine wq rfl (qe rfl ?_)
        obtain rfl := sj h
        refine Ae (sm [] [(4, iD 7)] [] rfl rfl) (Aq ?_)
        exact ⟨⟨[_], tm, rfl⟩, tv⟩
       ·refine Am (wq rfl (qf Cs rfl (ql A0 rfl (qm rfl ?_))))
        refine B3 h fun v20 a20 b20 h => qi Ax CT a20 (Ag b20) rfl (qk BV rfl (qf Bo rfl (ql A0 rfl (qm rfl ?_))))
        refine B3 h fun v21 a21 b21 h => qi Ax CT a21 (Ag b21) rfl (qk BV rfl (Bv rfl (AH (by kernel_rfl) ?_)))
        refine Bh h (fun h => ?_) fun h => ?_
        ·refine wq rfl (qe rfl ?_)
         obtain rfl := sj h
         refine Ae (sm [] [(4, iD 1)] [] rfl rfl) (Aq ?_)
         exact ⟨⟨[_], tm, rfl⟩, tv⟩
        ·refine Am (Aj Az rfl (Bq rfl (qm rfl (Ad ?_))))
         exact sn [] h
     ·refine AY ?_
      exact sn [] h
    ·refine Ae hs (wp rfl (qf Ct rfl (ql GI rfl (AG DI rfl (qm rfl (Ad ?_))))))
     refine AJ (L := CS N p0 p1) h (fun v23 => mk [(2, oD (.ptr 2 0)), (3, oD (.ptr 3 0)), (95, pD (.sl (p0.fc.map AQ))), (96, iD ((p0.fc.length : Int))), (97, iD v23)] [(2, .box (Ah p0)), (3, .box (Ay p1))]) (fun v24 => mk [] []) (fun _ _ => rfl) (sm [] _ _ rfl rfl) (fun j23 n23 v23 h => ?_) (fun v24 s h hs => ?_)
     ·unfold CS at h
      refine wq rfl (A1 rfl (Ad (AP ?_)))
      refine Bh h (fun h => ?_) fun h => ?_
      ·refine Am (AP (AO (wq rfl (qm rfl ?_))))
       refine B3 h fun v26 a26 b26 h => qi DI DH a26 (Ag b26) rfl (qK GB DH rfl (qz KK rfl (qa rfl (qs DH rfl (Ad (wq rfl (qa rfl (qe rfl ?_))))))))
       refine AM h (fun v27 => mk [(2, oD (.ptr 2 0)), (3, oD (.ptr 3 0)), (8, iD v23), (10, pD (.val (.int .u8 v27.1))), (11, pD (.val (.int .u8 v27.2))), (95, pD (.sl (p0.fc.map AQ))), (96, iD ((p0.fc.length : Int))), (97, iD v23)] [(2, .box (Ah p0)), (3, .box (Ay p1))]) (fun j27 h => ?_) (fun v27 h => ?_)
       ·refine wq rfl (qL GB DH rfl ?_)
        refine B9 h fun v28 a28 h => Av [] (Iu N v26 v28 a28) UZ rfl (Ad ?_)
        refine Bh h (fun h => ?_) fun h => ?_
        ·refine Aj Az rfl (qL A7 AE rfl (qf Cy rfl (ql BV rfl ?_)))
         refine B9 h fun v30 a30 h => Av [] (H9 N p1 v26.fg v30 a30) Ve rfl (qf Bn rfl (ql A0 rfl (qf Cy rfl (ql BV rfl ?_))))
         refine B3 h fun v31 a31 b31 h => qi Ax CT a31 (Ag b31) rfl (qk BV rfl ?_)
         refine E1 h fun c32 h => HU rfl c32 (PI rfl (qa rfl (qa rfl (AH (by kernel_rfl) ?_))))
         exact sn [] h
        ·refine Am ?_
         exact sn [] h
       ·refine AM h (fun v33 => mk [(2, oD (.ptr 2 0)), (3, oD (.ptr 3 0)), (95, pD (.sl (p0.fc.map AQ))), (96, iD ((p0.fc.length : Int))), (97, iD v23), (133, bD v33)] [(2, .box (Ah p0)), (3, .box (Ay p1))]) (fun j33 h => ?_) (fun v33 h => ?_)
        ·refine Aj Az rfl (qm rfl (qf Ck rfl (ql Gv rfl (qm rfl ?_))))
         refine B3 h fun v34 a34 b34 h => qi CK E5 a34 (Ag b34) rfl (qk I2 rfl (HD rfl (By rfl (qm rfl ?_))))
         refine Dp 124 h rfl (fun h => ?_) fun h => ?_
         ·refine qw 8 rfl (qp rfl (Ad ?_))
          exact sn [] h
         ·refine qf Ck rfl (ql Gv rfl (qm rfl ?_))
          refine B3 h fun v36 a36 b36 h => qi CK E5 a36 (Ag b36) rfl (qk I2 rfl (qm rfl (HD rfl (By rfl (qp rfl (Ad ?_))))))
          exact sn [] h
        ·refine Bh h (fun h => ?_) fun h => ?_
         ·refine wq rfl (qe rfl ?_)
          obtain rfl := sj h
          refine Ae (sm [] [(4, iD 1)] [] rfl rfl) (Aq ?_)
          exact ⟨⟨[_], tm, rfl⟩, tv⟩
         ·refine Am (Aj Az rfl (Bq rfl (qm rfl (Ad ?_))))
          exact sn [] h
      ·refine AY ?_
       exact sn [] h
     ·refine Ae hs (wq rfl (qe rfl ?_))
      obtain rfl := sj h
      refine Ae (sm [] [(4, iD 0)] [] rfl rfl) (Aq ?_)
      exact ⟨⟨[_], tm, rfl⟩, tv⟩
theorem Er (N : Nat) (p0 : List Int) (r : (List Int)) (h : Bx N p0 = some r) : As Tryz.prog 97 [pD (.sl (p0.map B6))] [(1, r.map B6)] (oD (.own 0)) := by
 unfold Bx at h
 refine cw (n := 8) (rs := [.tmp 2]) Tryz.func97 fun w0 S0 => ?_
 refine wq rfl (qa rfl (Ad (wp rfl (qm rfl ?_))))
 refine N4 (.p rfl) rfl CK ?_
 refine Ad ?_
 refine OA rfl (fun c2 => ?_) ?_
 ·have c2 := List.map_eq_nil_iff.1 c2
  rw [c2] at h
  have h : (some (([] : List Int))) = some r := h
  refine wq rfl (qe rfl ?_)
  obtain rfl := sj h
  refine Ae ((Ca 2 2001 1 rfl rfl rfl).trans (sm [(1000, 2001)] [(2, oD (.own 1000))] [(1000, .vec 1 ((([] : List Int)).map B6))] rfl rfl)) (Aq ?_)
  exact ⟨⟨[_], tm, rfl⟩, ⟨rfl, tv⟩⟩
 ·refine Am (wq rfl (El CK E5 NQ rfl (qm rfl ?_)))
  refine E1 h fun c1 h => H8 (f := B6) CK CK E5 Ps NQ (fun _ => rfl) c1 rfl (qe rfl ?_)
  obtain rfl := sj h
  refine Ae (sm [(1000, 7)] [(2, oD (.own 1000))] [(1000, .vec 1 (((([] : List Int)) ++ p0).map B6))] rfl rfl) (Aq ?_)
  exact ⟨⟨[_], tm, rfl⟩, ⟨rfl, tv⟩⟩
theorem N0 (N : Nat) (p0 : Aa) (p1 : Ab) (r : (List Ab) × Int) (h : FC N p0 p1 = some r) : As Tryz.prog 77 [.e (.agg (Ah p0)), .e (.agg (Ay p1))] [(3, r.1.map B5)] (.tup [.one (.own 0), .one (iC r.2)]) := by
 unfold FC at h
 refine cw (n := 75) (rs := [.tmp 4, .tmp 5]) Tryz.func77 fun w0 S0 => ?_
 refine wq rfl (qb rfl (qb rfl (qa rfl (qa rfl (Ad (wp rfl (qL CI Cv rfl (qL A7 AE rfl ?_))))))))
 refine B9 h fun v1 a1 h => Av [] (HV N p0 p1 v1 a1) TH rfl (qa rfl (Ad (wq rfl (qm rfl (By rfl (Ad ?_))))))
 refine Bh h (fun h => ?_) fun h => ?_
 ·refine wq rfl (qm rfl (qa rfl (qe rfl ?_)))
  obtain rfl := sj h
  refine Ae ((Ca 4 2001 3 rfl rfl rfl).trans (sm [(1000, 2001)] [(4, oD (.own 1000)), (5, iD v1)] [(1000, .vec 3 ((([] : List Ab)).map B5))] rfl rfl)) (Aq ?_)
  exact ⟨⟨[_, _], ⟨.tmp _ _ rfl, tm⟩, rfl⟩, ⟨rfl, tv⟩⟩
 ·refine Am (wq rfl (qa rfl (Ad (wp rfl (qf Bo rfl (ql A0 rfl (AG Ax rfl (qm rfl (Ad ?_)))))))))
  refine AJ (L := CU N p1) h (fun v3 => mk [(3, oD (.ptr 3 0)), (7, oD (.own 2002)), (22, pD (.sl (p1.fa.map Ao))), (23, iD ((p1.fa.length : Int))), (24, iD v3.2)] [(3, .box (Ay p1)), (2002, .vec 1 (v3.1.map Ao))]) (fun v4 => mk [(3, oD (.ptr 3 0)), (7, oD (.own 2003))] [(3, .box (Ay p1)), (2003, .vec 1 (v4.map Ao))]) (fun _ _ => rfl) ((Ca 7 2005 1 rfl rfl rfl).trans (sm [(2002, 2005)] _ _ rfl rfl)) (fun j3 n3 v3 h => ?_) (fun v4 s h hs => ?_)
  ·unfold CU at h
   refine wq rfl (A1 rfl (Ad (AP ?_)))
   refine Bh h (fun h => ?_) fun h => ?_
   ·refine Am ?_
    refine AM h (fun v6 => mk [(3, oD (.ptr 3 0)), (7, oD (.own 2004)), (22, pD (.sl (p1.fa.map Ao))), (23, iD ((p1.fa.length : Int))), (24, iD v3.2)] [(3, .box (Ay p1)), (2004, .vec 1 (v6.map Ao))]) (fun j6 h => ?_) (fun v6 h => ?_)
    ·refine AO (wq rfl (qm rfl ?_))
     refine B3 h fun v7 a7 b7 h => qi Ax CT a7 (Ag b7) rfl (qk BV rfl (qa rfl (qa rfl (Ad (wq rfl (qm rfl (D1 rfl (Ad ?_))))))))
     refine Bh h (fun h => ?_) fun h => ?_
     ·refine Aj Az rfl (qw 2 rfl (El Ax CT KG rfl ?_))
      refine E1 h fun c9 h => Ek (f := Ao) Ax Ax CT Lz KG c9 rfl (qe rfl ?_)
      exact sn [(2004, 34)] h
     ·refine Am ?_
      exact sn [(2004, 2002)] h
    ·refine Aj Az rfl (Bq rfl (qm rfl (Ad ?_)))
     exact sn [(2002, 2004)] h
   ·refine AY ?_
    exact sn [(2003, 2002)] h
  ·refine Ae hs (wq rfl (qa rfl (Ad (wp rfl (qm rfl (E9 Ax rfl ?_))))))
   refine E1 h fun c10 h => HU rfl c10 (qm rfl (Ad ?_))
   refine AJ (L := Cn N p1 v4) h (fun v11 => mk [(3, oD (.ptr 3 0)), (7, oD (.own 2006)), (10, oD (.own 2007)), (38, iD ((C0 .i64 1 ((v4.length : Int))))), (39, iD v11.2)] [(3, .box (Ay p1)), (2006, .vec 1 (v4.map Ao)), (2007, .vec 3 (v11.1.map B5))]) (fun v12 => mk [(10, oD (.own 2008))] [(2008, .vec 3 (v12.map B5))]) (fun _ _ => rfl) ((Ca 10 2027 3 rfl rfl rfl).trans (sm [(2006, 2003), (2007, 2027)] _ _ rfl rfl)) (fun j11 n11 v11 h => ?_) (fun v12 s h hs => ?_)
   ·unfold Cn at h
    refine wq rfl (A1 rfl (Ad (AP ?_)))
    refine Bh h (fun h => ?_) fun h => ?_
    ·refine Am (AP (AO (wq rfl (qm rfl (qa rfl (Ad (wq rfl (qf Cs rfl (ql A0 rfl ?_)))))))))
     refine B9 h fun v14 a14 h => Av [2009] (C2 N p1.fe v14 a14) Sq rfl (qf Bo rfl (ql A0 rfl ?_))
     refine B9 h fun v15 a15 h => Av [2010] (C2 N p1.fa v15 a15) Sq rfl (qf Ck rfl (ql Gv rfl ?_))
     refine B9 h fun v16 a16 h => Av [2011] (Er N p1.fd v16 a16) VU rfl (AR B4 E6 rfl (qz B4 rfl (qs AE rfl (AH (by kernel_rfl) (wp rfl (qm rfl (E9 Ax rfl (qm rfl (Ad ?_)))))))))
     refine AJ (L := Cm N v4 v11) h (fun v17 => mk [(3, oD (.ptr 3 0)), (7, oD (.own 2015)), (10, oD (.own 2016)), (11, iD v11.2), (12, oD (.ptr 12 0)), (38, iD ((C0 .i64 1 ((v4.length : Int))))), (39, iD v11.2), (52, oD (.own 2015)), (53, iD ((v4.length : Int))), (54, iD v17.2)] [(3, .box (Ay p1)), (12, .box [.own 2012, .own 2013, .own 2014]), (2012, .vec 1 (v14.map Ao)), (2013, .vec 1 (v17.1.map Ao)), (2014, .vec 1 (v16.map B6)), (2015, .vec 1 (v4.map Ao)), (2016, .vec 3 (v11.1.map B5))]) (fun v18 => mk [(3, oD (.ptr 3 0)), (7, oD (.own 2020)), (10, oD (.own 2021)), (12, oD (.ptr 12 0)), (38, iD ((C0 .i64 1 ((v4.length : Int))))), (39, iD v11.2)] [(3, .box (Ay p1)), (12, .box [.own 2017, .own 2018, .own 2019]), (2017, .vec 1 (v14.map Ao)), (2018, .vec 1 (v18.map Ao)), (2019, .vec 1 (v16.map B6)), (2020, .vec 1 (v4.map Ao)), (2021, .vec 3 (v11.1.map B5))]) (fun _ _ => rfl) (sm [(2012, 2009), (2013, 2010), (2014, 2011), (2015, 2006), (2016, 2007)] _ _ rfl rfl) (fun j17 n17 v17 h => ?_) (fun v18 s h hs => ?_)
     ·unfold Cm at h
      refine wq rfl (A1 rfl (Ad (AP ?_)))
      refine Bh h (fun h => ?_) fun h => ?_
      ·refine Am ?_
       refine AM h (fun v20 => mk [(3, oD (.ptr 3 0)), (7, oD (.own 2025)), (10, oD (.own 2026)), (11, iD v11.2), (12, oD (.ptr 12 0)), (38, iD ((C0 .i64 1 ((v4.length : Int))))), (39, iD v11.2), (52, oD (.own 2025)), (53, iD ((v4.length : Int))), (54, iD v17.2)] [(3, .box (Ay p1)), (12, .box [.own 2022, .own 2023, .own 2024]), (2022, .vec 1 (v14.map Ao)), (2023, .vec 1 (v20.map Ao)), (2024, .vec 1 (v16.map B6)), (2025, .vec 1 (v4.map Ao)), (2026, .vec 3 (v11.1.map B5))]) (fun j20 h => ?_) (fun v20 h => ?_)
       ·refine AO (wq rfl (qm rfl ?_))
        refine B3 h fun v21 a21 b21 h => qI Ax CT a21 (Ag b21) rfl (qj BV (Ag b21) rfl (qa rfl (qa rfl (Ad (wq rfl (qw 2 rfl ?_))))))
        refine E1 h fun c22 h => If rfl c22 (Lq rfl (Bv rfl (Ad ?_)))
        refine Bh h (fun h => ?_) fun h => ?_
        ·refine Aj Az rfl (qf Bo rfl (ql A0 rfl (qm rfl ?_)))
         refine B3 h fun v24 a24 b24 h => qI Ax CT a24 (Ag b24) rfl ?_
         refine Ea rfl rfl rfl rfl (Ag b24) rfl CT rfl (Iq rfl) (Ec Ao v17.1 _ ((-1))) ?_
         refine Ad ?_
         exact sn [(2022, 2012), (2023, 2013), (2024, 2014), (2025, 2015), (2026, 2016)] h
        ·refine Am ?_
         exact sn [(2022, 2012), (2023, 2013), (2024, 2014), (2025, 2015), (2026, 2016)] h
       ·refine Aj Az rfl (Bq rfl (qm rfl (Ad ?_)))
        exact sn [(2012, 2022), (2013, 2023), (2014, 2024), (2015, 2025), (2016, 2026)] h
      ·refine AY ?_
       exact sn [(2017, 2012), (2018, 2013), (2019, 2014), (2020, 2015), (2021, 2016)] h
     ·refine Ae hs (Aj Az rfl (qm rfl (qL A7 AE rfl (DA (AW 2017 _ _ rfl rfl) (DA (AW 2018 _ _ rfl rfl) (DA (AW 2019 _ _ rfl rfl) (El Ge AE B4 rfl ?_)))))))
      refine E1 h fun c25 h => Ek (f := B5) Ge Ge AE RH B4 c25 rfl (qa rfl (Ad (Aj Az rfl (Bq rfl (qm rfl (Ad ?_))))))
      exact sn [(2006, 2020), (2007, 72)] h
    ·refine AY ?_
     exact sn [(2008, 2007)] h
   ·refine Ae hs (wq rfl (qm rfl (qa rfl (qe rfl ?_))))
    obtain rfl := sj h
    refine Ae (sm [(1000, 2008)] [(4, oD (.own 1000)), (5, iD 0)] [(1000, .vec 3 (v12.map B5))] rfl rfl) (Aq ?_)
    exact ⟨⟨[_, _], ⟨.tmp _ _ rfl, tm⟩, rfl⟩, ⟨rfl, tv⟩⟩
theorem LF (N : Nat) (p0 : Aa) (p1 : Ab) (r : (List Af)) (h : Eo N p0 p1 = some r) : As Tryz.prog 78 [.e (.agg (Ah p0)), .e (.agg (Ay p1))] [(3, r.map AN)] (oD (.own 0)) := by
 unfold Eo at h
 refine cw (n := 98) (rs := [.tmp 4]) Tryz.func78 fun w0 S0 => ?_
 refine wq rfl (qb rfl (qb rfl (qa rfl (Ad (wq rfl (qa rfl (Ad (wp rfl (qf Ct rfl (ql GI rfl (AG DI rfl (qm rfl (Ad ?_)))))))))))))
 refine AJ (L := CD N p0 p1) h (fun v1 => mk [(3, oD (.ptr 3 0)), (5, oD (.own 2001)), (15, pD (.sl (p0.fc.map AQ))), (16, iD ((p0.fc.length : Int))), (17, iD v1.2)] [(3, .box (Ay p1)), (2001, .vec 3 (v1.1.map AN))]) (fun v2 => mk [(5, oD (.own 2002))] [(2002, .vec 3 (v2.map AN))]) (fun _ _ => rfl) ((Ca 5 2013 3 rfl rfl rfl).trans (sm [(2001, 2013)] _ _ rfl rfl)) (fun j1 n1 v1 h => ?_) (fun v2 s h hs => ?_)
 ·unfold CD at h
  refine wq rfl (A1 rfl (Ad (AP ?_)))
  refine Bh h (fun h => ?_) fun h => ?_
  ·refine Am (AP (AO (wq rfl (qm rfl ?_))))
   refine B3 h fun v4 a4 b4 h => qi DI DH a4 (Ag b4) rfl (qK GB DH rfl (qz KK rfl (qa rfl (qs DH rfl (Ad (wq rfl (qL A7 AE rfl (qf Cy rfl (ql BV rfl ?_)))))))))
   refine B9 h fun v5 a5 h => Av [] (H9 N p1 v4.fg v5 a5) Ve rfl (qL A7 AE rfl (qf Hf rfl (ql BV rfl ?_)))
   refine B9 h fun v6 a6 h => Av [] (H9 N p1 v4.fk v6 a6) Ve rfl (qa rfl (qa rfl (AH (by kernel_rfl) ?_)))
   refine AM h (fun v7 => mk [(3, oD (.ptr 3 0)), (5, oD (.own 2003)), (6, iD v1.2), (7, oD (.ptr 7 0)), (8, pD (.val (.int .u8 v7))), (9, pD (.val (.int .u8 v6))), (15, pD (.sl (p0.fc.map AQ))), (16, iD ((p0.fc.length : Int))), (17, iD v1.2)] [(3, .box (Ay p1)), (7, .box (A9 v4)), (2003, .vec 3 (v1.1.map AN))]) (fun j7 h => ?_) (fun v7 h => ?_)
   ·refine wq rfl (qL GB DH rfl ?_)
    refine B9 h fun v8 a8 h => Av [] (Iu N v4 v8 a8) UZ rfl (Ad ?_)
    refine Bh h (fun h => ?_) fun h => ?_
    ·refine Aj Az rfl (qf Ck rfl (ql Gv rfl (qm rfl ?_)))
     refine B3 h fun v10 a10 b10 h => qi CK E5 a10 (Ag b10) rfl (qk I2 rfl (qe rfl ?_))
     exact sn [(2003, 2001)] h
    ·refine Am ?_
     exact sn [(2003, 2001)] h
   ·refine wq rfl (qf Iy rfl (ql Je rfl (AG FQ rfl (qm rfl (Ad ?_)))))
    refine AJ (L := BR N v1 v4 v6 v7) h (fun v11 => mk [(3, oD (.ptr 3 0)), (5, oD (.own 2004)), (6, iD v1.2), (7, oD (.ptr 7 0)), (8, pD (.val (.int .u8 v7))), (9, pD (.val (.int .u8 v6))), (15, pD (.sl (p0.fc.map AQ))), (16, iD ((p0.fc.length : Int))), (17, iD v1.2), (39, iD ((v4.fq.length : Int))), (40, iD v11.2)] [(3, .box (Ay p1)), (7, .box (A9 v4)), (2004, .vec 3 (v11.1.map AN))]) (fun v12 => mk [(3, oD (.ptr 3 0)), (5, oD (.own 2005)), (15, pD (.sl (p0.fc.map AQ))), (16, iD ((p0.fc.length : Int))), (17, iD v1.2)] [(3, .box (Ay p1)), (2005, .vec 3 (v12.map AN))]) (fun _ _ => rfl) (sm [(2004, 2003)] _ _ rfl rfl) (fun j11 n11 v11 h => ?_) (fun v12 s h hs => ?_)
    ·unfold BR at h
     refine wq rfl (A1 rfl (Ad (AP ?_)))
     refine Bh h (fun h => ?_) fun h => ?_
     ·refine Am ?_
      refine AM h (fun v14 => mk [(3, oD (.ptr 3 0)), (5, oD (.own 2006)), (6, iD v1.2), (7, oD (.ptr 7 0)), (8, pD (.val (.int .u8 v7))), (9, pD (.val (.int .u8 v6))), (15, pD (.sl (p0.fc.map AQ))), (16, iD ((p0.fc.length : Int))), (17, iD v1.2), (39, iD ((v4.fq.length : Int))), (40, iD v11.2)] [(3, .box (Ay p1)), (7, .box (A9 v4)), (2006, .vec 3 (v14.map AN))]) (fun j14 h => ?_) (fun v14 h => ?_)
      ·refine AO (wq rfl (qm rfl (qa rfl (Ad (wp rfl (qw 2 rfl ?_))))))
       refine E1 h fun c15 h => If rfl c15 (Lq rfl (Bv rfl (Ad ?_)))
       refine Bh h (fun h => ?_) fun h => ?_
       ·refine AY ?_
        exact sn [(2006, 2004)] h
       ·refine Am (wq rfl (qa rfl (Ad (wp rfl (qf Iy rfl (ql Je rfl (qm rfl ?_)))))))
        refine B3 h fun v17 a17 b17 h => qi FQ L7 a17 (Ag b17) rfl (qk Om rfl (AG Gn rfl (qm rfl (Ad ?_))))
        refine AJ (L := BF N v1 v4 v6 v11 v17) h (fun v18 => mk [(3, oD (.ptr 3 0)), (5, oD (.own 2007)), (6, iD v1.2), (7, oD (.ptr 7 0)), (8, pD (.val (.int .u8 v7))), (9, pD (.val (.int .u8 v6))), (10, iD v11.2), (11, bD v18.2.1), (15, pD (.sl (p0.fc.map AQ))), (16, iD ((p0.fc.length : Int))), (17, iD v1.2), (39, iD ((v4.fq.length : Int))), (40, iD v11.2), (52, pD (.sl (v17.map eB))), (53, iD ((v17.length : Int))), (54, iD v18.2.2)] [(3, .box (Ay p1)), (7, .box (A9 v4)), (2007, .vec 3 (v18.1.map AN))]) (fun v19 => mk [(3, oD (.ptr 3 0)), (5, oD (.own 2008)), (6, iD v1.2), (7, oD (.ptr 7 0)), (8, pD (.val (.int .u8 v7))), (9, pD (.val (.int .u8 v6))), (10, iD v11.2), (11, bD v19.2), (15, pD (.sl (p0.fc.map AQ))), (16, iD ((p0.fc.length : Int))), (17, iD v1.2), (39, iD ((v4.fq.length : Int))), (40, iD v11.2)] [(3, .box (Ay p1)), (7, .box (A9 v4)), (2008, .vec 3 (v19.1.map AN))]) (fun _ _ => rfl) (sm [(2007, 2004)] _ _ rfl rfl) (fun j18 n18 v18 h => ?_) (fun v19 s h hs => ?_)
        ·unfold BF at h
         refine wq rfl (A1 rfl (Ad (AP ?_)))
         refine Bh h (fun h => ?_) fun h => ?_
         ·refine Am ?_
          refine AM h (fun v21 => mk [(3, oD (.ptr 3 0)), (5, oD (.own 2009)), (6, iD v1.2), (7, oD (.ptr 7 0)), (8, pD (.val (.int .u8 v7))), (9, pD (.val (.int .u8 v6))), (10, iD v11.2), (11, bD v21.2), (15, pD (.sl (p0.fc.map AQ))), (16, iD ((p0.fc.length : Int))), (17, iD v1.2), (39, iD ((v4.fq.length : Int))), (40, iD v11.2), (52, pD (.sl (v17.map eB))), (53, iD ((v17.length : Int))), (54, iD v18.2.2)] [(3, .box (Ay p1)), (7, .box (A9 v4)), (2009, .vec 3 (v21.1.map AN))]) (fun j21 h => ?_) (fun v21 h => ?_)
          ·refine AO (wq rfl (qm rfl ?_))
           refine B3 h fun v22 a22 b22 h => qi Gn P2 a22 (Ag b22) rfl (qk Qz rfl (qa rfl (qa rfl (Ad (wp rfl (qw 2 rfl ?_))))))
           refine E1 h fun c23 h => If rfl c23 (Lq rfl (Bv rfl (Ad ?_)))
           refine Bh h (fun h => ?_) fun h => ?_
           ·refine AY ?_
            exact sn [(2009, 2007)] h
           ·refine Am ?_
            refine AM h (fun v25 => mk [(3, oD (.ptr 3 0)), (5, oD (.own 2010)), (6, iD v1.2), (7, oD (.ptr 7 0)), (8, pD (.val (.int .u8 v7))), (9, pD (.val (.int .u8 v6))), (10, iD v11.2), (11, bD v25), (12, iD v18.2.2), (13, bD v22), (15, pD (.sl (p0.fc.map AQ))), (16, iD ((p0.fc.length : Int))), (17, iD v1.2), (39, iD ((v4.fq.length : Int))), (40, iD v11.2), (52, pD (.sl (v17.map eB))), (53, iD ((v17.length : Int))), (54, iD v18.2.2)] [(3, .box (Ay p1)), (7, .box (A9 v4)), (2010, .vec 3 (v18.1.map AN))]) (fun j25 h => ?_) (fun v25 h => ?_)
            ·refine Aj Az rfl (qw 2 rfl ?_)
             refine Dp 65 h rfl (fun h => ?_) fun h => ?_
             ·refine qn rfl (qp rfl (qe rfl ?_))
              exact sn [(2010, 2007)] h
             ·refine qm rfl (qp rfl (qe rfl ?_))
              exact sn [(2010, 2007)] h
            ·refine AM h (fun v27 => mk [(3, oD (.ptr 3 0)), (5, oD (.own 2011)), (6, iD v1.2), (7, oD (.ptr 7 0)), (8, pD (.val (.int .u8 v7))), (9, pD (.val (.int .u8 v6))), (10, iD v11.2), (11, bD v25), (12, iD v18.2.2), (15, pD (.sl (p0.fc.map AQ))), (16, iD ((p0.fc.length : Int))), (17, iD v1.2), (39, iD ((v4.fq.length : Int))), (40, iD v11.2), (52, pD (.sl (v17.map eB))), (53, iD ((v17.length : Int))), (54, iD v18.2.2), (74, bD v27)] [(3, .box (Ay p1)), (7, .box (A9 v4)), (2011, .vec 3 (v18.1.map AN))]) (fun j27 h => ?_) (fun v27 h => ?_)
             ·refine Aj Az rfl (qm rfl (Cd rfl (qm rfl ?_)))
              refine Dp 70 h rfl (fun h => ?_) fun h => ?_
              ·refine qf HT rfl (ql Qz rfl (Cd rfl (qp rfl (Ad ?_))))
               exact sn [(2011, 2010)] h
              ·refine qw 3 rfl (qp rfl (Ad ?_))
               exact sn [(2011, 2010)] h
             ·refine Bh h (fun h => ?_) fun h => ?_
              ·refine Aj Az rfl (qw 4 rfl (AR Fp Jz rfl (El Fy Dr Fp rfl ?_)))
               refine E1 h fun c30 h => Ek (f := AN) Fy Fy Dr Qt Fp c30 rfl (qe rfl ?_)
               exact sn [(2009, 81)] h
              ·refine Am ?_
               exact sn [(2009, 2011)] h
          ·refine Aj Az rfl (Bq rfl (qm rfl (Ad ?_)))
           exact sn [(2007, 2009)] h
         ·refine AY ?_
          exact sn [(2008, 2007)] h
        ·refine Ae hs ?_
         refine AM h (fun v31 => mk [(3, oD (.ptr 3 0)), (5, oD (.own 2012)), (6, iD v1.2), (7, oD (.ptr 7 0)), (8, pD (.val (.int .u8 v7))), (9, pD (.val (.int .u8 v6))), (10, iD v11.2), (15, pD (.sl (p0.fc.map AQ))), (16, iD ((p0.fc.length : Int))), (17, iD v1.2), (39, iD ((v4.fq.length : Int))), (40, iD v11.2), (88, bD v31)] [(3, .box (Ay p1)), (7, .box (A9 v4)), (2012, .vec 3 (v19.1.map AN))]) (fun j31 h => ?_) (fun v31 h => ?_)
         ·refine Aj Az rfl (qf HT rfl (ql Qz rfl (qm rfl ?_)))
          refine Dp 85 h rfl (fun h => ?_) fun h => ?_
          ·refine qm rfl (Cd rfl (qp rfl (Ad ?_)))
           exact sn [(2012, 2008)] h
          ·refine qw 2 rfl (qp rfl (Ad ?_))
           exact sn [(2012, 2008)] h
         ·refine Bh h (fun h => ?_) fun h => ?_
          ·refine Aj Az rfl (qw 3 rfl (AR Fp Jz rfl (El Fy Dr Fp rfl ?_)))
           refine E1 h fun c34 h => Ek (f := AN) Fy Fy Dr Qt Fp c34 rfl (qe rfl ?_)
           exact sn [(2006, 94)] h
          ·refine Am ?_
           exact sn [(2006, 2012)] h
      ·refine Aj Az rfl (Bq rfl (qm rfl (Ad ?_)))
       exact sn [(2004, 2006)] h
     ·refine AY ?_
      exact sn [(2005, 2004)] h
    ·refine Ae hs (Aj Az rfl (Bq rfl (qm rfl (Ad ?_))))
     exact sn [(2001, 2005)] h
  ·refine AY ?_
   exact sn [(2002, 2001)] h
 ·refine Ae hs (wq rfl (qm rfl (qe rfl ?_)))
  obtain rfl := sj h
  refine Ae (sm [(1000, 2002)] [(4, oD (.own 1000))] [(1000, .vec 3 (v2.map AN))] rfl rfl) (Aq ?_)
  exact ⟨⟨[_], tm, rfl⟩, ⟨rfl, tv⟩⟩
theorem Ja (N : Nat) (p0 : Aa) (p1 : Ab) (r : Ab × Af × Int) (h : ED N p0 p1 = some r) : As Tryz.prog 53 [.e (.agg (Ah p0)), .e (.agg (Ay p1))] [] (.tup [.agg (Ay r.1), .agg (DT r.2.1), .one (iC r.2.2)]) := by
 unfold ED at h
 refine cw (n := 42) (rs := [.cell 4 38, .cell 5 93, .tmp 6]) Tryz.func53 fun w0 S0 => ?_
 refine wq rfl (qb rfl (qb rfl (qz B4 rfl (qz Fp rfl (qa rfl (Ad (wq rfl (qL CI Cv rfl (qL A7 AE rfl ?_)))))))))
 refine B9 h fun v1 a1 h => Av [2001] (N0 N p0 p1 v1 a1) WO rfl (qm rfl (qx rfl (qx rfl (qa rfl (qa rfl (Ad (wp rfl (qm rfl (By rfl (Ad ?_))))))))))
 refine Bh h (fun h => ?_) fun h => ?_
 ·refine wq rfl (AR B4 E6 rfl (AR Fp Jz rfl (qm rfl (qs AE rfl (qs Dr rfl (qe rfl ?_))))))
  obtain rfl := sj h
  refine Ae ((Dn 4 _ rfl).trans (sm [] [(4, oD (.ptr 4 0)), (5, oD (.ptr 5 0)), (6, iD v1.2)] [(4, .box [sC ((([] : List Int)).map Ao), sC ((([] : List Int)).map Ao), sC ((([] : List Int)).map B6)]), (5, .box [iC 0, iC 0, iC 0])] rfl rfl)) (Aq ?_)
  exact ⟨⟨[_, _, _], ⟨.cellN _ _ _ _ _ _ _ rfl rfl A7 AE rfl rfl (Fq rfl), ⟨.cellN _ _ _ _ _ _ _ rfl rfl HQ Dr rfl rfl (Fq rfl), tm⟩⟩, rfl⟩, tv⟩
 ·refine Am (wp rfl (qm rfl (E9 Ge rfl (qm rfl (Ad ?_)))))
  refine AJ (L := DO N p0 v1) h (fun v3 => mk [(2, oD (.ptr 2 0)), (4, oD (.ptr 4 0)), (5, oD (.ptr 5 0)), (23, oD (.own 2002)), (24, iD ((v1.1.length : Int))), (25, iD v3)] [(2, .box (Ah p0)), (4, .box [.pure (.nil0), .pure (.nil0), .pure (.nil0)]), (5, .box [iC 0, iC 0, iC 0]), (2002, .vec 3 (v1.1.map B5))]) (fun v4 => mk [(4, oD (.ptr 4 0)), (5, oD (.ptr 5 0))] [(4, .box [.pure (.nil0), .pure (.nil0), .pure (.nil0)]), (5, .box [iC 0, iC 0, iC 0])]) (fun _ _ => rfl) (sm [(2002, 2001)] _ _ rfl rfl) (fun j3 n3 v3 h => ?_) (fun v4 s h hs => ?_)
  ·unfold DO at h
   refine wq rfl (A1 rfl (Ad (AP ?_)))
   refine Bh h (fun h => ?_) fun h => ?_
   ·refine Am (AP (AO (wq rfl ?_)))
    refine B3 h fun v6 a6 b6 h => qI Ge AE a6 (Ag b6) rfl (qJ A7 AE (Ag b6) rfl (qz B4 rfl (qs AE rfl (Ad (wq rfl (qL CI Cv rfl (qL A7 AE rfl ?_)))))))
    refine B9 h fun v7 a7 h => Av [2003] (LF N p0 v6 v7 a7) WH rfl (qa rfl (Ad (wq rfl (qm rfl (E9 Fy rfl (E0 rfl (Ad ?_)))))))
    refine Bh h (fun h => ?_) fun h => ?_
    ·refine wq rfl (qL A7 AE rfl (qm rfl ?_))
     refine B3 h fun v9 a9 b9 h => qI Fy Dr a9 (Ag b9) rfl (qJ HQ Dr (Ag b9) rfl (qs AE rfl (qs Dr rfl (qa rfl (AH (by kernel_rfl) ?_)))))
     obtain rfl := sj h
     refine Ae (sm [] [(4, oD (.ptr 4 0)), (5, oD (.ptr 5 0)), (6, iD 0)] [(4, .box (Ay v6)), (5, .box (DT v9))] rfl rfl) (Aq ?_)
     exact ⟨⟨[_, _, _], ⟨.cellN _ _ _ _ _ _ _ rfl rfl A7 AE rfl rfl (Fq rfl), ⟨.cellN _ _ _ _ _ _ _ rfl rfl HQ Dr rfl rfl (Fq rfl), tm⟩⟩, rfl⟩, tv⟩
    ·refine Am (Aj Az rfl (Bq rfl (qm rfl (Ad ?_))))
     exact sn [] h
   ·refine AY ?_
    exact sn [] h
  ·refine Ae hs (wq rfl (AR B4 E6 rfl (AR Fp Jz rfl (qs AE rfl (qs Dr rfl (qe rfl ?_))))))
   obtain rfl := sj h
   refine Ae ((Dn 4 _ rfl).trans (sm [] [(4, oD (.ptr 4 0)), (5, oD (.ptr 5 0)), (6, iD 15)] [(4, .box [sC ((([] : List Int)).map Ao), sC ((([] : List Int)).map Ao), sC ((([] : List Int)).map B6)]), (5, .box [iC 0, iC 0, iC 0])] rfl rfl)) (Aq ?_)
   exact ⟨⟨[_, _, _], ⟨.cellN _ _ _ _ _ _ _ rfl rfl A7 AE rfl rfl (Fq rfl), ⟨.cellN _ _ _ _ _ _ _ rfl rfl HQ Dr rfl rfl (Fq rfl), tm⟩⟩, rfl⟩, tv⟩
theorem Kw (N : Nat) (p0 : Ac) (r : Bool) (h : ES N p0 = some r) : As Tryz.prog 79 [.e (.agg (Ce p0))] [] (bD r) := by
 unfold ES at h
 refine cw (n := 27) (rs := [.tmp 2]) Tryz.func79 fun w0 S0 => ?_
 refine wq rfl (qb rfl (qa rfl (Ad (AP ?_))))
 refine AM h (fun v1 => mk [(1, oD (.ptr 1 0)), (18, bD v1)] [(1, .box (Ce p0))]) (fun j1 h => ?_) (fun v1 h => ?_)
 ·refine Aj Az rfl (qf DR rfl (ql BV rfl (qf Fs rfl (ql BV rfl ?_))))
  refine QE (.p rfl) rfl rfl ?_
  refine A1 rfl (qm rfl ?_)
  refine Dp 9 h rfl (fun h => ?_) fun h => ?_
  ·refine qw 3 rfl (qp rfl (qw 4 rfl (qp rfl (Ad ?_))))
   exact sn [] h
  ·refine qf DK rfl (ql BV rfl (A1 rfl (qp rfl (qm rfl ?_))))
   refine Dp 14 h rfl (fun h => ?_) fun h => ?_
   ·refine qw 3 rfl (qp rfl (Ad ?_))
    exact sn [] h
   ·refine qf DK rfl (ql BV rfl (E0 rfl (qp rfl (Ad ?_))))
    exact sn [] h
 ·refine Bh h (fun h => ?_) fun h => ?_
  ·refine wq rfl (qe rfl ?_)
   obtain rfl := sj h
   refine Ae (sm [] [(2, bD false)] [] rfl rfl) (Aq ?_)
   exact ⟨⟨[_], tm, rfl⟩, tv⟩
  ·refine Am ?_
   refine AM h (fun v5 => mk [(2, bD v5)] []) (fun j5 h => ?_) (fun v5 h => ?_)
   ·refine Aj Az rfl (qf DK rfl (ql BV rfl (Bv rfl (qm rfl ?_))))
    refine Dp 22 h rfl (fun h => ?_) fun h => ?_
    ·refine qw 3 rfl (qp rfl (qe rfl ?_))
     exact sn [] h
    ·refine qf Fs rfl (ql BV rfl (Bv rfl (qp rfl (qe rfl ?_))))
     exact sn [] h
   ·obtain rfl := sj h
    refine Ae (sm [] [(2, bD v5)] [] rfl rfl) (Aq ?_)
    exact ⟨⟨[_], tm, rfl⟩, tv⟩
theorem MW (N : Nat) (p0 : Aa) (p1 : Ac) (r : Bool) (h : Fj N p0 p1 = some r) : As Tryz.prog 99 [.e (.agg (Ah p0)), .e (.agg (Ce p1))] [] (bD r) := by
 unfold Fj at h
 refine cw (n := 36) (rs := [.tmp 4]) Tryz.func99 fun w0 S0 => ?_
 refine wq rfl (qb rfl (qb rfl (qa rfl (Ad (wp rfl (qf DK rfl (ql BV rfl (Bv rfl (Ad ?_)))))))))
 refine Bh h (fun h => ?_) fun h => ?_
 ·refine wq rfl (qf DR rfl (ql BV rfl (qf Ct rfl (ql GI rfl (AG DI rfl (A1 rfl (qe rfl ?_)))))))
  obtain rfl := sj h
  refine Ae (sm [] [(4, bD ((decide (p1.fh < (p0.fc.length : Int)))))] [] rfl rfl) (Aq ?_)
  exact ⟨⟨[_], tm, rfl⟩, tv⟩
 ·refine Am ?_
  refine AM h (fun v2 => mk [(4, bD v2)] []) (fun j2 h => ?_) (fun v2 h => ?_)
  ·refine Aj Az rfl (qf DR rfl (ql BV rfl (qf Bn rfl (ql A0 rfl (AG Ax rfl (A1 rfl (qm rfl ?_)))))))
   refine Dp 20 h rfl (fun h => ?_) fun h => ?_
   ·refine qf DK rfl (ql BV rfl (By rfl (qm rfl ?_)))
    refine Dp 24 h rfl (fun h => ?_) fun h => ?_
    ·refine qw 9 rfl (qp rfl (qp rfl (qa rfl (AH (by kernel_rfl) ?_))))
     exact sn [] h
    ·refine qf Fs rfl (ql BV rfl (qf Bn rfl (ql A0 rfl (qf DR rfl (ql BV rfl ?_)))))
     refine B3 h fun v5 a5 b5 h => qi Ax CT a5 (Ag b5) rfl (qk BV rfl (A1 rfl (qp rfl (qp rfl (qa rfl (AH (by kernel_rfl) ?_))))))
     exact sn [] h
   ·refine qw 4 rfl (qu rfl (qu rfl (qu rfl (qu rfl (qu rfl (qu rfl (qu rfl (qu rfl (qu rfl (qn rfl (qp rfl (qa rfl (AH (by kernel_rfl) ?_)))))))))))))
    exact sn [] h
  ·obtain rfl := sj h
   refine Ae (sm [] [(4, bD v2)] [] rfl rfl) (Aq ?_)
   exact ⟨⟨[_], tm, rfl⟩, tv⟩
theorem MQ (N : Nat) (p0 : Ab) (r : Ab) (h : Fe N p0 = some r) : As Tryz.prog 109 [.e (.agg (Ay p0))] [(1, r.fe.map Ao), (1, r.fa.map Ao), (1, r.fd.map B6)] (.e (.agg [.own 0, .own 1, .own 2])) := by
 unfold Fe at h
 refine cw (n := 13) (rs := [.cell 2 38]) Tryz.func109 fun w0 S0 => ?_
 refine wq rfl (qb rfl (qz B4 rfl (Ad (wq rfl (qf Cs rfl (ql A0 rfl ?_))))))
 refine B9 h fun v1 a1 h => Av [2001] (C2 N p0.fe v1 a1) Sq rfl (qf Bo rfl (ql A0 rfl ?_))
 refine B9 h fun v2 a2 h => Av [2002] (C2 N p0.fa v2 a2) Sq rfl (qf Ck rfl (ql Gv rfl ?_))
 refine B9 h fun v3 a3 h => Av [2003] (Er N p0.fd v3 a3) VU rfl (AR B4 E6 rfl (qs AE rfl (AH (by kernel_rfl) ?_)))
 obtain rfl := sj h
 refine Ae (sm [(1000, 2001), (1001, 2002), (1002, 2003)] [(2, oD (.ptr 2 0))] [(2, .box [.own 1000, .own 1001, .own 1002]), (1000, .vec 1 (v1.map Ao)), (1001, .vec 1 (v2.map Ao)), (1002, .vec 1 (v3.map B6))] rfl rfl) (Aq ?_)
 exact ⟨⟨[_], ⟨.cellN _ _ _ _ _ _ _ rfl rfl A7 AE rfl rfl (Fq rfl), tv⟩, rfl⟩, ⟨rfl, rfl, rfl, tv⟩⟩
theorem JK (N : Nat) (p0 : Ar) (r : Bool) (h : Ex N p0 = some r) : As Tryz.prog 117 [.e (.agg (A9 p0))] [] (bD r) := by
 unfold Ex at h
 refine cw (n := 11) (rs := [.tmp 2]) Tryz.func117 fun w0 S0 => ?_
 refine wq rfl (qb rfl (qe rfl ?_))
 refine AM h (fun v1 => mk [(2, bD v1)] []) (fun j1 h => ?_) (fun v1 h => ?_)
 ·refine Aj Az rfl (qf EV rfl (ql BV rfl (Bv rfl (qm rfl ?_))))
  refine Dp 6 h rfl (fun h => ?_) fun h => ?_
  ·refine qw 3 rfl (qp rfl (qe rfl ?_))
   exact sn [] h
  ·refine qf EV rfl (ql BV rfl (Bv rfl (qp rfl (qe rfl ?_))))
   exact sn [] h
 ·obtain rfl := sj h
  refine Ae (sm [] [(2, bD v1)] [] rfl rfl) (Aq ?_)
  exact ⟨⟨[_], tm, rfl⟩, tv⟩
theorem Oo (N : Nat) (p0 : Aa) (p1 : Ab) (p2 : Ac) (r : Bool × (List Int) × (List Int)) (h : GM N p0 p1 p2 = some r) : C8 Tryz.prog 110 [.e (.agg (Ah p0)), oD (.ptr 90000 0), .e (.agg (Ce p2))] [(.box [.own 90001, .own 90002, .own 90003], .box [.own 90001, .own 90002, .own 90003]), (.vec 1 (p1.fe.map Ao), .vec 1 (p1.fe.map Ao)), (.vec 1 (p1.fa.map Ao), .vec 1 (r.2.1.map Ao)), (.vec 1 (p1.fd.map B6), .vec 1 (r.2.2.map B6))] [] (bD r.1) := by
 unfold GM at h
 refine Fh (n := 70) (rs := [.tmp 6]) Tryz.func110 rfl rfl rfl (Iq rfl) (Iq rfl) rfl rfl (Iq rfl) rfl (Iq rfl) fun w0 S0 GL => ?_
 refine Ae (sm [] [(0, .e (.agg (Ah p0))), (1, oD (.ptr 90000 0)), (2, .e (.agg (Ce p2)))] [(90000, .box [.own 90001, .own 90002, .own 90003]), (90001, .vec 1 (p1.fe.map Ao)), (90002, .vec 1 (p1.fa.map Ao)), (90003, .vec 1 (p1.fd.map B6))] rfl rfl) (wq rfl (qb rfl (qb rfl (qa rfl (Ad (AP ?_))))))
 refine AM h (fun v1 => mk [(1, oD (.ptr 90000 0)), (3, oD (.ptr 3 0)), (5, oD (.ptr 5 0)), (30, bD v1)] [(3, .box (Ah p0)), (5, .box (Ce p2)), (90000, .box [.own 90001, .own 90002, .own 90003]), (90001, .vec 1 (p1.fe.map Ao)), (90002, .vec 1 (p1.fa.map Ao)), (90003, .vec 1 (p1.fd.map B6))]) (fun j1 h => ?_) (fun v1 h => ?_)
 ·refine Aj Az rfl (qm rfl (Tv rfl (qf Bo rfl (ql A0 rfl (qf DR rfl (ql BV rfl ?_))))))
  refine B3 h fun v2 a2 b2 h => qI Ax CT a2 (Ag b2) rfl (qj BV (Ag b2) rfl (D1 rfl (qm rfl ?_)))
  refine Dp 18 h rfl (fun h => ?_) fun h => ?_
  ·refine qw 11 rfl (qp rfl (AH (by kernel_rfl) ?_))
   exact sn [] h
  ·refine qm rfl (Tv rfl (qf Cs rfl (ql A0 rfl (qf DR rfl (ql BV rfl ?_)))))
   refine B3 h fun v4 a4 b4 h => qI Ax CT a4 (Ag b4) rfl (qj BV (Ag b4) rfl (qf Fs rfl (ql BV rfl (Bv rfl (qp rfl (AH (by kernel_rfl) ?_))))))
   exact sn [] h
 ·refine Bh h (fun h => ?_) fun h => ?_
  ·refine wq rfl (qe rfl ?_)
   obtain rfl := sj h
   refine Ae (sm [] [(6, bD false)] [(90000, .box [.own 90001, .own 90002, .own 90003]), (90001, .vec 1 (p1.fe.map Ao)), (90002, .vec 1 (p1.fa.map Ao)), (90003, .vec 1 (p1.fd.map B6))] rfl rfl) (Aq ?_)
   exact ⟨⟨[_], tm, rfl⟩, ⟨rfl, rfl, rfl, rfl, tv⟩, tv⟩
  ·refine Am (wq rfl (qm rfl (Tv rfl (qf Bo rfl (ql A0 rfl (qf DR rfl (ql BV rfl (qf Fs rfl (ql BV rfl ?_)))))))))
   refine B3 h fun v6 a6 b6 h => qI Ax CT a6 (Ag b6) rfl ?_
   refine Ea rfl rfl rfl rfl (Ag b6) rfl CT rfl (Iq rfl) (Ec Ao p1.fa _ p2.fj) ?_
   refine AH (by kernel_rfl) (wp rfl (qf Ct rfl (ql GI rfl (AG DI rfl (qm rfl (Ad ?_))))))
   refine AJ (L := CM N p0 p2) h (fun v7 => mk [(1, oD (.ptr 90000 0)), (5, oD (.ptr 5 0)), (41, pD (.sl (p0.fc.map AQ))), (42, iD ((p0.fc.length : Int))), (43, iD v7.2)] [(5, .box (Ce p2)), (90000, .box [.own 90001, .own 90002, .own 90003]), (90001, .vec 1 (p1.fe.map Ao)), (90002, .vec 1 ((p1.fa.set ((p2.fh).toNat) p2.fj).map Ao)), (90003, .vec 1 (v7.1.map B6))]) (fun v8 => mk [] [(90000, .box [.own 90001, .own 90002, .own 90003]), (90001, .vec 1 (p1.fe.map Ao)), (90002, .vec 1 ((p1.fa.set ((p2.fh).toNat) p2.fj).map Ao)), (90003, .vec 1 (v8.map B6))]) (fun _ _ => rfl) (sm [] _ _ rfl rfl) (fun j7 n7 v7 h => ?_) (fun v8 s h hs => ?_)
   ·unfold CM at h
    refine wq rfl (A1 rfl (Ad (AP ?_)))
    refine Bh h (fun h => ?_) fun h => ?_
    ·refine Am ?_
     refine AM h (fun v10 => mk [(1, oD (.ptr 90000 0)), (5, oD (.ptr 5 0)), (41, pD (.sl (p0.fc.map AQ))), (42, iD ((p0.fc.length : Int))), (43, iD v7.2)] [(5, .box (Ce p2)), (90000, .box [.own 90001, .own 90002, .own 90003]), (90001, .vec 1 (p1.fe.map Ao)), (90002, .vec 1 ((p1.fa.set ((p2.fh).toNat) p2.fj).map Ao)), (90003, .vec 1 (v10.map B6))]) (fun j10 h => ?_) (fun v10 h => ?_)
     ·refine AO (wq rfl (qm rfl ?_))
      refine B3 h fun v11 a11 b11 h => qi DI DH a11 (Ag b11) rfl (qK GB DH rfl (qz KK rfl (qa rfl (qs DH rfl (Ad ?_)))))
      refine AM h (fun v12 => mk [(1, oD (.ptr 90000 0)), (5, oD (.ptr 5 0)), (7, iD v7.2), (41, pD (.sl (p0.fc.map AQ))), (42, iD ((p0.fc.length : Int))), (43, iD v7.2), (56, bD v12)] [(5, .box (Ce p2)), (90000, .box [.own 90001, .own 90002, .own 90003]), (90001, .vec 1 (p1.fe.map Ao)), (90002, .vec 1 ((p1.fa.set ((p2.fh).toNat) p2.fj).map Ao)), (90003, .vec 1 (v7.1.map B6))]) (fun j12 h => ?_) (fun v12 h => ?_)
      ·refine Aj Az rfl (qf Cy rfl (ql BV rfl (qf DR rfl (ql BV rfl (Bv rfl (qm rfl ?_))))))
       refine Dp 53 h rfl (fun h => ?_) fun h => ?_
       ·refine qL GB DH rfl ?_
        refine B9 h fun v14 a14 h => Av [] (JK N v11 v14 a14) Uf rfl (qp rfl (Ad ?_))
        exact sn [] h
       ·refine qw 2 rfl (qp rfl (Ad ?_))
        exact sn [] h
      ·refine Bh h (fun h => ?_) fun h => ?_
       ·refine Aj Az rfl (qm rfl (Tv rfl (qf Ck rfl (ql Gv rfl (qm rfl ?_)))))
        refine B3 h fun v16 a16 b16 h => qI CK E5 a16 (Ag b16) rfl (qj I2 (Ag b16) rfl (qf Fs rfl (ql BV rfl ?_)))
        refine E1 h fun c17 h => HU rfl c17 (RV rfl ?_)
        refine B3 h fun v18 a18 b18 h => qI CK E5 a18 (Ag b18) rfl ?_
        refine Ea rfl rfl rfl rfl (Ag b18) rfl E5 rfl (Iq rfl) (Ec B6 v7.1 _ ((ME .u8 v16 ((C0 .u8 1 p2.fj))))) ?_
        refine AH (by kernel_rfl) ?_
        exact sn [] h
       ·refine Am ?_
        exact sn [] h
     ·refine Aj Az rfl (Bq rfl (qm rfl (Ad ?_)))
      exact sn [] h
    ·refine AY ?_
     exact sn [] h
   ·refine Ae hs (wq rfl (qe rfl ?_))
    obtain rfl := sj h
    refine Ae (sm [] [(6, bD true)] [(90000, .box [.own 90001, .own 90002, .own 90003]), (90001, .vec 1 (p1.fe.map Ao)), (90002, .vec 1 ((p1.fa.set ((p2.fh).toNat) p2.fj).map Ao)), (90003, .vec 1 (v8.map B6))] rfl rfl) (Aq ?_)
    exact ⟨⟨[_], tm, rfl⟩, ⟨rfl, rfl, rfl, rfl, tv⟩, tv⟩
theorem L4 (N : Nat) (p0 : Ab) (p1 : Int) (r : Int) (h : EM N p0 p1 = some r) : As Tryz.prog 118 [.e (.agg (Ay p0)), iD p1] [] (pD (.val (.int .u8 r))) := by
 unfold EM at h
 refine cw (n := 27) (rs := [.tmp 4]) Tryz.func118 fun w0 S0 => ?_
 refine wq rfl (qb rfl (qa rfl (Ad (wq rfl (qf Cs rfl (ql A0 rfl (qm rfl ?_)))))))
 refine B3 h fun v1 a1 b1 h => qi Ax CT a1 (Ag b1) rfl (qk BV rfl ?_)
 refine E1 h fun c2 h => HU rfl c2 (qe rfl ?_)
 refine AM h (fun v3 => mk [(5, pD (.val (.int .u8 v3)))] []) (fun j3 h => ?_) (fun v3 h => ?_)
 ·refine wq rfl (qf Bo rfl (ql A0 rfl (qm rfl ?_)))
  refine B3 h fun v4 a4 b4 h => qi Ax CT a4 (Ag b4) rfl (qk BV rfl (D1 rfl (Ad ?_)))
  refine Bh h (fun h => ?_) fun h => ?_
  ·refine Aj Az rfl (qm rfl (qf Bo rfl (ql A0 rfl (qm rfl ?_))))
   refine B3 h fun v6 a6 b6 h => qi Ax CT a6 (Ag b6) rfl (qk BV rfl ?_)
   refine E1 h fun c7 h => HU rfl c7 (RV rfl (qe rfl ?_))
   exact sn [] h
  ·refine Am ?_
   exact sn [] h
 ·refine wq rfl (qm rfl (qe rfl ?_))
  obtain rfl := sj h
  refine Ae (sm [] [(4, pD (.val (.int .u8 v3)))] [] rfl rfl) (Aq ?_)
  exact ⟨⟨[_], tm, rfl⟩, tv⟩
theorem HM (N : Nat) (p0 : Int) (r : Int) (h : Cp N p0 = some r) : As Tryz.prog 125 [pD (.val (.int .u8 p0))] [] (iD r) := by
 unfold Cp at h
 refine cw (n := 6) (rs := [.tmp 2]) Tryz.func125 fun w0 S0 => ?_
 refine wq rfl (qa rfl (Ad (wq rfl (qm rfl ?_))))
 refine B9 h fun v1 a1 h => Ro (.p rfl) rfl rfl Xa a1 ?_
 refine IS Uv Ur rfl (qe rfl ?_)
 obtain rfl := sj h
 refine Ae (sm [] [(2, iD ((wI .i64 v1)))] [] rfl rfl) (Aq ?_)
 exact ⟨⟨[_], tm, rfl⟩, tv⟩
theorem Kf (N : Nat) (p0 : Ar) (p1 : Int) (p2 : Int) (r : Bool) (h : EH N p0 p1 p2 = some r) : As Tryz.prog 119 [.e (.agg (A9 p0)), pD (.val (.int .u8 p1)), iD p2] [] (bD r) := by
 unfold EH at h
 refine cw (n := 25) (rs := [.tmp 6]) Tryz.func119 fun w0 S0 => ?_
 refine wq rfl (qb rfl (qa rfl (Ad (wp rfl (qm rfl (qe rfl ?_))))))
 refine AJ (L := CG N p0 p2) h (fun v1 => mk [(2, iD p2), (3, oD (.ptr 3 0)), (7, pD (.val (.int .u8 v1)))] [(3, .box (A9 p0))]) (fun v2 => mk [] []) (fun _ _ => rfl) (sm [] _ _ rfl rfl) (fun j1 n1 v1 h => ?_) (fun v2 s h hs => ?_)
 ·unfold CG at h
  refine wp rfl (qm rfl (By rfl (Ad ?_)))
  refine Bh h (fun h => ?_) fun h => ?_
  ·refine Am (AP (AO (wq rfl (qf FT rfl (ql Je rfl (qm rfl ?_))))))
   refine B9 h fun v4 a4 h => Av [] (HM N v1 v4 a4) VJ rfl ?_
   refine B3 h fun v5 a5 b5 h => qi FQ L7 a5 (Ag b5) rfl (qk Om rfl (qm rfl ?_))
   refine B3 h fun v6 a6 b6 h => qi Gn P2 a6 (Ag b6) rfl (qk Qz rfl (Cd rfl (AH (by kernel_rfl) ?_)))
   refine Bh h (fun h => ?_) fun h => ?_
   ·refine wq rfl (qe rfl ?_)
    obtain rfl := sj h
    refine Ae (sm [] [(6, bD false)] [] rfl rfl) (Aq ?_)
    exact ⟨⟨[_], tm, rfl⟩, tv⟩
   ·refine Am (Aj Az rfl (qw 2 rfl (PI rfl (Lq rfl (qe rfl ?_)))))
    exact sn [] h
  ·refine AY ?_
   exact sn [] h
 ·refine Ae hs (wq rfl (qe rfl ?_))
  obtain rfl := sj h
  refine Ae (sm [] [(6, bD true)] [] rfl rfl) (Aq ?_)
  exact ⟨⟨[_], tm, rfl⟩, tv⟩
theorem N7 (N : Nat) (p0 : Aa) (p1 : Ab) (p2 : Int) (r : Bool × (List Int)) (h : FF N p0 p1 p2 = some r) : C8 Tryz.prog 111 [.e (.agg (Ah p0)), oD (.ptr 90000 0), iD p2] [(.box [.own 90001, .own 90002, .own 90003], .box [.own 90001, .own 90002, .own 90003]), (.vec 1 (p1.fe.map Ao), .vec 1 (p1.fe.map Ao)), (.vec 1 (p1.fa.map Ao), .vec 1 (p1.fa.map Ao)), (.vec 1 (p1.fd.map B6), .vec 1 (r.2.map B6))] [] (bD r.1) := by
 unfold FF at h
 refine Fh (n := 68) (rs := [.tmp 6]) Tryz.func111 rfl rfl rfl (Iq rfl) (Iq rfl) rfl rfl (Iq rfl) rfl (Iq rfl) fun w0 S0 GL => ?_
 refine Ae (sm [] [(0, .e (.agg (Ah p0))), (1, oD (.ptr 90000 0)), (2, iD p2)] [(90000, .box [.own 90001, .own 90002, .own 90003]), (90001, .vec 1 (p1.fe.map Ao)), (90002, .vec 1 (p1.fa.map Ao)), (90003, .vec 1 (p1.fd.map B6))] rfl rfl) (wq rfl (qb rfl (qa rfl (Ad (wq rfl (qf Ct rfl (ql GI rfl (qm rfl ?_))))))))
 refine B3 h fun v1 a1 b1 h => qi DI DH a1 (Ag b1) rfl (qK GB DH rfl (qz KK rfl (qs DH rfl (Ad (wp rfl (qL GB DH rfl ?_))))))
 refine B9 h fun v2 a2 h => Av [] (JK N v1 v2 a2) Uf rfl (Cd rfl (Ad ?_))
 refine Bh h (fun h => ?_) fun h => ?_
 ·refine wq rfl (qe rfl ?_)
  obtain rfl := sj h
  refine Ae (sm [] [(6, bD false)] [(90000, .box [.own 90001, .own 90002, .own 90003]), (90001, .vec 1 (p1.fe.map Ao)), (90002, .vec 1 (p1.fa.map Ao)), (90003, .vec 1 (p1.fd.map B6))] rfl rfl) (Aq ?_)
  exact ⟨⟨[_], tm, rfl⟩, ⟨rfl, rfl, rfl, rfl, tv⟩, tv⟩
 ·refine Am (wq rfl (qm rfl (Tv rfl (qL A7 AE rfl (qf Cy rfl (ql BV rfl ?_))))))
  refine B9 h fun v4 a4 h => Ip [] [90001, 90002, 90003] (L4 N p1 v1.fg v4 a4) Wg GC rfl (qa rfl (AH (by kernel_rfl) (wq rfl (qm rfl (Tv rfl (qf Ck rfl (ql Gv rfl (qm rfl ?_))))))))
  refine B3 h fun v5 a5 b5 h => qI CK E5 a5 (Ag b5) rfl (qj I2 (Ag b5) rfl (qm rfl (HD rfl (qa rfl (Ad (AP ?_))))))
  refine AM h (fun v6 => mk [(1, oD (.ptr 90000 0)), (2, iD p2), (8, pD (.val (.int .u8 v4))), (60, bD v6)] [(90000, .box [.own 90001, .own 90002, .own 90003]), (90001, .vec 1 (p1.fe.map Ao)), (90002, .vec 1 (p1.fa.map Ao)), (90003, .vec 1 (p1.fd.map B6))]) (fun j6 h => ?_) (fun v6 h => ?_)
  ·refine Aj Az rfl (qm rfl (Tv rfl (qf Ck rfl (ql Gv rfl (qm rfl ?_)))))
   refine B3 h fun v7 a7 b7 h => qI CK E5 a7 (Ag b7) rfl (qj I2 (Ag b7) rfl (qm rfl (Bv rfl (qm rfl ?_))))
   refine Dp 42 h rfl (fun h => ?_) fun h => ?_
   ·refine qw 4 rfl (qu rfl (qu rfl (qu rfl (qu rfl (qu rfl (qu rfl (qu rfl (qu rfl (qu rfl (qu rfl (qu rfl (qu rfl (qn rfl (qp rfl (AH (by kernel_rfl) ?_)))))))))))))))
    exact sn [] h
   ·refine qf EV rfl (ql BV rfl (Bv rfl (qm rfl ?_)))
    refine Dp 46 h rfl (fun h => ?_) fun h => ?_
    ·refine qL GB DH rfl (qw 2 rfl (Tv rfl (qf Cs rfl (ql A0 rfl (qf Cy rfl (ql BV rfl ?_))))))
     refine B3 h fun v10 a10 b10 h => qI Ax CT a10 (Ag b10) rfl (qj BV (Ag b10) rfl ?_)
     refine B9 h fun v11 a11 h => Av [] (Kf N v1 ((Cz .u8 v5 v4)) v10 v11 a11) Wm rfl (Cd rfl (qp rfl (qp rfl (AH (by kernel_rfl) ?_))))
     exact sn [] h
    ·refine qw 12 rfl (qp rfl (qp rfl (AH (by kernel_rfl) ?_)))
     exact sn [] h
  ·refine Bh h (fun h => ?_) fun h => ?_
   ·refine wq rfl (qe rfl ?_)
    obtain rfl := sj h
    refine Ae (sm [] [(6, bD false)] [(90000, .box [.own 90001, .own 90002, .own 90003]), (90001, .vec 1 (p1.fe.map Ao)), (90002, .vec 1 (p1.fa.map Ao)), (90003, .vec 1 (p1.fd.map B6))] rfl rfl) (Aq ?_)
    exact ⟨⟨[_], tm, rfl⟩, ⟨rfl, rfl, rfl, rfl, tv⟩, tv⟩
   ·refine Am (wq rfl (qm rfl (Tv rfl (qf Ck rfl (ql Gv rfl (qw 2 rfl ?_))))))
    refine B3 h fun v13 a13 b13 h => qI CK E5 a13 (Ag b13) rfl ?_
    refine Ea rfl rfl rfl rfl (Ag b13) rfl E5 rfl (Iq rfl) (Ec B6 p1.fd _ v4) ?_
    refine Ad (wq rfl (qe rfl ?_))
    obtain rfl := sj h
    refine Ae (sm [] [(6, bD true)] [(90000, .box [.own 90001, .own 90002, .own 90003]), (90001, .vec 1 (p1.fe.map Ao)), (90002, .vec 1 (p1.fa.map Ao)), (90003, .vec 1 ((p1.fd.set ((p2).toNat) v4).map B6))] rfl rfl) (Aq ?_)
    exact ⟨⟨[_], tm, rfl⟩, ⟨rfl, rfl, rfl, rfl, tv⟩, tv⟩
theorem Ot (N : Nat) (p0 : Aa) (p1 : Ab) (p2 : Ac) (r : Ab × Bool) (h : FA N p0 p1 p2 = some r) : As Tryz.prog 100 [.e (.agg (Ah p0)), .e (.agg (Ay p1)), .e (.agg (Ce p2))] [(1, r.1.fe.map Ao), (1, r.1.fa.map Ao), (1, r.1.fd.map B6)] (.tup [.agg [.own 0, .own 1, .own 2], .one (.pure (.val (.bool r.2)))]) := by
 unfold FA at h
 refine cw (n := 51) (rs := [.cell 6 38, .tmp 7]) Tryz.func100 fun w0 S0 => ?_
 refine wq rfl (qb rfl (qb rfl (qb rfl (qz B4 rfl (qa rfl (Ad (wq rfl (qL A7 AE rfl ?_))))))))
 refine B9 h fun v1 a1 h => Av [2001, 2002, 2003] (MQ N p1 v1 a1) VA rfl (qz B4 rfl (qs AE rfl (Ad (wp rfl (qf DK rfl (ql BV rfl (Ad (AO (wq rfl (Bv rfl (qe rfl ?_)))))))))))
 refine Bh h (fun h => ?_) fun h => ?_
 ·refine wq rfl (qL A7 AE rfl (qL CI Cv rfl (qL Gw Cr rfl ?_)))
  refine B9 h fun v3 a3 h => LJ (ds0 := [_, _, _]) [8, 2001, 2002, 2003] [] [false, false, true, true] (Oo N p0 v1 p2 v3 a3) (.p rfl) Wl rfl ⟨rfl, rfl, rfl, tv⟩ rfl rfl (by decide) ⟨rfl, rfl, rfl, rfl, tv⟩ rfl (GV rfl) tv ⟨(fun _ => rfl), (fun _ => rfl), (fun h => by cases h), (fun h => by cases h), tv⟩ rfl rfl rfl ?_
  refine qs AE rfl (qa rfl (AH (by kernel_rfl) ?_))
  obtain rfl := sj h
  refine Ae (sm [(1000, 2001), (1001, 2002), (1002, 2003)] [(6, oD (.ptr 6 0)), (7, bD v3.1)] [(6, .box [.own 1000, .own 1001, .own 1002]), (1000, .vec 1 (v1.fe.map Ao)), (1001, .vec 1 (v3.2.1.map Ao)), (1002, .vec 1 (v3.2.2.map B6))] rfl rfl) (Aq ?_)
  exact ⟨⟨[_, _], ⟨.cellN _ _ _ _ _ _ _ rfl rfl A7 AE rfl rfl (Fq rfl), tm⟩, rfl⟩, ⟨rfl, rfl, rfl, tv⟩⟩
 ·refine wq rfl (Bv rfl (qe rfl ?_))
  refine Bh h (fun h => ?_) fun h => ?_
  ·refine wq rfl (qL A7 AE rfl (qL CI Cv rfl (qf DR rfl (ql BV rfl ?_))))
   refine B9 h fun v5 a5 h => LJ (ds0 := [_, _, _]) [8, 2001, 2002, 2003] [] [false, false, false, true] (N7 N p0 v1 p2.fh v5 a5) (.p rfl) VH rfl ⟨rfl, rfl, rfl, tv⟩ rfl rfl (by decide) ⟨rfl, rfl, rfl, rfl, tv⟩ rfl (GV rfl) tv ⟨(fun _ => rfl), (fun _ => rfl), (fun _ => rfl), (fun h => by cases h), tv⟩ rfl rfl rfl ?_
   refine qs AE rfl (qa rfl (AH (by kernel_rfl) ?_))
   obtain rfl := sj h
   refine Ae (sm [(1000, 2001), (1001, 2002), (1002, 2003)] [(6, oD (.ptr 6 0)), (7, bD v5.1)] [(6, .box [.own 1000, .own 1001, .own 1002]), (1000, .vec 1 (v1.fe.map Ao)), (1001, .vec 1 (v1.fa.map Ao)), (1002, .vec 1 (v5.2.map B6))] rfl rfl) (Aq ?_)
   exact ⟨⟨[_, _], ⟨.cellN _ _ _ _ _ _ _ rfl rfl A7 AE rfl rfl (Fq rfl), tm⟩, rfl⟩, ⟨rfl, rfl, rfl, tv⟩⟩
  ·refine Am (wq rfl (qf Bo rfl (ql A0 rfl (qf DR rfl (ql BV rfl ?_)))))
   refine B3 h fun v6 a6 b6 h => qI Ax CT a6 (Ag b6) rfl (qj BV (Ag b6) rfl (qa rfl (Ad (wp rfl (qm rfl (A1 rfl (Ad ?_)))))))
   refine Bh h (fun h => ?_) fun h => ?_
   ·refine wq rfl (qL A7 AE rfl (qs AE rfl (qe rfl ?_)))
    obtain rfl := sj h
    refine Ae (sm [(1000, 2001), (1001, 2002), (1002, 2003)] [(6, oD (.ptr 6 0)), (7, bD false)] [(6, .box [.own 1000, .own 1001, .own 1002]), (1000, .vec 1 (v1.fe.map Ao)), (1001, .vec 1 (v1.fa.map Ao)), (1002, .vec 1 (v1.fd.map B6))] rfl rfl) (Aq ?_)
    exact ⟨⟨[_, _], ⟨.cellN _ _ _ _ _ _ _ rfl rfl A7 AE rfl rfl (Fq rfl), tm⟩, rfl⟩, ⟨rfl, rfl, rfl, tv⟩⟩
   ·refine Am (wq rfl (qf Bo rfl (ql A0 rfl (qf DR rfl (ql BV rfl ?_)))))
    refine B3 h fun v8 a8 b8 h => qI Ax CT a8 (Ag b8) rfl ?_
    refine Ea rfl rfl rfl rfl (Ag b8) rfl CT rfl (Iq rfl) (Ec Ao v1.fa _ ((-1))) ?_
    refine Ad ?_
    refine AM h (fun v9 => mk [(6, oD (.ptr 6 0)), (8, oD (.ptr 8 0))] [(6, .box [.pure (.nil0), .pure (.nil0), .pure (.nil0)]), (8, .box [.own 2004, .own 2005, .own 2006]), (2004, .vec 1 (v9.map Ao)), (2005, .vec 1 ((v1.fa.set ((p2.fh).toNat) ((-1))).map Ao)), (2006, .vec 1 (v1.fd.map B6))]) (fun j9 h => ?_) (fun v9 h => ?_)
    ·refine wq rfl (qf DK rfl (ql BV rfl (Bv rfl (Ad ?_))))
     refine Bh h (fun h => ?_) fun h => ?_
     ·refine Aj Az rfl (qf Cs rfl (ql A0 rfl (qf DR rfl (ql BV rfl (qm rfl ?_)))))
      refine B3 h fun v11 a11 b11 h => qI Ax CT a11 (Ag b11) rfl ?_
      refine Ea rfl rfl rfl rfl (Ag b11) rfl CT rfl (Iq rfl) (Ec Ao v1.fe _ v6) ?_
      refine Ad ?_
      exact sn [(2004, 2001), (2005, 2002), (2006, 2003)] h
     ·refine Am ?_
      exact sn [(2004, 2001), (2005, 2002), (2006, 2003)] h
    ·refine wq rfl (qL A7 AE rfl (qs AE rfl (qe rfl ?_)))
     obtain rfl := sj h
     refine Ae (sm [(1000, 2004), (1001, 2005), (1002, 2006)] [(6, oD (.ptr 6 0)), (7, bD true)] [(6, .box [.own 1000, .own 1001, .own 1002]), (1000, .vec 1 (v9.map Ao)), (1001, .vec 1 ((v1.fa.set ((p2.fh).toNat) ((-1))).map Ao)), (1002, .vec 1 (v1.fd.map B6))] rfl rfl) (Aq ?_)
     exact ⟨⟨[_, _], ⟨.cellN _ _ _ _ _ _ _ rfl rfl A7 AE rfl rfl (Fq rfl), tm⟩, rfl⟩, ⟨rfl, rfl, rfl, tv⟩⟩
theorem NL (N : Nat) (p0 : Aa) (p1 : Ab) (p2 : Ac) (r : Ab × Int) (h : FJ N p0 p1 p2 = some r) : As Tryz.prog 83 [.e (.agg (Ah p0)), .e (.agg (Ay p1)), .e (.agg (Ce p2))] [(1, r.1.fe.map Ao), (1, r.1.fa.map Ao), (1, r.1.fd.map B6)] (.tup [.agg [.own 0, .own 1, .own 2], .one (iC r.2)]) := by
 unfold FJ at h
 refine cw (n := 32) (rs := [.cell 6 38, .tmp 7]) Tryz.func83 fun w0 S0 => ?_
 refine wq rfl (qb rfl (qb rfl (qb rfl (qz B4 rfl (qa rfl (Ad (AP (AO (wq rfl (qL Gw Cr rfl ?_))))))))))
 refine B9 h fun v1 a1 h => Av [] (Kw N p2 v1 a1) VP rfl (Cd rfl (qe rfl ?_))
 refine Bh h (fun h => ?_) fun h => ?_
 ·refine wq rfl (AR B4 E6 rfl (qs AE rfl (qe rfl ?_)))
  obtain rfl := sj h
  refine Ae ((Aw 6 0 2001 1 _ rfl rfl rfl rfl).trans ((Aw 6 1 2002 1 _ rfl rfl rfl rfl).trans ((Aw 6 2 2003 1 _ rfl rfl rfl rfl).trans (sm [(1000, 2001), (1001, 2002), (1002, 2003)] [(6, oD (.ptr 6 0)), (7, iD 1)] [(6, .box [.own 1000, .own 1001, .own 1002]), (1000, .vec 1 ((([] : List Int)).map Ao)), (1001, .vec 1 ((([] : List Int)).map Ao)), (1002, .vec 1 ((([] : List Int)).map B6))] rfl rfl)))) (Aq ?_)
  exact ⟨⟨[_, _], ⟨.cellN _ _ _ _ _ _ _ rfl rfl A7 AE rfl rfl (Fq rfl), tm⟩, rfl⟩, ⟨rfl, rfl, rfl, tv⟩⟩
 ·refine wq rfl (qL CI Cv rfl (qL Gw Cr rfl ?_))
  refine B9 h fun v3 a3 h => Av [] (MW N p0 p2 v3 a3) Xm rfl (Cd rfl (qe rfl ?_))
  refine Bh h (fun h => ?_) fun h => ?_
  ·refine wq rfl (AR B4 E6 rfl (qs AE rfl (qe rfl ?_)))
   obtain rfl := sj h
   refine Ae ((Aw 6 0 2004 1 _ rfl rfl rfl rfl).trans ((Aw 6 1 2005 1 _ rfl rfl rfl rfl).trans ((Aw 6 2 2006 1 _ rfl rfl rfl rfl).trans (sm [(1000, 2004), (1001, 2005), (1002, 2006)] [(6, oD (.ptr 6 0)), (7, iD 4)] [(6, .box [.own 1000, .own 1001, .own 1002]), (1000, .vec 1 ((([] : List Int)).map Ao)), (1001, .vec 1 ((([] : List Int)).map Ao)), (1002, .vec 1 ((([] : List Int)).map B6))] rfl rfl)))) (Aq ?_)
   exact ⟨⟨[_, _], ⟨.cellN _ _ _ _ _ _ _ rfl rfl A7 AE rfl rfl (Fq rfl), tm⟩, rfl⟩, ⟨rfl, rfl, rfl, tv⟩⟩
  ·refine Am (wq rfl (qL CI Cv rfl (qL A7 AE rfl (qL Gw Cr rfl ?_))))
   refine B9 h fun v5 a5 h => Av [2007, 2008, 2009] (Ot N p0 p1 p2 v5 a5) Ws rfl (qm rfl (qx rfl (qx rfl (qz B4 rfl (qs AE rfl (qa rfl (Ad (wp rfl (qm rfl (Cd rfl (Ad ?_)))))))))))
   refine Bh h (fun h => ?_) fun h => ?_
   ·refine wq rfl (AR B4 E6 rfl (qs AE rfl (qe rfl ?_)))
    obtain rfl := sj h
    refine Ae ((Aw 6 0 2010 1 _ rfl rfl rfl rfl).trans ((Aw 6 1 2011 1 _ rfl rfl rfl rfl).trans ((Aw 6 2 2012 1 _ rfl rfl rfl rfl).trans (sm [(1000, 2010), (1001, 2011), (1002, 2012)] [(6, oD (.ptr 6 0)), (7, iD 11)] [(6, .box [.own 1000, .own 1001, .own 1002]), (1000, .vec 1 ((([] : List Int)).map Ao)), (1001, .vec 1 ((([] : List Int)).map Ao)), (1002, .vec 1 ((([] : List Int)).map B6))] rfl rfl)))) (Aq ?_)
    exact ⟨⟨[_, _], ⟨.cellN _ _ _ _ _ _ _ rfl rfl A7 AE rfl rfl (Fq rfl), tm⟩, rfl⟩, ⟨rfl, rfl, rfl, tv⟩⟩
   ·refine Am (wq rfl (qL A7 AE rfl (qs AE rfl (qe rfl ?_))))
    obtain rfl := sj h
    refine Ae (sm [(1000, 2007), (1001, 2008), (1002, 2009)] [(6, oD (.ptr 6 0)), (7, iD 0)] [(6, .box [.own 1000, .own 1001, .own 1002]), (1000, .vec 1 (v5.1.fe.map Ao)), (1001, .vec 1 (v5.1.fa.map Ao)), (1002, .vec 1 (v5.1.fd.map B6))] rfl rfl) (Aq ?_)
    exact ⟨⟨[_, _], ⟨.cellN _ _ _ _ _ _ _ rfl rfl A7 AE rfl rfl (Fq rfl), tm⟩, rfl⟩, ⟨rfl, rfl, rfl, tv⟩⟩
theorem Kh (N : Nat) (p0 : Aa) (p1 : Ab) (p2 : Ac) (r : Ab × Int) (h : ER N p0 p1 p2 = some r) : As Tryz.prog 56 [.e (.agg (Ah p0)), .e (.agg (Ay p1)), .e (.agg (Ce p2))] [(1, r.1.fe.map Ao), (1, r.1.fa.map Ao), (1, r.1.fd.map B6)] (.tup [.agg [.own 0, .own 1, .own 2], .one (iC r.2)]) := by
 unfold ER at h
 refine cw (n := 22) (rs := [.cell 6 38, .tmp 7]) Tryz.func56 fun w0 S0 => ?_
 refine wq rfl (qb rfl (qb rfl (qb rfl (qz B4 rfl (qa rfl (Ad (wp rfl (qL CI Cv rfl (qL A7 AE rfl ?_)))))))))
 refine B9 h fun v1 a1 h => Av [] (HV N p0 p1 v1 a1) TH rfl (qa rfl (Ad (wq rfl (qm rfl (By rfl (Ad ?_))))))
 refine Bh h (fun h => ?_) fun h => ?_
 ·refine wq rfl (AR B4 E6 rfl (qm rfl (qs AE rfl (qe rfl ?_))))
  obtain rfl := sj h
  refine Ae ((Aw 6 0 2001 1 _ rfl rfl rfl rfl).trans ((Aw 6 1 2002 1 _ rfl rfl rfl rfl).trans ((Aw 6 2 2003 1 _ rfl rfl rfl rfl).trans (sm [(1000, 2001), (1001, 2002), (1002, 2003)] [(6, oD (.ptr 6 0)), (7, iD v1)] [(6, .box [.own 1000, .own 1001, .own 1002]), (1000, .vec 1 ((([] : List Int)).map Ao)), (1001, .vec 1 ((([] : List Int)).map Ao)), (1002, .vec 1 ((([] : List Int)).map B6))] rfl rfl)))) (Aq ?_)
  exact ⟨⟨[_, _], ⟨.cellN _ _ _ _ _ _ _ rfl rfl A7 AE rfl rfl (Fq rfl), tm⟩, rfl⟩, ⟨rfl, rfl, rfl, tv⟩⟩
 ·refine Am (wq rfl (qL CI Cv rfl (qL A7 AE rfl (qL Gw Cr rfl ?_))))
  refine B9 h fun v3 a3 h => Av [2004, 2005, 2006] (NL N p0 p1 p2 v3 a3) Xb rfl (qx rfl (qx rfl (qs AE rfl (qe rfl ?_))))
  obtain rfl := sj h
  refine Ae (sm [(1000, 2004), (1001, 2005), (1002, 2006)] [(6, oD (.ptr 6 0)), (7, iD v3.2)] [(6, .box [.own 1000, .own 1001, .own 1002]), (1000, .vec 1 (v3.1.fe.map Ao)), (1001, .vec 1 (v3.1.fa.map Ao)), (1002, .vec 1 (v3.1.fd.map B6))] rfl rfl) (Aq ?_)
  exact ⟨⟨[_, _], ⟨.cellN _ _ _ _ _ _ _ rfl rfl A7 AE rfl rfl (Fq rfl), tm⟩, rfl⟩, ⟨rfl, rfl, rfl, tv⟩⟩
theorem IH (N : Nat) (p0 : List Int) (p1 : List Int) (r : Bool) (h : CQ N p0 p1 = some r) : As Tryz.prog 70 [pD (.sl (p0.map Ao)), pD (.sl (p1.map Ao))] [] (bD r) := by
 unfold CQ at h
 refine cw (n := 26) (rs := [.tmp 4]) Tryz.func70 fun w0 S0 => ?_
 refine wq rfl (qa rfl (Ad (wp rfl (qm rfl (AG Ax rfl (qm rfl (AG Ax rfl (By rfl (Ad ?_)))))))))
 refine Bh h (fun h => ?_) fun h => ?_
 ·refine wq rfl (qe rfl ?_)
  obtain rfl := sj h
  refine Ae (sm [] [(4, bD false)] [] rfl rfl) (Aq ?_)
  exact ⟨⟨[_], tm, rfl⟩, tv⟩
 ·refine Am (wp rfl (qm rfl (AG Ax rfl (qm rfl (Ad ?_)))))
  refine AJ (L := BH N p0 p1) h (fun v2 => mk [(0, pD (.sl (p0.map Ao))), (1, pD (.sl (p1.map Ao))), (12, iD ((p0.length : Int))), (13, iD v2)] []) (fun v3 => mk [] []) (fun _ _ => rfl) (sm [] _ _ rfl rfl) (fun j2 n2 v2 h => ?_) (fun v3 s h hs => ?_)
  ·unfold BH at h
   refine wq rfl (A1 rfl (Ad (AP ?_)))
   refine Bh h (fun h => ?_) fun h => ?_
   ·refine Am (AP (AO (wq rfl (qm rfl (qa rfl (Ad (wq rfl (qw 2 rfl ?_))))))))
    refine B3 h fun v5 a5 b5 h => qi Ax CT a5 (Ag b5) rfl (qk BV rfl (qw 2 rfl ?_))
    refine B3 h fun v6 a6 b6 h => qi Ax CT a6 (Ag b6) rfl (qk BV rfl (By rfl (AH (by kernel_rfl) ?_)))
    refine Bh h (fun h => ?_) fun h => ?_
    ·refine wq rfl (qe rfl ?_)
     obtain rfl := sj h
     refine Ae (sm [] [(4, bD false)] [] rfl rfl) (Aq ?_)
     exact ⟨⟨[_], tm, rfl⟩, tv⟩
    ·refine Am (Aj Az rfl (Bq rfl (qm rfl (Ad ?_))))
     exact sn [] h
   ·refine AY ?_
    exact sn [] h
  ·refine Ae hs (wq rfl (qe rfl ?_))
   obtain rfl := sj h
   refine Ae (sm [] [(4, bD true)] [] rfl rfl) (Aq ?_)
   exact ⟨⟨[_], tm, rfl⟩, tv⟩
theorem Hx (N : Nat) (p0 : List Int) (p1 : Int → Option Bool) (r : Int) (h : CX N p0 p1 = some r) : As Tryz.prog 93 [pD (.sl (p0.map Ao)), oD (.clo (Mf (Rr false Ao) tB p1))] [] (iD r) := by
 unfold CX at h
 refine cw (n := 19) (rs := [.tmp 4]) Tryz.func93 fun w0 S0 => ?_
 refine wq rfl (qa rfl (Ad (wp rfl (qm rfl (AG Ax rfl (qm rfl (Ad ?_)))))))
 refine AJ (L := A4 N p0 p1) h (fun v1 => mk [(0, pD (.sl (p0.map Ao))), (1, oD (.clo (Mf (Rr false Ao) tB p1))), (7, iD ((p0.length : Int))), (8, iD v1)] []) (fun v2 => mk [] []) (fun _ _ => rfl) (sm [] _ _ rfl rfl) (fun j1 n1 v1 h => ?_) (fun v2 s h hs => ?_)
 ·unfold A4 at h
  refine wq rfl (A1 rfl (Ad (AP ?_)))
  refine Bh h (fun h => ?_) fun h => ?_
  ·refine Am (AP (AO (wq rfl (qm rfl (qa rfl (Ad (wq rfl (qw 3 rfl ?_))))))))
   refine B3 h fun v4 a4 b4 h => qi Ax CT a4 (Ag b4) rfl (qk BV rfl ?_)
   refine B9 h fun v5 a5 h => QC (ds0 := [_]) (ar := (Rr false Ao) v4) (.p rfl) rfl rfl ⟨rfl, tv⟩ rfl rfl rfl (QO (QA _ _ UU) a5) ?_
   refine Ad ?_
   refine Bh h (fun h => ?_) fun h => ?_
   ·refine wq rfl (qm rfl (qe rfl ?_))
    obtain rfl := sj h
    refine Ae (sm [] [(4, iD v1)] [] rfl rfl) (Aq ?_)
    exact ⟨⟨[_], tm, rfl⟩, tv⟩
   ·refine Am (Aj Az rfl (Bq rfl (qm rfl (Ad ?_))))
    exact sn [] h
  ·refine AY ?_
   exact sn [] h
 ·refine Ae hs (wq rfl (qe rfl ?_))
  obtain rfl := sj h
  refine Ae (sm [] [(4, iD ((-1)))] [] rfl rfl) (Aq ?_)
  exact ⟨⟨[_], tm, rfl⟩, tv⟩
theorem GT (N : Nat) (p0 : List Int) (p1 : Int → Option Bool) (r : Bool) (h : B2 N p0 p1 = some r) : As Tryz.prog 71 [pD (.sl (p0.map Ao)), oD (.clo (Mf (Rr false Ao) tB p1))] [] (bD r) := by
 unfold B2 at h
 refine cw (n := 9) (rs := [.tmp 4]) Tryz.func71 fun w0 S0 => ?_
 refine wq rfl (qa rfl (Ad (wq rfl (qw 2 rfl ?_))))
 refine B9 h fun v1 a1 h => Av [] (Hx N p0 p1 v1 a1) W2 rfl (D1 rfl (qe rfl ?_))
 obtain rfl := sj h
 refine Ae (sm [] [(4, bD ((decide (0 ≤ v1))))] [] rfl rfl) (Aq ?_)
 exact ⟨⟨[_], tm, rfl⟩, tv⟩
theorem Or (N : Nat) (p0 : Int) (r : Bool) (h : FR N p0 = some r) : As Tryz.prog 72 [iD p0] [] (bD r) := by
 unfold FR at h
 refine cw (n := 5) (rs := [.tmp 2]) Tryz.func72 fun w0 S0 => ?_
 refine wq rfl (qa rfl (Ad (wq rfl (qm rfl (D1 rfl (qe rfl ?_))))))
 obtain rfl := sj h
 refine Ae (sm [] [(2, bD ((decide (0 ≤ p0))))] [] rfl rfl) (Aq ?_)
 exact ⟨⟨[_], tm, rfl⟩, tv⟩
theorem LY (N : Nat) (p0 : Aa) (p1 : Ab) (r : Bool) (h : Fa N p0 p1 = some r) : As Tryz.prog 48 [.e (.agg (Ah p0)), .e (.agg (Ay p1))] [] (bD r) := by
 unfold Fa at h
 refine cw (n := 22) (rs := [.tmp 4]) Tryz.func48 fun w0 S0 => ?_
 refine wq rfl (qb rfl (qb rfl (qe rfl ?_)))
 refine AM h (fun v1 => mk [(4, bD v1)] []) (fun j1 h => ?_) (fun v1 h => ?_)
 ·refine Aj Az rfl (qL CI Cv rfl (qL A7 AE rfl ?_))
  refine B9 h fun v2 a2 h => Av [] (HV N p0 p1 v2 a2) TH rfl (Bv rfl (qm rfl ?_))
  refine Dp 9 h rfl (fun h => ?_) fun h => ?_
  ·refine qf Cs rfl (ql A0 rfl (qf Hd rfl (ql A0 rfl ?_)))
   refine B9 h fun v4 a4 h => Av [] (IH N p1.fe p0.fo v4 a4) Xt rfl (qp rfl (qm rfl ?_))
   refine Dp 16 h rfl (fun h => ?_) fun h => ?_
   ·refine qf Bo rfl (ql A0 rfl ?_)
    refine B9 h fun v6 a6 h => Av [] (As.weak (ds' := [pD (.sl (p1.fa.map Ao)), oD (.fnc 72)]) (GT N p1.fa ((fun (x : Int) => FR N x)) v6 a6) ⟨(fun _ _ _ hh => hh), (fun _ _ _ hh => TL Xj (fun ar t ht => by obtain ⟨x, r, rfl, hq, rfl⟩ := M8 ht; exact Or N x r hq) hh), tv⟩) Xr rfl ?_
    refine Cd rfl (qp rfl (qe rfl ?_))
    exact sn [] h
   ·refine qw 4 rfl (qp rfl (qe rfl ?_))
    exact sn [] h
  ·refine qw 5 rfl (qp rfl (qw 5 rfl (qp rfl (qe rfl ?_))))
   exact sn [] h
 ·obtain rfl := sj h
  refine Ae (sm [] [(4, bD v1)] [] rfl rfl) (Aq ?_)
  exact ⟨⟨[_], tm, rfl⟩, tv⟩
theorem LQ (N : Nat) (p0 : Aa) (p1 : List Ac) (r : Int × Ab × Af × Int) (h : EN N p0 p1 = some r) : As Tryz.prog 68 [.e (.agg (Ah p0)), pD (.sl (p1.map Ai))] [] (.tup [.one (iC r.1), .agg (Ay r.2.1), .agg (DT r.2.2.1), .one (iC r.2.2.2)]) := by
 unfold EN at h
 refine cw (n := 89) (rs := [.tmp 4, .cell 5 38, .cell 6 93, .tmp 7]) Tryz.func68 fun w0 S0 => ?_
 refine wq rfl (qb rfl (qa rfl (qz B4 rfl (qz Fp rfl (qa rfl (Ad (wq rfl (qL CI Cv rfl ?_))))))))
 refine B9 h fun v1 a1 h => Av [2001, 2002, 2003] (Jh N p0 v1 a1) UW rfl (qm rfl (qx rfl (qx rfl (qz B4 rfl (qs AE rfl (qa rfl (Ad (wp rfl (qm rfl (By rfl (Ad ?_)))))))))))
 refine Bh h (fun h => ?_) fun h => ?_
 ·refine wq rfl (AR B4 E6 rfl (AR Fp Jz rfl (qm rfl (qa rfl (qs AE rfl (qs Dr rfl (qe rfl ?_)))))))
  obtain rfl := sj h
  refine Ae ((Dn 5 _ rfl).trans (sm [] [(4, iD 0), (5, oD (.ptr 5 0)), (6, oD (.ptr 6 0)), (7, iD v1.2)] [(5, .box [sC ((([] : List Int)).map Ao), sC ((([] : List Int)).map Ao), sC ((([] : List Int)).map B6)]), (6, .box [iC 0, iC 0, iC 0])] rfl rfl)) (Aq ?_)
  exact ⟨⟨[_, _, _, _], ⟨.tmp _ _ rfl, ⟨.cellN _ _ _ _ _ _ _ rfl rfl A7 AE rfl rfl (Fq rfl), ⟨.cellN _ _ _ _ _ _ _ rfl rfl HQ Dr rfl rfl (Fq rfl), tm⟩⟩⟩, rfl⟩, tv⟩
 ·refine Am (wp rfl (qL CI Cv rfl (qL A7 AE rfl (DA (AW 2001 _ _ rfl rfl) (DA (AW 2002 _ _ rfl rfl) (DA (AW 2003 _ _ rfl rfl) ?_))))))
  refine B9 h fun v3 a3 h => Av [] (Ja N p0 v1.1 v3 a3) Vc rfl (qm rfl (qx rfl (qx rfl (qx rfl (qz B4 rfl (qz Fp rfl (qs AE rfl (qs Dr rfl (qa rfl (Ad (wq rfl (qm rfl (Bv rfl (Ad ?_))))))))))))))
  refine Bh h (fun h => ?_) fun h => ?_
  ·refine wq rfl (qL A7 AE rfl (qL HQ Dr rfl (qa rfl (qs AE rfl (qs Dr rfl (qa rfl (AH (by kernel_rfl) ?_)))))))
   obtain rfl := sj h
   refine Ae (sm [] [(4, iD ((-1))), (5, oD (.ptr 5 0)), (6, oD (.ptr 6 0)), (7, iD 0)] [(5, .box (Ay v3.1)), (6, .box (DT v3.2.1))] rfl rfl) (Aq ?_)
   exact ⟨⟨[_, _, _, _], ⟨.tmp _ _ rfl, ⟨.cellN _ _ _ _ _ _ _ rfl rfl A7 AE rfl rfl (Fq rfl), ⟨.cellN _ _ _ _ _ _ _ rfl rfl HQ Dr rfl rfl (Fq rfl), tm⟩⟩⟩, rfl⟩, tv⟩
  ·refine Am (wp rfl (qm rfl (AG Bk rfl (qm rfl (Ad ?_)))))
   refine AJ (L := Dw N p0 p1) h (fun v5 => mk [(1, pD (.sl (p1.map Ai))), (2, oD (.ptr 2 0)), (5, oD (.ptr 5 0)), (6, oD (.ptr 6 0)), (8, oD (.ptr 8 0)), (41, pD (.sl (p1.map Ai))), (42, iD ((p1.length : Int))), (43, iD v5.2)] [(2, .box (Ah p0)), (5, .box [.pure (.nil0), .pure (.nil0), .pure (.nil0)]), (6, .box [iC 0, iC 0, iC 0]), (8, .box (Ay v5.1))]) (fun v6 => mk [(1, pD (.sl (p1.map Ai))), (2, oD (.ptr 2 0)), (5, oD (.ptr 5 0)), (6, oD (.ptr 6 0)), (8, oD (.ptr 8 0))] [(2, .box (Ah p0)), (5, .box [.pure (.nil0), .pure (.nil0), .pure (.nil0)]), (6, .box [iC 0, iC 0, iC 0]), (8, .box (Ay v6))]) (fun _ _ => rfl) (sm [] _ _ rfl rfl) (fun j5 n5 v5 h => ?_) (fun v6 s h hs => ?_)
   ·unfold Dw at h
    refine wq rfl (A1 rfl (Ad (AP ?_)))
    refine Bh h (fun h => ?_) fun h => ?_
    ·refine Am (AP (AO (wq rfl (qm rfl ?_))))
     refine B3 h fun v8 a8 b8 h => qi Bk Cr a8 (Ag b8) rfl (qK Gw Cr rfl (qz Ix rfl (qa rfl (qs Cr rfl (Ad (wq rfl (qL CI Cv rfl (qL A7 AE rfl (qL Gw Cr rfl ?_)))))))))
     refine B9 h fun v9 a9 h => Av [2004, 2005, 2006] (Kh N p0 v5.1 v8 v9 a9) VR rfl (qm rfl (qx rfl (qx rfl (qz B4 rfl (qs AE rfl (qa rfl (Ad (AP ?_))))))))
     refine AM h (fun v10 => mk [(1, pD (.sl (p1.map Ai))), (2, oD (.ptr 2 0)), (5, oD (.ptr 5 0)), (6, oD (.ptr 6 0)), (8, oD (.ptr 8 0)), (13, iD v5.2), (15, oD (.ptr 15 0)), (41, pD (.sl (p1.map Ai))), (42, iD ((p1.length : Int))), (43, iD v5.2), (61, bD v10)] [(2, .box (Ah p0)), (5, .box [.pure (.nil0), .pure (.nil0), .pure (.nil0)]), (6, .box [iC 0, iC 0, iC 0]), (8, .box (Ay v5.1)), (15, .box [.own 2007, .own 2008, .own 2009]), (2007, .vec 1 (v9.1.fe.map Ao)), (2008, .vec 1 (v9.1.fa.map Ao)), (2009, .vec 1 (v9.1.fd.map B6))]) (fun j10 h => ?_) (fun v10 h => ?_)
     ·refine Aj Az rfl (qm rfl (By rfl (qm rfl ?_)))
      refine Dp 57 h rfl (fun h => ?_) fun h => ?_
      ·refine qw 3 rfl (qp rfl (Ad ?_))
       exact sn [(2007, 2004), (2008, 2005), (2009, 2006)] h
      ·refine qf DK rfl (ql BV rfl (Bv rfl (qp rfl (Ad ?_))))
       exact sn [(2007, 2004), (2008, 2005), (2009, 2006)] h
     ·refine Bh h (fun h => ?_) fun h => ?_
      ·refine wq rfl (qm rfl (AR B4 E6 rfl (AR Fp Jz rfl (qa rfl (qs AE rfl (qs Dr rfl (qe rfl ?_)))))))
       obtain rfl := sj h
       refine Ae ((Dn 5 _ rfl).trans (sm [] [(4, iD v5.2), (5, oD (.ptr 5 0)), (6, oD (.ptr 6 0)), (7, iD 0)] [(5, .box [sC ((([] : List Int)).map Ao), sC ((([] : List Int)).map Ao), sC ((([] : List Int)).map B6)]), (6, .box [iC 0, iC 0, iC 0])] rfl rfl)) (Aq ?_)
       exact ⟨⟨[_, _, _, _], ⟨.tmp _ _ rfl, ⟨.cellN _ _ _ _ _ _ _ rfl rfl A7 AE rfl rfl (Fq rfl), ⟨.cellN _ _ _ _ _ _ _ rfl rfl HQ Dr rfl rfl (Fq rfl), tm⟩⟩⟩, rfl⟩, tv⟩
      ·refine Am (wp rfl (qL CI Cv rfl (qL A7 AE rfl (DA (AW 2007 _ _ rfl rfl) (DA (AW 2008 _ _ rfl rfl) (DA (AW 2009 _ _ rfl rfl) ?_))))))
       refine B9 h fun v13 a13 h => Av [] (Ja N p0 v9.1 v13 a13) Vc rfl (qm rfl (qx rfl (qx rfl (qx rfl (qz B4 rfl (qz Fp rfl (qs AE rfl (qs Dr rfl (qa rfl (Ad (wq rfl (qm rfl (Bv rfl (Ad ?_))))))))))))))
       refine Bh h (fun h => ?_) fun h => ?_
       ·refine wq rfl (qm rfl (qL A7 AE rfl (qL HQ Dr rfl (qa rfl (qs AE rfl (qs Dr rfl (qa rfl (AH (by kernel_rfl) ?_))))))))
        obtain rfl := sj h
        refine Ae (sm [] [(4, iD v5.2), (5, oD (.ptr 5 0)), (6, oD (.ptr 6 0)), (7, iD 0)] [(5, .box (Ay v13.1)), (6, .box (DT v13.2.1))] rfl rfl) (Aq ?_)
        exact ⟨⟨[_, _, _, _], ⟨.tmp _ _ rfl, ⟨.cellN _ _ _ _ _ _ _ rfl rfl A7 AE rfl rfl (Fq rfl), ⟨.cellN _ _ _ _ _ _ _ rfl rfl HQ Dr rfl rfl (Fq rfl), tm⟩⟩⟩, rfl⟩, tv⟩
       ·refine Am (Aj Az rfl (qL A7 AE rfl (qs AE rfl (Ad (Aj Az rfl (Bq rfl (qm rfl (Ad ?_))))))))
        exact sn [] h
    ·refine AY ?_
     exact sn [] h
   ·refine Ae hs (wp rfl (qL CI Cv rfl (qL A7 AE rfl ?_)))
    refine B9 h fun v15 a15 h => Av [] (LY N p0 v6 v15 a15) V4 rfl (Cd rfl (Ad ?_))
    refine Bh h (fun h => ?_) fun h => ?_
    ·refine wq rfl (qm rfl (AG Bk rfl (AR B4 E6 rfl (AR Fp Jz rfl (qa rfl (qs AE rfl (qs Dr rfl (qe rfl ?_))))))))
     obtain rfl := sj h
     refine Ae ((Dn 5 _ rfl).trans (sm [] [(4, iD ((p1.length : Int))), (5, oD (.ptr 5 0)), (6, oD (.ptr 6 0)), (7, iD 14)] [(5, .box [sC ((([] : List Int)).map Ao), sC ((([] : List Int)).map Ao), sC ((([] : List Int)).map B6)]), (6, .box [iC 0, iC 0, iC 0])] rfl rfl)) (Aq ?_)
     exact ⟨⟨[_, _, _, _], ⟨.tmp _ _ rfl, ⟨.cellN _ _ _ _ _ _ _ rfl rfl A7 AE rfl rfl (Fq rfl), ⟨.cellN _ _ _ _ _ _ _ rfl rfl HQ Dr rfl rfl (Fq rfl), tm⟩⟩⟩, rfl⟩, tv⟩
    ·refine Am (wq rfl (AR B4 E6 rfl (AR Fp Jz rfl (qa rfl (qs AE rfl (qs Dr rfl (qe rfl ?_)))))))
     obtain rfl := sj h
     refine Ae ((Dn 5 _ rfl).trans (sm [] [(4, iD 0), (5, oD (.ptr 5 0)), (6, oD (.ptr 6 0)), (7, iD 15)] [(5, .box [sC ((([] : List Int)).map Ao), sC ((([] : List Int)).map Ao), sC ((([] : List Int)).map B6)]), (6, .box [iC 0, iC 0, iC 0])] rfl rfl)) (Aq ?_)
     exact ⟨⟨[_, _, _, _], ⟨.tmp _ _ rfl, ⟨.cellN _ _ _ _ _ _ _ rfl rfl A7 AE rfl rfl (Fq rfl), ⟨.cellN _ _ _ _ _ _ _ rfl rfl HQ Dr rfl rfl (Fq rfl), tm⟩⟩⟩, rfl⟩, tv⟩
theorem NP (N : Nat) (p0 : Aa) (p1 : List Ac) (r : Bool) (h : FP N p0 p1 = some r) : As Tryz.prog 45 [.e (.agg (Ah p0)), pD (.sl (p1.map Ai))] [] (bD r) := by
 unfold FP at h
 refine cw (n := 19) (rs := [.tmp 4]) Tryz.func45 fun w0 S0 => ?_
 refine wq rfl (qb rfl (qa rfl (Ad (wq rfl (qL CI Cv rfl (qm rfl ?_))))))
 refine B9 h fun v1 a1 h => Av [] (LQ N p0 p1 v1 a1) WY rfl (qm rfl (qx rfl (qx rfl (qx rfl (qx rfl (qz B4 rfl (qz Fp rfl (qa rfl (qs AE rfl (qs Dr rfl (qa rfl (Ad (wq rfl (qm rfl (Bv rfl (qe rfl ?_))))))))))))))))
 obtain rfl := sj h
 refine Ae (sm [] [(4, bD ((v1.2.2.2 == 15)))] [] rfl rfl) (Aq ?_)
 exact ⟨⟨[_], tm, rfl⟩, tv⟩
theorem Is (N : Nat) (p0 : Aa) (p1 : Ab) (r : Bool × Int) (h : Eh N p0 p1 = some r) : As Tryz.prog 31 [.e (.agg (Ah p0)), .e (.agg (Ay p1))] [] (.tup [.one (.pure (.val (.bool r.1))), .one (iC r.2)]) := by
 unfold Eh at h
 refine cw (n := 22) (rs := [.tmp 4, .tmp 5]) Tryz.func31 fun w0 S0 => ?_
 refine wq rfl (qb rfl (qb rfl (qa rfl (qa rfl (Ad (wq rfl (qL CI Cv rfl (qL A7 AE rfl ?_))))))))
 refine B9 h fun v1 a1 h => Av [] (Ja N p0 p1 v1 a1) Vc rfl (qm rfl (qx rfl (qx rfl (qx rfl (qz B4 rfl (qz Fp rfl (qs AE rfl (qs Dr rfl (qa rfl (Ad (wq rfl (qm rfl (Ad (AO (wq rfl (Bv rfl (qe rfl ?_)))))))))))))))))
 refine Bh h (fun h => ?_) fun h => ?_
 ·refine wq rfl (qa rfl (qe rfl ?_))
  obtain rfl := sj h
  refine Ae (sm [] [(4, bD false), (5, iD 0)] [] rfl rfl) (Aq ?_)
  exact ⟨⟨[_, _], ⟨.tmp _ _ rfl, tm⟩, rfl⟩, tv⟩
 ·refine wq rfl (Bv rfl (qe rfl ?_))
  refine Bh h (fun h => ?_) fun h => ?_
  ·refine wq rfl (qa rfl (qe rfl ?_))
   obtain rfl := sj h
   refine Ae (sm [] [(4, bD true), (5, iD 0)] [] rfl rfl) (Aq ?_)
   exact ⟨⟨[_, _], ⟨.tmp _ _ rfl, tm⟩, rfl⟩, tv⟩
  ·refine wq rfl (qm rfl (qa rfl (qe rfl ?_)))
   obtain rfl := sj h
   refine Ae (sm [] [(4, bD false), (5, iD v1.2.2)] [] rfl rfl) (Aq ?_)
   exact ⟨⟨[_, _], ⟨.tmp _ _ rfl, tm⟩, rfl⟩, tv⟩
theorem Py (N : Nat) (p0 : Int) (r : ByteArray) (h : D8 N p0 = some r) : As Tryz.prog 80 [iD p0] [] (pD (.val (.string r))) := by
 unfold D8 at h
 refine cw (n := 7) (rs := [.tmp 2]) Tryz.func80 fun w0 S0 => ?_
 refine wq rfl (qa rfl (Ad (wq rfl (El Sp Xx XB rfl (qm rfl ?_)))))
 refine B3 h fun v1 a1 b1 h => Pv (.p rfl) rfl rfl rfl Sp Xx a1 (Ag (f := eS) b1) ?_
 refine Pd (.p rfl) rfl XA rfl (Ag (f := eS) b1) rfl ?_
 refine qa rfl (Ad ?_)
 obtain rfl := sj h
 refine Ae (sm [] [(2, pD (.val (.string v1)))] [] rfl rfl) (Aq ?_)
 exact ⟨⟨[_], tm, rfl⟩, tv⟩
def R8 : Go.Shelf.Ren := ⟨fun | 129 => 121 | 171 => 81 | 243 => 98 | 246 => 108 | 283 => 113 | 284 => 114 | 285 => 115 | 286 => 116 | 317 => 120 | 318 => 122 | 319 => 123 | 320 => 124 | 337 => 126 | 338 => 127 | n => n, fun | 0 => 0 | 2 => 2 | 3 => 3 | 4 => 4 | 5 => 5 | 9 => 9 | 20 => 20 | 37 => 22 | 46 => 126 | 51 => 137 | 53 => 140 | 171 => 150 | 173 => 153 | 212 => 158 | 213 => 159 | 232 => 163 | 233 => 164 | n => n, fun | 17 => 0 | 18 => 1 | 19 => 2 | n => n⟩
theorem U6 : LaysM.n171 Tryz.prog R8 := { mixed := Az, f129 := Tryz.func121.trans (congrArg some (by kernel_rfl)), f171 := Tryz.func81.trans (congrArg some (by kernel_rfl)), f243 := Tryz.func98.trans (congrArg some (by kernel_rfl)), f246 := Tryz.func108.trans (congrArg some (by kernel_rfl)), f283 := Tryz.func113.trans (congrArg some (by kernel_rfl)), f284 := Tryz.func114.trans (congrArg some (by kernel_rfl)), f285 := Tryz.func115.trans (congrArg some (by kernel_rfl)), f286 := Tryz.func116.trans (congrArg some (by kernel_rfl)), f317 := Tryz.func120.trans (congrArg some (by kernel_rfl)), f318 := Tryz.func122.trans (congrArg some (by kernel_rfl)), f319 := Tryz.func123.trans (congrArg some (by kernel_rfl)), f320 := Tryz.func124.trans (congrArg some (by kernel_rfl)), f337 := Tryz.func126.trans (congrArg some (by kernel_rfl)), f338 := Tryz.func127.trans (congrArg some (by kernel_rfl)), t0 := Tryz.underlying0, a0 := Tryz.isAgg0, z0 := Tryz.sizeOf0, v0 := Tryz.zeroValue0, t2 := Tryz.underlying2, a2 := Tryz.isAgg2, z2 := Tryz.sizeOf2, v2 := Tryz.zeroValue2, t3 := Tryz.underlying3, a3 := Tryz.isAgg3, z3 := Tryz.sizeOf3, v3 := Tryz.zeroValue3, t4 := Tryz.underlying4, a4 := Tryz.isAgg4, z4 := Tryz.sizeOf4, v4 := Tryz.zeroValue4, t5 := Tryz.underlying5, a5 := Tryz.isAgg5, z5 := Tryz.sizeOf5, v5 := Tryz.zeroValue5, t9 := Tryz.underlying9, a9 := Tryz.isAgg9, z9 := Tryz.sizeOf9, v9 := Tryz.zeroValue9, t20 := Tryz.underlying20, a20 := Tryz.isAgg20, z20 := Tryz.sizeOf20, v20 := Tryz.zeroValue20, t37 := Tryz.underlying22, a37 := Tryz.isAgg22, z37 := Tryz.sizeOf22, v37 := Tryz.zeroValue22, t46 := Tryz.underlying126, a46 := Tryz.isAgg126, z46 := Tryz.sizeOf126, v46 := Tryz.zeroValue126, t51 := Tryz.underlying137, a51 := Tryz.isAgg137, z51 := Tryz.sizeOf137, v51 := Tryz.zeroValue137, t53 := Tryz.underlying140, a53 := Tryz.isAgg140, z53 := Tryz.sizeOf140, v53 := Tryz.zeroValue140, t171 := Tryz.underlying150, a171 := Tryz.isAgg150, z171 := Tryz.sizeOf150, v171 := Tryz.zeroValue150, t173 := Tryz.underlying153, a173 := Tryz.isAgg153, z173 := Tryz.sizeOf153, v173 := Tryz.zeroValue153, t212 := Tryz.underlying158, a212 := Tryz.isAgg158, z212 := Tryz.sizeOf158, v212 := Tryz.zeroValue158, t213 := Tryz.underlying159, a213 := Tryz.isAgg159, z213 := Tryz.sizeOf159, t232 := Tryz.underlying163, a232 := Tryz.isAgg163, z232 := Tryz.sizeOf163, v232 := Tryz.zeroValue163, t233 := Tryz.underlying164, a233 := Tryz.isAgg164, z233 := Tryz.sizeOf164, v233 := Tryz.zeroValue164, g17 := by kernel_rfl, g18 := by kernel_rfl, g19 := by kernel_rfl, i0 := by kernel_rfl, i2 := by kernel_rfl, i3 := by kernel_rfl, i4 := by kernel_rfl, i5 := by kernel_rfl, i9 := by kernel_rfl, i20 := by kernel_rfl, i37 := by kernel_rfl, i46 := by kernel_rfl, i51 := by kernel_rfl, i53 := by kernel_rfl, i171 := by kernel_rfl, i173 := by kernel_rfl, i212 := by kernel_rfl, i232 := by kernel_rfl, i233 := by kernel_rfl, m17 := by kernel_rfl, m18 := by kernel_rfl, m19 := by kernel_rfl }
theorem Jd (N : Nat) (p0 : Int) (r : ByteArray) (h : FW N p0 = some r) : As Tryz.prog 81 [iD p0] [] (pD (.val (.string r))) := U2 U6 (g := R8.g 17) (by kernel_rfl) h
theorem M0 (N : Nat) (p0 : Ac) (r : ByteArray × Int) (h : Fd N p0 = some r) : As Tryz.prog 54 [.e (.agg (Ce p0))] [] (.tup [.one (.pure (.val (.string r.1))), .one (iC r.2)]) := by
 unfold Fd at h
 refine cw (n := 26) (rs := [.tmp 2, .tmp 3]) Tryz.func54 fun w0 S0 => ?_
 refine wq rfl (qb rfl (qa rfl (qa rfl (Ad (wp rfl (qL Gw Cr rfl ?_))))))
 refine B9 h fun v1 a1 h => Av [] (Kw N p0 v1 a1) VP rfl (Cd rfl (Ad ?_))
 refine Bh h (fun h => ?_) fun h => ?_
 ·refine wq rfl (qa rfl (qe rfl ?_))
  obtain rfl := sj h
  refine Ae (sm [] [(2, pD (.val (.string ((⟨#[]⟩ : ByteArray))))), (3, iD 1)] [] rfl rfl) (Aq ?_)
  exact ⟨⟨[_, _], ⟨.tmp _ _ rfl, tm⟩, rfl⟩, tv⟩
 ·refine Am (wq rfl (qf DK rfl (ql BV rfl ?_)))
  refine B9 h fun v3 a3 h => Av [] (Py N p0.ff v3 a3) Ww rfl ?_
  refine E1 h fun c4 h => Gp (.p rfl) rfl rfl (Kr _ _ _ _ c4) rfl ?_
  refine qf DR rfl (ql BV rfl ?_)
  refine B9 h fun v5 a5 h => Av [] (Jd N p0.fh v5 a5) V9 rfl ?_
  refine E1 h fun c6 h => Gp (.p rfl) rfl rfl (Kr _ _ _ _ c6) rfl ?_
  refine qa rfl (AH (by kernel_rfl) ?_)
  refine AM h (fun v7 => mk [(4, pD (.val (.string v7)))] []) (fun j7 h => ?_) (fun v7 h => ?_)
  ·refine wq rfl (qf DK rfl (ql BV rfl (Bv rfl (Ad ?_))))
   refine Bh h (fun h => ?_) fun h => ?_
   ·refine Aj Az rfl (qm rfl (qf Fs rfl (ql BV rfl ?_)))
    refine B9 h fun v9 a9 h => Av [] (Jd N p0.fj v9 a9) V9 rfl ?_
    refine E1 h fun c10 h => Gp (.p rfl) rfl rfl (Kr _ _ _ _ c10) rfl ?_
    refine E1 h fun c11 h => Gp (.p rfl) rfl rfl (Kr _ _ _ _ c11) rfl ?_
    refine qa rfl (Ad ?_)
    exact sn [] h
   ·refine Am ?_
    exact sn [] h
  ·refine wq rfl (qm rfl (qa rfl (qe rfl ?_)))
   obtain rfl := sj h
   refine Ae (sm [] [(2, pD (.val (.string v7))), (3, iD 0)] [] rfl rfl) (Aq ?_)
   exact ⟨⟨[_, _], ⟨.tmp _ _ rfl, tm⟩, rfl⟩, tv⟩
theorem Gl (N : Nat) (p0 : List Ac) (p1 : Ac) (r : Int) (h : BN N p0 p1 = some r) : As Tryz.prog 82 [pD (.sl (p0.map Ai)), .e (.agg (Ce p1))] [] (iD r) := by
 unfold BN at h
 refine cw (n := 19) (rs := [.tmp 4]) Tryz.func82 fun w0 S0 => ?_
 refine wq rfl (qb rfl (qa rfl (Ad (wp rfl (qm rfl (AG Bk rfl (qm rfl (Ad ?_))))))))
 refine AJ (L := AV N p0 p1) h (fun v1 => mk [(0, pD (.sl (p0.map Ai))), (3, oD (.ptr 3 0)), (7, iD ((p0.length : Int))), (8, iD v1)] [(3, .box (Ce p1))]) (fun v2 => mk [] []) (fun _ _ => rfl) (sm [] _ _ rfl rfl) (fun j1 n1 v1 h => ?_) (fun v2 s h hs => ?_)
 ·unfold AV at h
  refine wq rfl (A1 rfl (Ad (AP ?_)))
  refine Bh h (fun h => ?_) fun h => ?_
  ·refine Am (AP (AO (wq rfl (qm rfl (qa rfl (Ad (wq rfl (qL Gw Cr rfl (qw 2 rfl ?_)))))))))
   refine B3 h fun v4 a4 b4 h => qi Bk Cr a4 (Ag b4) rfl (qK Gw Cr rfl ?_)
   refine VC [.int .i64 p1.ff, .int .i64 p1.fh, .int .i64 p1.fj] [.int .i64 v4.ff, .int .i64 v4.fh, .int .i64 v4.fj] (.p rfl) rfl rfl Ut rfl ?_
   refine AH (by kernel_rfl) ?_
   refine Bh h (fun h => ?_) fun h => ?_
   ·refine wq rfl (qm rfl (qe rfl ?_))
    obtain rfl := sj h
    refine Ae (sm [] [(4, iD v1)] [] rfl rfl) (Aq ?_)
    exact ⟨⟨[_], tm, rfl⟩, tv⟩
   ·refine Am (Aj Az rfl (Bq rfl (qm rfl (Ad ?_))))
    exact sn [] h
  ·refine AY ?_
   exact sn [] h
 ·refine Ae hs (wq rfl (qe rfl ?_))
  obtain rfl := sj h
  refine Ae (sm [] [(4, iD ((-1)))] [] rfl rfl) (Aq ?_)
  exact ⟨⟨[_], tm, rfl⟩, tv⟩
theorem FO (N : Nat) (p0 : List Ac) (p1 : Ac) (r : Bool) (h : Bw N p0 p1 = some r) : As Tryz.prog 55 [pD (.sl (p0.map Ai)), .e (.agg (Ce p1))] [] (bD r) := by
 unfold Bw at h
 refine cw (n := 9) (rs := [.tmp 4]) Tryz.func55 fun w0 S0 => ?_
 refine wq rfl (qb rfl (qa rfl (Ad (wq rfl (qm rfl (qL Gw Cr rfl ?_))))))
 refine B9 h fun v1 a1 h => Av [] (Gl N p0 p1 v1 a1) Wv rfl (D1 rfl (qe rfl ?_))
 obtain rfl := sj h
 refine Ae (sm [] [(4, bD ((decide (0 ≤ v1))))] [] rfl rfl) (Aq ?_)
 exact ⟨⟨[_], tm, rfl⟩, tv⟩
theorem Ol (N : Nat) (p0 : List Ac) (r : Int) (h : FK N p0 = some r) : As Tryz.prog 32 [pD (.sl (p0.map Ai))] [] (iD r) := by
 unfold FK at h
 refine cw (n := 42) (rs := [.tmp 2]) Tryz.func32 fun w0 S0 => ?_
 refine wq rfl (qa rfl (Ad (AP ?_)))
 refine AM h (fun v1 => mk [(0, pD (.sl (p0.map Ai))), (14, bD v1)] []) (fun j1 h => ?_) (fun v1 h => ?_)
 ·refine Aj Az rfl (qm rfl (AG Bk rfl (A1 rfl (qm rfl ?_))))
  refine Dp 10 h rfl (fun h => ?_) fun h => ?_
  ·refine qw 3 rfl (qp rfl (Ad ?_))
   exact sn [] h
  ·refine qm rfl (AG Bk rfl (E0 rfl (qp rfl (Ad ?_))))
   exact sn [] h
 ·refine Bh h (fun h => ?_) fun h => ?_
  ·refine wq rfl (qe rfl ?_)
   obtain rfl := sj h
   refine Ae (sm [] [(2, iD 6)] [] rfl rfl) (Aq ?_)
   exact ⟨⟨[_], tm, rfl⟩, tv⟩
  ·refine Am (wp rfl (qm rfl (AG Bk rfl (qm rfl (Ad ?_)))))
   refine AJ (L := Du N p0) h (fun v4 => mk [(0, pD (.sl (p0.map Ai))), (15, pD (.sl (p0.map Ai))), (16, iD ((p0.length : Int))), (17, iD v4)] []) (fun v5 => mk [] []) (fun _ _ => rfl) (sm [] _ _ rfl rfl) (fun j4 n4 v4 h => ?_) (fun v5 s h hs => ?_)
   ·unfold Du at h
    refine wq rfl (A1 rfl (Ad (AP ?_)))
    refine Bh h (fun h => ?_) fun h => ?_
    ·refine Am (AP (AO (wq rfl (qm rfl ?_))))
     refine B3 h fun v7 a7 b7 h => qi Bk Cr a7 (Ag b7) rfl (qK Gw Cr rfl (qz Ix rfl (qa rfl (qs Cr rfl (Ad (wq rfl (qL Gw Cr rfl ?_)))))))
     refine B9 h fun v8 a8 h => Av [] (M0 N v7 v8 a8) WP rfl (qm rfl (qx rfl (qx rfl (qa rfl (qe rfl ?_)))))
     refine AM h (fun v9 => mk [(0, pD (.sl (p0.map Ai))), (15, pD (.sl (p0.map Ai))), (16, iD ((p0.length : Int))), (17, iD v4), (40, bD v9)] []) (fun j9 h => ?_) (fun v9 h => ?_)
     ·refine Aj Az rfl (qm rfl (By rfl (qm rfl ?_)))
      refine Dp 29 h rfl (fun h => ?_) fun h => ?_
      ·refine qw 3 rfl (qp rfl (qw 6 rfl (qp rfl (AH (by kernel_rfl) ?_))))
       exact sn [] h
      ·refine qf DK rfl (ql BV rfl (Bv rfl (qp rfl (qm rfl ?_))))
       refine Dp 34 h rfl (fun h => ?_) fun h => ?_
       ·refine qw 5 rfl (qp rfl (AH (by kernel_rfl) ?_))
        exact sn [] h
       ·refine qw 2 rfl ?_
        refine E1 h fun c12 h => H0 (.g rfl rfl) rfl Bk Cr (FI (f := Ai) (n := 3) (fun _ => rfl) _) (.none _) (.some _ _ _ _ c12.1) tv ⟨rfl, tv⟩ (by have := c12.2.1; (try simp only [List.length_map]); omega) (by have := c12.2.2; (try simp only [List.length_map]); omega) (GO Ai p0 _ _ ((v4).toNat - 0) rfl) ?_
        refine qL Gw Cr rfl ?_
        refine B9 h fun v13 a13 h => Av [] (FO N (((p0.drop 0).take ((v4).toNat - 0))) v7 v13 a13) Wz rfl (qp rfl (AH (by kernel_rfl) ?_))
        exact sn [] h
     ·refine Bh h (fun h => ?_) fun h => ?_
      ·refine wq rfl (qe rfl ?_)
       obtain rfl := sj h
       refine Ae (sm [] [(2, iD 1)] [] rfl rfl) (Aq ?_)
       exact ⟨⟨[_], tm, rfl⟩, tv⟩
      ·refine Am (Aj Az rfl (Bq rfl (qm rfl (Ad ?_))))
       exact sn [] h
    ·refine AY ?_
     exact sn [] h
   ·refine Ae hs (wq rfl (qe rfl ?_))
    obtain rfl := sj h
    refine Ae (sm [] [(2, iD 0)] [] rfl rfl) (Aq ?_)
    exact ⟨⟨[_], tm, rfl⟩, tv⟩
theorem FV (N : Nat) (p0 : Aa) (p1 : Ab) (p2 : List Ac) (r : Ab × Bool) (h : Cg N p0 p1 p2 = some r) : As Tryz.prog 33 [.e (.agg (Ah p0)), .e (.agg (Ay p1)), pD (.sl (p2.map Ai))] [] (.tup [.agg (Ay r.1), .one (.pure (.val (.bool r.2)))]) := by
 unfold Cg at h
 refine cw (n := 46) (rs := [.cell 6 38, .tmp 7]) Tryz.func33 fun w0 S0 => ?_
 refine wq rfl (qb rfl (qb rfl (qz B4 rfl (qa rfl (Ad (wp rfl (qm rfl (AG Bk rfl (qm rfl (Ad ?_))))))))))
 refine AJ (L := C7 N p0 p2) h (fun v1 => mk [(3, oD (.ptr 3 0)), (4, oD (.ptr 4 0)), (6, oD (.ptr 6 0)), (14, pD (.sl (p2.map Ai))), (15, iD ((p2.length : Int))), (16, iD v1.2.2.2)] [(3, .box (Ah p0)), (4, .box [sC (v1.1.map Ao), sC (v1.2.1.map Ao), sC (v1.2.2.1.map B6)]), (6, .box [.pure (.nil0), .pure (.nil0), .pure (.nil0)])]) (fun v2 => mk [(4, oD (.ptr 4 0)), (6, oD (.ptr 6 0))] [(4, .box (Ay v2)), (6, .box [.pure (.nil0), .pure (.nil0), .pure (.nil0)])]) (fun _ _ => rfl) (sm [] _ _ rfl rfl) (fun j1 n1 v1 h => ?_) (fun v2 s h hs => ?_)
 ·unfold C7 at h
  refine wq rfl (A1 rfl (Ad (AP ?_)))
  refine Bh h (fun h => ?_) fun h => ?_
  ·refine Am (AP (AO (wq rfl ?_)))
   refine B3 h fun v4 a4 b4 h => qi Bk Cr a4 (Ag b4) rfl (qK Gw Cr rfl (qz Ix rfl (qs Cr rfl (Ad (wq rfl (qL CI Cv rfl (qL A7 AE rfl (qL Gw Cr rfl ?_))))))))
   refine B9 h fun v5 a5 h => Av [2001, 2002, 2003] (Kh N p0 ((Ab.mk v1.1 v1.2.1 v1.2.2.1)) v4 v5 a5) VR rfl (qm rfl (qx rfl (qx rfl (qz B4 rfl (qs AE rfl (qa rfl (Ad (wp rfl (qm rfl (By rfl (Ad ?_)))))))))))
   refine Bh h (fun h => ?_) fun h => ?_
   ·refine wq rfl (AR B4 E6 rfl (qs AE rfl (qe rfl ?_)))
    obtain rfl := sj h
    refine Ae ((Dn 6 _ rfl).trans (sm [] [(6, oD (.ptr 6 0)), (7, bD false)] [(6, .box [sC ((([] : List Int)).map Ao), sC ((([] : List Int)).map Ao), sC ((([] : List Int)).map B6)])] rfl rfl)) (Aq ?_)
    exact ⟨⟨[_, _], ⟨.cellN _ _ _ _ _ _ _ rfl rfl A7 AE rfl rfl (Fq rfl), tm⟩, rfl⟩, tv⟩
   ·refine Am (wp rfl (qL CI Cv rfl (qL A7 AE rfl ?_)))
    refine B9 h fun v7 a7 h => Ip [] [2001, 2002, 2003] (Is N p0 v5.1 v7 a7) U4 GC rfl (qm rfl (qx rfl (qx rfl (qa rfl (qe rfl ?_)))))
    refine AM h (fun v8 => mk [(3, oD (.ptr 3 0)), (4, oD (.ptr 4 0)), (6, oD (.ptr 6 0)), (10, oD (.ptr 10 0)), (14, pD (.sl (p2.map Ai))), (15, iD ((p2.length : Int))), (16, iD v1.2.2.2), (41, bD v8)] [(3, .box (Ah p0)), (4, .box [sC (v1.1.map Ao), sC (v1.2.1.map Ao), sC (v1.2.2.1.map B6)]), (6, .box [.pure (.nil0), .pure (.nil0), .pure (.nil0)]), (10, .box [.own 2004, .own 2005, .own 2006]), (2004, .vec 1 (v5.1.fe.map Ao)), (2005, .vec 1 (v5.1.fa.map Ao)), (2006, .vec 1 (v5.1.fd.map B6))]) (fun j8 h => ?_) (fun v8 h => ?_)
    ·refine Aj Az rfl (qm rfl (By rfl (qm rfl ?_)))
     refine Dp 38 h rfl (fun h => ?_) fun h => ?_
     ·refine qw 2 rfl (qp rfl (Ad ?_))
      exact sn [(2004, 2001), (2005, 2002), (2006, 2003)] h
     ·refine qm rfl (Cd rfl (qp rfl (Ad ?_)))
      exact sn [(2004, 2001), (2005, 2002), (2006, 2003)] h
    ·refine Bh h (fun h => ?_) fun h => ?_
     ·refine wq rfl (AR B4 E6 rfl (qs AE rfl (qe rfl ?_)))
      obtain rfl := sj h
      refine Ae ((Dn 6 _ rfl).trans (sm [] [(6, oD (.ptr 6 0)), (7, bD false)] [(6, .box [sC ((([] : List Int)).map Ao), sC ((([] : List Int)).map Ao), sC ((([] : List Int)).map B6)])] rfl rfl)) (Aq ?_)
      exact ⟨⟨[_, _], ⟨.cellN _ _ _ _ _ _ _ rfl rfl A7 AE rfl rfl (Fq rfl), tm⟩, rfl⟩, tv⟩
     ·refine Am (Aj Az rfl (qL A7 AE rfl (qs AE rfl (Ad (Aj Az rfl (Bq rfl (qm rfl (Ad ?_))))))))
      exact R7 _ h ((AW 2004 _ _ rfl rfl).trans ((AW 2005 _ _ rfl rfl).trans ((AW 2006 _ _ rfl rfl).trans (sm [] _ _ rfl rfl))))
  ·refine AY ?_
   exact sn [] h
 ·refine Ae hs (wq rfl (qL A7 AE rfl (qs AE rfl (qe rfl ?_))))
  obtain rfl := sj h
  refine Ae (sm [] [(6, oD (.ptr 6 0)), (7, bD true)] [(6, .box (Ay v2))] rfl rfl) (Aq ?_)
  exact ⟨⟨[_, _], ⟨.cellN _ _ _ _ _ _ _ rfl rfl A7 AE rfl rfl (Fq rfl), tm⟩, rfl⟩, tv⟩
theorem Cj (N : Nat) (p0 : List Ac) (r : (List Ac)) (h : AT N p0 = some r) : As Tryz.prog 34 [pD (.sl (p0.map Ai))] [(3, r.map Ai)] (oD (.own 0)) := by
 unfold AT at h
 refine cw (n := 8) (rs := [.tmp 2]) Tryz.func34 fun w0 S0 => ?_
 refine wq rfl (qa rfl (Ad (wp rfl (qm rfl ?_))))
 refine N4 (.p rfl) rfl Bk ?_
 refine Ad ?_
 refine OA rfl (fun c2 => ?_) ?_
 ·have c2 := List.map_eq_nil_iff.1 c2
  rw [c2] at h
  have h : (some (([] : List Ac))) = some r := h
  refine wq rfl (qe rfl ?_)
  obtain rfl := sj h
  refine Ae ((Ca 2 2001 3 rfl rfl rfl).trans (sm [(1000, 2001)] [(2, oD (.own 1000))] [(1000, .vec 3 ((([] : List Ac)).map Ai))] rfl rfl)) (Aq ?_)
  exact ⟨⟨[_], tm, rfl⟩, ⟨rfl, tv⟩⟩
 ·refine Am (wq rfl (El Bk Cr Ix rfl (qm rfl ?_)))
  refine E1 h fun c1 h => H8 (f := Ai) Bk Bk Cr Qn Ix (fun _ => rfl) c1 rfl (qe rfl ?_)
  obtain rfl := sj h
  refine Ae (sm [(1000, 7)] [(2, oD (.own 1000))] [(1000, .vec 3 (((([] : List Ac)) ++ p0).map Ai))] rfl rfl) (Aq ?_)
  exact ⟨⟨[_], tm, rfl⟩, ⟨rfl, tv⟩⟩
theorem IP (N : Nat) (p0 : Int) (r : Bool) (h : Ev N p0 = some r) : As Tryz.prog 101 [iD p0] [] (bD r) := by
 unfold Ev at h
 refine cw (n := 6) (rs := [.tmp 2]) Tryz.func101 fun w0 S0 => ?_
 refine wq rfl (qa rfl (Ad (wq rfl (qw 2 rfl (By rfl (qe rfl ?_))))))
 obtain rfl := sj h
 refine Ae (sm [] [(2, bD ((p0 != p0)))] [] rfl rfl) (Aq ?_)
 exact ⟨⟨[_], tm, rfl⟩, tv⟩
theorem Kl (N : Nat) (p0 : Int) (p1 : Int) (r : Int) (h : D2 N p0 p1 = some r) : As Tryz.prog 84 [iD p0, iD p1] [] (iD r) := by
 unfold D2 at h
 refine cw (n := 20) (rs := [.tmp 4]) Tryz.func84 fun w0 S0 => ?_
 refine wq rfl (qa rfl (Ad (wq rfl (qm rfl ?_))))
 refine B9 h fun v1 a1 h => Av [] (IP N p0 v1 a1) T8 rfl (qa rfl (Ad (wq rfl (qm rfl ?_))))
 refine B9 h fun v2 a2 h => Av [] (IP N p1 v2 a2) T8 rfl (qa rfl (Ad (wp rfl (qm rfl (Ad ?_)))))
 refine Bh h (fun h => ?_) fun h => ?_
 ·refine wp rfl (qm rfl (Ad ?_))
  refine Bh h (fun h => ?_) fun h => ?_
  ·refine wq rfl (qe rfl ?_)
   obtain rfl := sj h
   refine Ae (sm [] [(4, iD 0)] [] rfl rfl) (Aq ?_)
   exact ⟨⟨[_], tm, rfl⟩, tv⟩
  ·refine Am (wq rfl (qe rfl ?_))
   obtain rfl := sj h
   refine Ae (sm [] [(4, iD ((-1)))] [] rfl rfl) (Aq ?_)
   exact ⟨⟨[_], tm, rfl⟩, tv⟩
 ·refine Am (wp rfl (qm rfl (Ad ?_)))
  refine Bh h (fun h => ?_) fun h => ?_
  ·refine wq rfl (qe rfl ?_)
   obtain rfl := sj h
   refine Ae (sm [] [(4, iD 1)] [] rfl rfl) (Aq ?_)
   exact ⟨⟨[_], tm, rfl⟩, tv⟩
  ·refine Am (wp rfl (qw 2 rfl (A1 rfl (Ad ?_))))
   refine Bh h (fun h => ?_) fun h => ?_
   ·refine wq rfl (qe rfl ?_)
    obtain rfl := sj h
    refine Ae (sm [] [(4, iD ((-1)))] [] rfl rfl) (Aq ?_)
    exact ⟨⟨[_], tm, rfl⟩, tv⟩
   ·refine Am (wp rfl (qw 2 rfl (E0 rfl (Ad ?_))))
    refine Bh h (fun h => ?_) fun h => ?_
    ·refine wq rfl (qe rfl ?_)
     obtain rfl := sj h
     refine Ae (sm [] [(4, iD 1)] [] rfl rfl) (Aq ?_)
     exact ⟨⟨[_], tm, rfl⟩, tv⟩
    ·refine Am (wq rfl (qe rfl ?_))
     obtain rfl := sj h
     refine Ae (sm [] [(4, iD 0)] [] rfl rfl) (Aq ?_)
     exact ⟨⟨[_], tm, rfl⟩, tv⟩
theorem FL (N : Nat) (p0 : List Int) (p1 : List Int) (r : Int) (h : B8 N p0 p1 = some r) : As Tryz.prog 59 [pD (.sl (p0.map Ao)), pD (.sl (p1.map Ao))] [] (iD r) := by
 unfold B8 at h
 refine cw (n := 36) (rs := [.tmp 4]) Tryz.func59 fun w0 S0 => ?_
 refine wq rfl (qa rfl (Ad (wp rfl (qm rfl (AG Ax rfl (qm rfl (Ad ?_)))))))
 refine AJ (L := BQ N p0 p1) h (fun v1 => mk [(0, pD (.sl (p0.map Ao))), (1, pD (.sl (p1.map Ao))), (9, pD (.sl (p0.map Ao))), (10, iD ((p0.length : Int))), (11, iD v1)] []) (fun v2 => mk [(0, pD (.sl (p0.map Ao))), (1, pD (.sl (p1.map Ao)))] []) (fun _ _ => rfl) (sm [] _ _ rfl rfl) (fun j1 n1 v1 h => ?_) (fun v2 s h hs => ?_)
 ·unfold BQ at h
  refine wq rfl (A1 rfl (Ad (AP ?_)))
  refine Bh h (fun h => ?_) fun h => ?_
  ·refine Am (AP (AO (wq rfl (qm rfl ?_))))
   refine B3 h fun v4 a4 b4 h => qi Ax CT a4 (Ag b4) rfl (qk BV rfl (qa rfl (qa rfl (Ad (wp rfl (qw 2 rfl (AG Ax rfl (D1 rfl (Ad ?_)))))))))
   refine Bh h (fun h => ?_) fun h => ?_
   ·refine wq rfl (qe rfl ?_)
    obtain rfl := sj h
    refine Ae (sm [] [(4, iD 1)] [] rfl rfl) (Aq ?_)
    exact ⟨⟨[_], tm, rfl⟩, tv⟩
   ·refine Am (wq rfl (qw 2 rfl ?_))
    refine B3 h fun v6 a6 b6 h => qi Ax CT a6 (Ag b6) rfl (qk BV rfl (qa rfl (Ad (wq rfl (qw 2 rfl ?_)))))
    refine B9 h fun v7 a7 h => Av [] (Kl N v4 v6 v7 a7) W3 rfl (qa rfl (Ad (wq rfl (qm rfl (By rfl (Ad ?_))))))
    refine Bh h (fun h => ?_) fun h => ?_
    ·refine wq rfl (qm rfl (qe rfl ?_))
     obtain rfl := sj h
     refine Ae (sm [] [(4, iD v7)] [] rfl rfl) (Aq ?_)
     exact ⟨⟨[_], tm, rfl⟩, tv⟩
    ·refine Am (Aj Az rfl (Bq rfl (qm rfl (Ad ?_))))
     exact sn [] h
  ·refine AY ?_
   exact sn [] h
 ·refine Ae hs (wp rfl (qm rfl (AG Ax rfl (qm rfl (AG Ax rfl (A1 rfl (Ad ?_)))))))
  refine Bh h (fun h => ?_) fun h => ?_
  ·refine wq rfl (qe rfl ?_)
   obtain rfl := sj h
   refine Ae (sm [] [(4, iD ((-1)))] [] rfl rfl) (Aq ?_)
   exact ⟨⟨[_], tm, rfl⟩, tv⟩
  ·refine Am (wq rfl (qe rfl ?_))
   obtain rfl := sj h
   refine Ae (sm [] [(4, iD 0)] [] rfl rfl) (Aq ?_)
   exact ⟨⟨[_], tm, rfl⟩, tv⟩
theorem G4 (N : Nat) (p0 : Int) (r : Bool) (h : DE N p0 = some r) : As Tryz.prog 102 [pD (.val (.int .u8 p0))] [] (bD r) := by
 unfold DE at h
 refine cw (n := 6) (rs := [.tmp 2]) Tryz.func102 fun w0 S0 => ?_
 refine wq rfl (qa rfl (Ad (wq rfl (qw 2 rfl (By rfl (qe rfl ?_))))))
 obtain rfl := sj h
 refine Ae (sm [] [(2, bD ((p0 != p0)))] [] rfl rfl) (Aq ?_)
 exact ⟨⟨[_], tm, rfl⟩, tv⟩
theorem IV (N : Nat) (p0 : Int) (p1 : Int) (r : Int) (h : C4 N p0 p1 = some r) : As Tryz.prog 85 [pD (.val (.int .u8 p0)), pD (.val (.int .u8 p1))] [] (iD r) := by
 unfold C4 at h
 refine cw (n := 20) (rs := [.tmp 4]) Tryz.func85 fun w0 S0 => ?_
 refine wq rfl (qa rfl (Ad (wq rfl (qm rfl ?_))))
 refine B9 h fun v1 a1 h => Av [] (G4 N p0 v1 a1) Us rfl (qa rfl (Ad (wq rfl (qm rfl ?_))))
 refine B9 h fun v2 a2 h => Av [] (G4 N p1 v2 a2) Us rfl (qa rfl (Ad (wp rfl (qm rfl (Ad ?_)))))
 refine Bh h (fun h => ?_) fun h => ?_
 ·refine wp rfl (qm rfl (Ad ?_))
  refine Bh h (fun h => ?_) fun h => ?_
  ·refine wq rfl (qe rfl ?_)
   obtain rfl := sj h
   refine Ae (sm [] [(4, iD 0)] [] rfl rfl) (Aq ?_)
   exact ⟨⟨[_], tm, rfl⟩, tv⟩
  ·refine Am (wq rfl (qe rfl ?_))
   obtain rfl := sj h
   refine Ae (sm [] [(4, iD ((-1)))] [] rfl rfl) (Aq ?_)
   exact ⟨⟨[_], tm, rfl⟩, tv⟩
 ·refine Am (wp rfl (qm rfl (Ad ?_)))
  refine Bh h (fun h => ?_) fun h => ?_
  ·refine wq rfl (qe rfl ?_)
   obtain rfl := sj h
   refine Ae (sm [] [(4, iD 1)] [] rfl rfl) (Aq ?_)
   exact ⟨⟨[_], tm, rfl⟩, tv⟩
  ·refine Am (wp rfl (qw 2 rfl (A1 rfl (Ad ?_))))
   refine Bh h (fun h => ?_) fun h => ?_
   ·refine wq rfl (qe rfl ?_)
    obtain rfl := sj h
    refine Ae (sm [] [(4, iD ((-1)))] [] rfl rfl) (Aq ?_)
    exact ⟨⟨[_], tm, rfl⟩, tv⟩
   ·refine Am (wp rfl (qw 2 rfl (E0 rfl (Ad ?_))))
    refine Bh h (fun h => ?_) fun h => ?_
    ·refine wq rfl (qe rfl ?_)
     obtain rfl := sj h
     refine Ae (sm [] [(4, iD 1)] [] rfl rfl) (Aq ?_)
     exact ⟨⟨[_], tm, rfl⟩, tv⟩
    ·refine Am (wq rfl (qe rfl ?_))
     obtain rfl := sj h
     refine Ae (sm [] [(4, iD 0)] [] rfl rfl) (Aq ?_)
     exact ⟨⟨[_], tm, rfl⟩, tv⟩
theorem Ga (N : Nat) (p0 : List Int) (p1 : List Int) (r : Int) (h : BM N p0 p1 = some r) : As Tryz.prog 60 [pD (.sl (p0.map B6)), pD (.sl (p1.map B6))] [] (iD r) := by
 unfold BM at h
 refine cw (n := 36) (rs := [.tmp 4]) Tryz.func60 fun w0 S0 => ?_
 refine wq rfl (qa rfl (Ad (wp rfl (qm rfl (AG CK rfl (qm rfl (Ad ?_)))))))
 refine AJ (L := Bc N p0 p1) h (fun v1 => mk [(0, pD (.sl (p0.map B6))), (1, pD (.sl (p1.map B6))), (9, pD (.sl (p0.map B6))), (10, iD ((p0.length : Int))), (11, iD v1)] []) (fun v2 => mk [(0, pD (.sl (p0.map B6))), (1, pD (.sl (p1.map B6)))] []) (fun _ _ => rfl) (sm [] _ _ rfl rfl) (fun j1 n1 v1 h => ?_) (fun v2 s h hs => ?_)
 ·unfold Bc at h
  refine wq rfl (A1 rfl (Ad (AP ?_)))
  refine Bh h (fun h => ?_) fun h => ?_
  ·refine Am (AP (AO (wq rfl (qm rfl ?_))))
   refine B3 h fun v4 a4 b4 h => qi CK E5 a4 (Ag b4) rfl (qk I2 rfl (qa rfl (qa rfl (Ad (wp rfl (qw 2 rfl (AG CK rfl (D1 rfl (Ad ?_)))))))))
   refine Bh h (fun h => ?_) fun h => ?_
   ·refine wq rfl (qe rfl ?_)
    obtain rfl := sj h
    refine Ae (sm [] [(4, iD 1)] [] rfl rfl) (Aq ?_)
    exact ⟨⟨[_], tm, rfl⟩, tv⟩
   ·refine Am (wq rfl (qw 2 rfl ?_))
    refine B3 h fun v6 a6 b6 h => qi CK E5 a6 (Ag b6) rfl (qk I2 rfl (qa rfl (Ad (wq rfl (qw 2 rfl ?_)))))
    refine B9 h fun v7 a7 h => Av [] (IV N v4 v6 v7 a7) W5 rfl (qa rfl (Ad (wq rfl (qm rfl (By rfl (Ad ?_))))))
    refine Bh h (fun h => ?_) fun h => ?_
    ·refine wq rfl (qm rfl (qe rfl ?_))
     obtain rfl := sj h
     refine Ae (sm [] [(4, iD v7)] [] rfl rfl) (Aq ?_)
     exact ⟨⟨[_], tm, rfl⟩, tv⟩
    ·refine Am (Aj Az rfl (Bq rfl (qm rfl (Ad ?_))))
     exact sn [] h
  ·refine AY ?_
   exact sn [] h
 ·refine Ae hs (wp rfl (qm rfl (AG CK rfl (qm rfl (AG CK rfl (A1 rfl (Ad ?_)))))))
  refine Bh h (fun h => ?_) fun h => ?_
  ·refine wq rfl (qe rfl ?_)
   obtain rfl := sj h
   refine Ae (sm [] [(4, iD ((-1)))] [] rfl rfl) (Aq ?_)
   exact ⟨⟨[_], tm, rfl⟩, tv⟩
  ·refine Am (wq rfl (qe rfl ?_))
   obtain rfl := sj h
   refine Ae (sm [] [(4, iD 0)] [] rfl rfl) (Aq ?_)
   exact ⟨⟨[_], tm, rfl⟩, tv⟩
theorem Og (N : Nat) (p0 : List Int) (r : Int) (h : FE N p0 = some r) : As Tryz.prog 58 [pD (.sl (p0.map Ao))] [] (iD r) := by
 unfold FE at h
 refine cw (n := 18) (rs := [.tmp 2]) Tryz.func58 fun w0 S0 => ?_
 refine wq rfl (qa rfl (Ad (wq rfl (qa rfl (Ad (wp rfl (qm rfl (AG Ax rfl (qm rfl (Ad ?_))))))))))
 refine AJ (L := DX N p0) h (fun v1 => mk [(3, iD 0), (6, pD (.sl (p0.map Ao))), (7, iD ((p0.length : Int))), (8, iD v1)] []) (fun v2 => mk [(3, iD 0)] []) (fun _ _ => rfl) (sm [] _ _ rfl rfl) (fun j1 n1 v1 h => ?_) (fun v2 s h hs => ?_)
 ·unfold DX at h
  refine wq rfl (A1 rfl (Ad (AP ?_)))
  refine Bh h (fun h => ?_) fun h => ?_
  ·refine Am (AP (AO (wq rfl ?_)))
   refine B3 h fun v4 a4 b4 h => qi Ax CT a4 (Ag b4) rfl (qk BV rfl (qa rfl (Ad (wq rfl (qw 2 rfl (By rfl (Ad ?_)))))))
   refine Bh h (fun h => ?_) fun h => ?_
   ·refine wq rfl (qm rfl (qe rfl ?_))
    obtain rfl := sj h
    refine Ae (sm [] [(2, iD v4)] [] rfl rfl) (Aq ?_)
    exact ⟨⟨[_], tm, rfl⟩, tv⟩
   ·refine Am (Aj Az rfl (Bq rfl (qm rfl (Ad ?_))))
    exact sn [] h
  ·refine AY ?_
   exact sn [] h
 ·refine Ae hs (wq rfl (qm rfl (qe rfl ?_)))
  obtain rfl := sj h
  refine Ae (sm [] [(2, iD 0)] [] rfl rfl) (Aq ?_)
  exact ⟨⟨[_], tm, rfl⟩, tv⟩
theorem MS (N : Nat) (p0 : Ab) (p1 : Ab) (r : Int) (h : Ew N p0 p1 = some r) : As Tryz.prog 37 [.e (.agg (Ay p0)), .e (.agg (Ay p1))] [] (iD r) := by
 unfold Ew at h
 refine cw (n := 22) (rs := [.tmp 4]) Tryz.func37 fun w0 S0 => ?_
 refine wq rfl (qb rfl (qb rfl (qa rfl (Ad (wq rfl (qf Cs rfl (ql A0 rfl (qf Cs rfl (ql A0 rfl ?_)))))))))
 refine B9 h fun v1 a1 h => Av [] (FL N p0.fe p1.fe v1 a1) VX rfl (qf Bo rfl (ql A0 rfl (qf Bo rfl (ql A0 rfl ?_))))
 refine B9 h fun v2 a2 h => Av [] (FL N p0.fa p1.fa v2 a2) VX rfl (qf Ck rfl (ql Gv rfl (qf Ck rfl (ql Gv rfl ?_))))
 refine B9 h fun v3 a3 h => Av [] (Ga N p0.fd p1.fd v3 a3) Xs rfl (El Ax CT KG rfl ?_)
 refine B9 h fun v4 a4 h => Ip [] [20] (Og N (([v1, v2, v3] : List Int)) v4 a4) WX GC rfl (qa rfl (AH (by kernel_rfl) ?_))
 obtain rfl := sj h
 refine Ae (sm [] [(4, iD v4)] [] rfl rfl) (Aq ?_)
 exact ⟨⟨[_], tm, rfl⟩, tv⟩
theorem MI (N : Nat) (p0 : List Ac) (p1 : List Int) (p2 : List Int) (p3 : List Int) (p4 : List Ar) (p5 : List Int) (p6 : List Int) (p7 : List Int) (p8 : List Int) (p9 : List Int) (p10 : List Int) (p11 : Option (List Ac)) (r : Bool × (Option (List Ac))) (h : Ff N p0 p1 p2 p3 p4 p5 p6 p7 p8 p9 p10 p11 = some r) : C8 Tryz.prog 36 [pD (.sl (p0.map Ai)), oD (.rop [.sl (p1.map Ao), .sl (p2.map Ao), .sl (p3.map Ao), .sl (p4.map AQ)]), oD (.rop [.sl (p5.map Ao), .sl (p6.map Ao), .sl (p7.map B6)]), oD (.rop [.sl (p8.map Ao), .sl (p9.map Ao), .sl (p10.map B6)]), oD (.ptr 90000 0)] [(.box [.pure (KY Ai p11)], .box [.pure (KY Ai r.2)])] [] (bD r.1) := by
 unfold Ff at h
 refine Fh (n := 25) (rs := [.tmp 6]) Tryz.func36 rfl rfl rfl (Iq rfl) (Iq rfl) rfl rfl (Iq rfl) rfl (Iq rfl) fun w0 S0 GL => ?_
 refine Ae (sm [] [(0, pD (.sl (p0.map Ai))), (1, oD (.rop [.sl (p1.map Ao), .sl (p2.map Ao), .sl (p3.map Ao), .sl (p4.map AQ)])), (2, oD (.rop [.sl (p5.map Ao), .sl (p6.map Ao), .sl (p7.map B6)])), (3, oD (.rop [.sl (p8.map Ao), .sl (p9.map Ao), .sl (p10.map B6)])), (4, oD (.ptr 90000 0))] [(90000, .box [.pure (KY Ai p11)])] rfl rfl) (wq rfl (qa rfl (Ad (wp rfl (qK CI Cv rfl (qK A7 AE rfl (qm rfl ?_)))))))
 refine B9 h fun v1 a1 h => Av [] (FV N ((Aa.mk p1 p2 p3 p4)) ((Ab.mk p5 p6 p7)) p0 v1 a1) TT rfl (qm rfl (qx rfl (qx rfl (qz B4 rfl (qs AE rfl (qe rfl ?_))))))
 refine AM h (fun v2 => mk [(0, pD (.sl (p0.map Ai))), (4, oD (.ptr 90000 0)), (23, bD v2)] [(90000, .box [.pure (KY Ai p11)])]) (fun j2 h => ?_) (fun v2 h => ?_)
 ·refine Aj Az rfl (qm rfl (Cd rfl (qm rfl ?_)))
  refine Dp 18 h rfl (fun h => ?_) fun h => ?_
  ·refine qw 4 rfl (qp rfl (Ad ?_))
   exact sn [] h
  ·refine qL A7 AE rfl (qK A7 AE rfl ?_)
   refine B9 h fun v4 a4 h => Av [] (MS N v1.1 ((Ab.mk p8 p9 p10)) v4 a4) Xq rfl (By rfl (qp rfl (Ad ?_)))
   exact sn [] h
 ·refine Bh h (fun h => ?_) fun h => ?_
  ·refine wq rfl (qm rfl (qs NS rfl (Ad (wq rfl (qe rfl ?_)))))
   obtain rfl := sj h
   refine Ae (sm [] [(6, bD false)] [(90000, .box [.pure (KY Ai ((some p0)))])] rfl rfl) (Aq ?_)
   exact ⟨⟨[_], tm, rfl⟩, ⟨rfl, tv⟩, tv⟩
  ·refine Am (wq rfl (qe rfl ?_))
   obtain rfl := sj h
   refine Ae (sm [] [(6, bD true)] [(90000, .box [.pure (KY Ai p11)])] rfl rfl) (Aq ?_)
   exact ⟨⟨[_], tm, rfl⟩, ⟨rfl, tv⟩, tv⟩
theorem F7 (N : Nat) (p0 : List Ac) (p1 : Int) (p2 : Int) (r : Nat × (List Ac)) (h : BI N p0 p1 p2 = some r) : C8 Tryz.prog 57 [oD (.own 90000), iD p1, iD p2] [(.vec 3 (p0.map Ai), .vec 3 (r.2.map Ai))] [] (oD (.view 90000 3 0 r.1)) := by
 unfold BI at h
 refine Fh (n := 33) (rs := [.tmp 6]) Tryz.func57 rfl rfl rfl (Iq rfl) (Iq rfl) rfl rfl (Iq rfl) rfl (Iq rfl) fun w0 S0 GL => ?_
 refine Ae (sm [] [(0, oD (.own 90000)), (1, iD p1), (2, iD p2)] [(90000, .vec 3 (p0.map Ai))] rfl rfl) (wq rfl (qa rfl (Ad (wq rfl (qw 4 rfl (E9 Bk rfl ?_))))))
 refine E1 h fun c1 h => R4 (.p rfl) rfl rfl Bk Cr rfl rfl rfl c1.1 c1.2.1 c1.2.2.1 c1.2.2.2.1 c1.2.2.2.2.1 (by rw [List.length_map]; exact c1.2.2.2.2.2) ?_
 refine Ad (wp rfl (qw 2 rfl (Bv rfl (Ad ?_))))
 refine Bh h (fun h => ?_) fun h => ?_
 ·refine wq rfl (qm rfl (qe rfl ?_))
  obtain rfl := sj h
  refine Ae ((Tn Ai p0 6 90000 3 rfl rfl).trans (sm [] [(6, oD (.view 90000 3 0 p0.length))] [(90000, .vec 3 (p0.map Ai))] rfl rfl)) (Aq ?_)
  exact ⟨⟨[_], tm, rfl⟩, ⟨rfl, tv⟩, tv⟩
 ·refine Am (wq rfl (qm rfl (E9 Bk rfl (qa rfl (Ad (wq rfl (qw 2 rfl ?_)))))))
  obtain ⟨c3, h⟩ := EQ h
  have w4 : 0 + ((p1).toNat) ≤ p0.length := by have := c3.2.1; have := c3.2.2; omega
  refine Hy Ai p0 (.p rfl) rfl (Hl Ai _ _ p0) rfl Bk Cr (.none _) (.some _ _ _ _ c3.1) tv ⟨rfl, tv⟩ c3.2.1 (by rw [Nat.zero_add]; exact c3.2.2) (Nat.zero_add _) rfl ?_
  refine qw 2 rfl ?_
  obtain ⟨c5, h⟩ := EQ h
  have w6 : ((p2).toNat) + ((p0.length - (p2).toNat)) ≤ p0.length := by have := c5.2.1; have := c5.2.2; omega
  refine Hy Ai p0 (.p rfl) rfl (Hl Ai _ _ p0) rfl Bk Cr (.some _ _ _ _ c5.1) (.none _) ⟨rfl, tv⟩ tv c5.2.1 (by rw [Nat.zero_add]; exact c5.2.2) (Nat.zero_add _) rfl ?_
  obtain ⟨c7, h⟩ := EQ h
  have w9f : 0 + ((p1).toNat) + (((p0.drop ((p2).toNat)).take ((p0.length - (p2).toNat)))).length ≤ p0.length := by have := c7; omega
  have w8 : (Gq p0 (0 + ((p1).toNat)) (((p0.drop ((p2).toNat)).take ((p0.length - (p2).toNat))))).length = p0.length := FY w9f
  have w9 : 0 + ((p1).toNat + (((p0.drop ((p2).toNat)).take ((p0.length - (p2).toNat)))).length) ≤ (Gq p0 (0 + ((p1).toNat)) (((p0.drop ((p2).toNat)).take ((p0.length - (p2).toNat))))).length := by rw [w8]; have := c7; omega
  refine Mw Ai p0 (((p0.drop ((p2).toNat)).take ((p0.length - (p2).toNat)))) (.p rfl) rfl (Ij Ai _ _ 0 ((p1).toNat) p0 w4) rfl rfl (K3 Ai _ _ ((p2).toNat) ((p0.length - (p2).toNat)) p0 w6) ⟨rfl, tv⟩ Bk Bk Cr w9f rfl ?_
  refine qa rfl (AH (by kernel_rfl) (wq rfl (qw 2 rfl ?_)))
  refine SV (.p rfl) rfl Bk ?_
  refine qm rfl ?_
  obtain ⟨c10, h⟩ := EQ h
  have w11 : (((((((p1).toNat + (((p0.drop ((p2).toNat)).take ((p0.length - (p2).toNat)))).length)) : Nat) : Int)).toNat) + ((((p0.length : Int)).toNat - ((((((p1).toNat + (((p0.drop ((p2).toNat)).take ((p0.length - (p2).toNat)))).length)) : Nat) : Int)).toNat)) ≤ (Gq p0 (0 + ((p1).toNat)) (((p0.drop ((p2).toNat)).take ((p0.length - (p2).toNat))))).length := by have := c10.2.2.1; have := c10.2.2.2; omega
  refine Hy Ai (Gq p0 (0 + ((p1).toNat)) (((p0.drop ((p2).toNat)).take ((p0.length - (p2).toNat))))) (.p rfl) rfl (Ij Ai _ _ 0 (((p1).toNat + (((p0.drop ((p2).toNat)).take ((p0.length - (p2).toNat)))).length)) (Gq p0 (0 + ((p1).toNat)) (((p0.drop ((p2).toNat)).take ((p0.length - (p2).toNat))))) w9) rfl Bk Cr (.some _ _ _ _ c10.1) (.some _ _ _ _ c10.2.1) ⟨rfl, tv⟩ ⟨rfl, tv⟩ c10.2.2.1 (by rw [Nat.zero_add]; exact c10.2.2.2) (Nat.zero_add _) rfl ?_
  have w12 : (Gq (Gq p0 (0 + ((p1).toNat)) (((p0.drop ((p2).toNat)).take ((p0.length - (p2).toNat))))) (((((((p1).toNat + (((p0.drop ((p2).toNat)).take ((p0.length - (p2).toNat)))).length)) : Nat) : Int)).toNat) (List.replicate ((((p0.length : Int)).toNat - ((((((p1).toNat + (((p0.drop ((p2).toNat)).take ((p0.length - (p2).toNat)))).length)) : Nat) : Int)).toNat)) ((Ac.mk 0 0 0)))).length = (Gq p0 (0 + ((p1).toNat)) (((p0.drop ((p2).toNat)).take ((p0.length - (p2).toNat))))).length := FY (by rw [List.length_replicate]; exact w11)
  refine RP Ai (Gq p0 (0 + ((p1).toNat)) (((p0.drop ((p2).toNat)).take ((p0.length - (p2).toNat))))) ((Ac.mk 0 0 0)) rfl rfl (Ij Ai _ _ (((((((p1).toNat + (((p0.drop ((p2).toNat)).take ((p0.length - (p2).toNat)))).length)) : Nat) : Int)).toNat) ((((p0.length : Int)).toNat - ((((((p1).toNat + (((p0.drop ((p2).toNat)).take ((p0.length - (p2).toNat)))).length)) : Nat) : Int)).toNat)) (Gq p0 (0 + ((p1).toNat)) (((p0.drop ((p2).toNat)).take ((p0.length - (p2).toNat))))) w11) rfl Bk Ix rfl rfl rfl rfl ?_
  refine Ad (wq rfl (qm rfl (qe rfl ?_)))
  obtain rfl := sj h
  refine Ae (sm [] [(6, oD (.view 90000 3 0 (((p1).toNat + (((p0.drop ((p2).toNat)).take ((p0.length - (p2).toNat)))).length))))] [(90000, .vec 3 ((Gq (Gq p0 (0 + ((p1).toNat)) (((p0.drop ((p2).toNat)).take ((p0.length - (p2).toNat))))) (((((((p1).toNat + (((p0.drop ((p2).toNat)).take ((p0.length - (p2).toNat)))).length)) : Nat) : Int)).toNat) (List.replicate ((((p0.length : Int)).toNat - ((((((p1).toNat + (((p0.drop ((p2).toNat)).take ((p0.length - (p2).toNat)))).length)) : Nat) : Int)).toNat)) ((Ac.mk 0 0 0)))).map Ai))] rfl rfl) (Aq ?_)
  exact ⟨⟨[_], tm, rfl⟩, ⟨rfl, tv⟩, tv⟩
theorem J4 (N : Nat) (rc : (List Ac) → (List Ac) → (List Int) → (List Int) → (List Int) → (List Ar) → (List Int) → (List Int) → (List Int) → (List Int) → (List Int) → (List Int) → (Option (List Ac)) → Option (Bool × (Option (List Ac)))) (hrc : ∀ (p0 : List Ac) (p1 : List Ac) (p2 : List Int) (p3 : List Int) (p4 : List Int) (p5 : List Ar) (p6 : List Int) (p7 : List Int) (p8 : List Int) (p9 : List Int) (p10 : List Int) (p11 : List Int) (p12 : Option (List Ac)) (r : Bool × (Option (List Ac))), rc p0 p1 p2 p3 p4 p5 p6 p7 p8 p9 p10 p11 p12 = some r → C8 Tryz.prog 35 [pD (.sl (p0.map Ai)), pD (.sl (p1.map Ai)), oD (.cls 36 [.rop [.sl (p2.map Ao), .sl (p3.map Ao), .sl (p4.map Ao), .sl (p5.map AQ)], .rop [.sl (p6.map Ao), .sl (p7.map Ao), .sl (p8.map B6)], .rop [.sl (p9.map Ao), .sl (p10.map Ao), .sl (p11.map B6)], .ptr 90000 0])] [(.box [.pure (KY Ai p12)], .box [.pure (KY Ai r.2)])] [] (bD r.1)) (p0 : List Ac) (p1 : List Ac) (p2 : List Int) (p3 : List Int) (p4 : List Int) (p5 : List Ar) (p6 : List Int) (p7 : List Int) (p8 : List Int) (p9 : List Int) (p10 : List Int) (p11 : List Int) (p12 : Option (List Ac)) (r : Bool × (Option (List Ac))) (h : En N rc p0 p1 p2 p3 p4 p5 p6 p7 p8 p9 p10 p11 p12 = some r) : C8 Tryz.prog 35 [pD (.sl (p0.map Ai)), pD (.sl (p1.map Ai)), oD (.cls 36 [.rop [.sl (p2.map Ao), .sl (p3.map Ao), .sl (p4.map Ao), .sl (p5.map AQ)], .rop [.sl (p6.map Ao), .sl (p7.map Ao), .sl (p8.map B6)], .rop [.sl (p9.map Ao), .sl (p10.map Ao), .sl (p11.map B6)], .ptr 90000 0])] [(.box [.pure (KY Ai p12)], .box [.pure (KY Ai r.2)])] [] (bD r.1) := by
 unfold En at h
 refine Fh (n := 37) (rs := [.tmp 6]) Tryz.func35 rfl rfl rfl (Iq rfl) (Iq rfl) rfl rfl (Iq rfl) rfl (Iq rfl) fun w0 S0 GL => ?_
 refine Ae (sm [] [(0, pD (.sl (p0.map Ai))), (1, pD (.sl (p1.map Ai))), (2, oD (.cls 36 [.rop [.sl (p2.map Ao), .sl (p3.map Ao), .sl (p4.map Ao), .sl (p5.map AQ)], .rop [.sl (p6.map Ao), .sl (p7.map Ao), .sl (p8.map B6)], .rop [.sl (p9.map Ao), .sl (p10.map Ao), .sl (p11.map B6)], .ptr 90000 0]))] [(90000, .box [.pure (KY Ai p12)])] rfl rfl) (wq rfl (qa rfl (Ad (wp rfl (qm rfl (AG Bk rfl (Bv rfl (Ad ?_))))))))
 refine Bh h (fun h => ?_) fun h => ?_
 ·refine wq rfl (qw 2 rfl ?_)
  refine B9 h fun v2 a2 h => TS (ds0 := [_]) [90000] [] [true] (MI N p0 p2 p3 p4 p5 p6 p7 p8 p9 p10 p11 p12 v2 a2) (.p rfl) rfl W1 rfl ⟨rfl, tv⟩ rfl rfl (by decide) ⟨rfl, tv⟩ rfl (GV rfl) tv ⟨(fun h => by cases h), tv⟩ rfl rfl rfl ?_
  refine qa rfl (Ad ?_)
  obtain rfl := sj h
  refine Ae (sm [] [(6, bD v2.1)] [(90000, .box [.pure (KY Ai v2.2)])] rfl rfl) (Aq ?_)
  exact ⟨⟨[_], tm, rfl⟩, ⟨rfl, tv⟩, tv⟩
 ·refine Am (wp rfl (qm rfl (AG Bk rfl (qm rfl (Ad ?_)))))
  refine AJ (L := CV N p0 p1 p2 p3 p4 p5 p6 p7 p8 p9 p10 p11 rc) h (fun v3 => mk [(0, pD (.sl (p0.map Ai))), (1, pD (.sl (p1.map Ai))), (2, oD (.cls 36 [.rop [.sl (p2.map Ao), .sl (p3.map Ao), .sl (p4.map Ao), .sl (p5.map AQ)], .rop [.sl (p6.map Ao), .sl (p7.map Ao), .sl (p8.map B6)], .rop [.sl (p9.map Ao), .sl (p10.map Ao), .sl (p11.map B6)], .ptr 90000 0])), (15, pD (.sl (p1.map Ai))), (16, iD ((p1.length : Int))), (17, iD v3.2)] [(90000, .box [.pure (KY Ai v3.1)])]) (fun v4 => mk [] [(90000, .box [.pure (KY Ai v4)])]) (fun _ _ => rfl) (sm [] _ _ rfl rfl) (fun j3 n3 v3 h => ?_) (fun v4 s h hs => ?_)
  ·unfold CV at h
   refine wq rfl (A1 rfl (Ad (AP ?_)))
   refine Bh h (fun h => ?_) fun h => ?_
   ·refine Am (AP (AO (wq rfl (qm rfl ?_))))
    refine B3 h fun v6 a6 b6 h => qi Bk Cr a6 (Ag b6) rfl (qK Gw Cr rfl (qz Ix rfl (qa rfl (qs Cr rfl (Ad (wq rfl (qm rfl ?_)))))))
    refine B9 h fun v7 a7 h => Av [2001] (Cj N p0 v7 a7) TR rfl (qL Gw Cr rfl (El Bk Cr Ix rfl ?_))
    refine E1 h fun c8 h => Rd (.p rfl) rfl (.own _ _ _) ⟨rfl, tv⟩ rfl (.own _ _ _) ⟨rfl, tv⟩ rfl Bk Bk Cr Qn (Iq rfl) Ix rfl (S4 (f := Ai) (g := Ai) (xs := v7) (ys := (([v6] : List Ac))) c8) (To Ai v7 (([v6] : List Ac))) rfl ?_
    refine qm rfl ?_
    refine B9 h fun v9 a9 h => Av [2002] (Cj N p1 v9 a9) TR rfl (qw 2 rfl (Bq rfl ?_))
    obtain ⟨v10, a10, h⟩ := bind_some h
    obtain ⟨c11, h⟩ := EQ h
    have w12 : 0 + v10.1 ≤ v10.2.length := by rw [Nat.zero_add]; exact c11
    refine RC (ds0 := [_, _, _]) (b := 2002) (F7 N v9 v3.2 ((wI .i64 (v3.2 + 1))) v10 a10) (.p rfl) W6 rfl ⟨rfl, rfl, rfl, tv⟩ rfl ⟨rfl, tv⟩ rfl rfl (by rw [List.length_map]; exact c11) (List.map_take).symm ?_
    refine qm rfl ?_
    refine B9 h fun v13 a13 h => LJ (ds0 := [_, _, _]) [90000] [] [true] (hrc ((v7 ++ (([v6] : List Ac)))) ((v10.2.take v10.1)) p2 p3 p4 p5 p6 p7 p8 p9 p10 p11 v3.1 v13 a13) (.p rfl) Vv rfl ⟨rfl, rfl, rfl, tv⟩ rfl rfl (by decide) ⟨rfl, tv⟩ rfl (GV rfl) tv ⟨(fun h => by cases h), tv⟩ rfl rfl rfl ?_
    refine Cd rfl (AH (by kernel_rfl) ?_)
    refine Bh h (fun h => ?_) fun h => ?_
    ·refine wq rfl (qe rfl ?_)
     obtain rfl := sj h
     refine Ae (sm [] [(6, bD false)] [(90000, .box [.pure (KY Ai v13.2)])] rfl rfl) (Aq ?_)
     exact ⟨⟨[_], tm, rfl⟩, ⟨rfl, tv⟩, tv⟩
    ·refine Am (Aj Az rfl (Bq rfl (qm rfl (Ad ?_))))
     exact sn [] h
   ·refine AY ?_
    exact sn [] h
  ·refine Ae hs (wq rfl (qe rfl ?_))
   obtain rfl := sj h
   refine Ae (sm [] [(6, bD true)] [(90000, .box [.pure (KY Ai v4)])] rfl rfl) (Aq ?_)
   exact ⟨⟨[_], tm, rfl⟩, ⟨rfl, tv⟩, tv⟩
theorem HE (N : Nat) : ∀ (k : Nat) (p0 : List Ac) (p1 : List Ac) (p2 : List Int) (p3 : List Int) (p4 : List Int) (p5 : List Ar) (p6 : List Int) (p7 : List Int) (p8 : List Int) (p9 : List Int) (p10 : List Int) (p11 : List Int) (p12 : Option (List Ac)) (r : Bool × (Option (List Ac))), CB N k p0 p1 p2 p3 p4 p5 p6 p7 p8 p9 p10 p11 p12 = some r → C8 Tryz.prog 35 [pD (.sl (p0.map Ai)), pD (.sl (p1.map Ai)), oD (.cls 36 [.rop [.sl (p2.map Ao), .sl (p3.map Ao), .sl (p4.map Ao), .sl (p5.map AQ)], .rop [.sl (p6.map Ao), .sl (p7.map Ao), .sl (p8.map B6)], .rop [.sl (p9.map Ao), .sl (p10.map Ao), .sl (p11.map B6)], .ptr 90000 0])] [(.box [.pure (KY Ai p12)], .box [.pure (KY Ai r.2)])] [] (bD r.1)
 | 0, _, _, _, _, _, _, _, _, _, _, _, _, _, _, h => by cases h
 | k + 1, p0, p1, p2, p3, p4, p5, p6, p7, p8, p9, p10, p11, p12, r, h => J4 N (CB N k) (HE N k) p0 p1 p2 p3 p4 p5 p6 p7 p8 p9 p10 p11 p12 r h
theorem KO (N : Nat) (p0 : List Ac) (p1 : List Ac) (p2 : List Int) (p3 : List Int) (p4 : List Int) (p5 : List Ar) (p6 : List Int) (p7 : List Int) (p8 : List Int) (p9 : List Int) (p10 : List Int) (p11 : List Int) (p12 : Option (List Ac)) (r : Bool × (Option (List Ac))) (h : Gd N p0 p1 p2 p3 p4 p5 p6 p7 p8 p9 p10 p11 p12 = some r) : C8 Tryz.prog 35 [pD (.sl (p0.map Ai)), pD (.sl (p1.map Ai)), oD (.cls 36 [.rop [.sl (p2.map Ao), .sl (p3.map Ao), .sl (p4.map Ao), .sl (p5.map AQ)], .rop [.sl (p6.map Ao), .sl (p7.map Ao), .sl (p8.map B6)], .rop [.sl (p9.map Ao), .sl (p10.map Ao), .sl (p11.map B6)], .ptr 90000 0])] [(.box [.pure (KY Ai p12)], .box [.pure (KY Ai r.2)])] [] (bD r.1) := HE N N p0 p1 p2 p3 p4 p5 p6 p7 p8 p9 p10 p11 p12 r h
theorem Le (N : Nat) (p0 : Aa) (p1 : Ab) (p2 : List Ac) (r : (List Ac) × Int) (h : Fo N p0 p1 p2 = some r) : As Tryz.prog 12 [.e (.agg (Ah p0)), .e (.agg (Ay p1)), pD (.sl (p2.map Ai))] [] (.tup [.one (sC (r.1.map Ai)), .one (iC r.2)]) := by
 unfold Fo at h
 refine cw (n := 49) (rs := [.tmp 6, .tmp 7]) Tryz.func12 fun w0 S0 => ?_
 refine wq rfl (qb rfl (qb rfl (qa rfl (qa rfl (Ad (wq rfl (qL CI Cv rfl (qL A7 AE rfl ?_))))))))
 refine B9 h fun v1 a1 h => Av [] (Is N p0 p1 v1 a1) U4 rfl (qm rfl (qx rfl (qx rfl (qa rfl (qa rfl (Ad (wp rfl (qm rfl (By rfl (Ad ?_))))))))))
 refine Bh h (fun h => ?_) fun h => ?_
 ·refine wq rfl (qm rfl (qa rfl (qe rfl ?_)))
  obtain rfl := sj h
  refine Ae ((LW 6 _ rfl).trans (sm [] [(6, pD (.sl ((([] : List Ac)).map Ai))), (7, iD v1.2)] [] rfl rfl)) (Aq ?_)
  exact ⟨⟨[_, _], ⟨.tmp _ _ rfl, tm⟩, rfl⟩, tv⟩
 ·refine Am (wp rfl (qm rfl ?_))
  refine B9 h fun v3 a3 h => Av [] (Ol N p2 v3 a3) Xl rfl (qa rfl (Ad (wq rfl (qm rfl (By rfl (Ad ?_))))))
  refine Bh h (fun h => ?_) fun h => ?_
  ·refine wq rfl (qm rfl (qa rfl (qe rfl ?_)))
   obtain rfl := sj h
   refine Ae ((LW 6 _ rfl).trans (sm [] [(6, pD (.sl ((([] : List Ac)).map Ai))), (7, iD v3)] [] rfl rfl)) (Aq ?_)
   exact ⟨⟨[_, _], ⟨.tmp _ _ rfl, tm⟩, rfl⟩, tv⟩
  ·refine Am (wq rfl (qL CI Cv rfl (qL A7 AE rfl (qm rfl ?_))))
   refine B9 h fun v5 a5 h => Av [] (FV N p0 p1 p2 v5 a5) TT rfl (qm rfl (qx rfl (qx rfl (qz B4 rfl (qs AE rfl (qa rfl (Ad (AP ?_))))))))
   refine AM h (fun v6 => mk [(2, pD (.sl (p2.map Ai))), (3, oD (.ptr 3 0)), (4, oD (.ptr 4 0)), (11, oD (.ptr 11 0)), (40, bD v6)] [(3, .box (Ah p0)), (4, .box (Ay p1)), (11, .box (Ay v5.1))]) (fun j6 h => ?_) (fun v6 h => ?_)
   ·refine Aj Az rfl (qm rfl (Cd rfl (qm rfl ?_)))
    refine Dp 37 h rfl (fun h => ?_) fun h => ?_
    ·refine qw 2 rfl (qp rfl (Ad ?_))
     exact sn [] h
    ·refine qm rfl (Cd rfl (qp rfl (Ad ?_)))
     exact sn [] h
   ·refine Bh h (fun h => ?_) fun h => ?_
    ·refine wq rfl (qm rfl ?_)
     refine B9 h fun v9 a9 h => Av [2001] (Cj N p2 v9 a9) TR rfl (qa rfl (qe rfl ?_))
     obtain rfl := sj h
     refine Ae ((AW 2001 _ _ rfl rfl).trans (sm [] [(6, pD (.sl (v9.map Ai))), (7, iD 0)] [] rfl rfl)) (Aq ?_)
     exact ⟨⟨[_, _], ⟨.tmp _ _ rfl, tm⟩, rfl⟩, tv⟩
    ·refine Am (wq rfl ?_)
     refine So (.p rfl) Td rfl ?_
     refine Ad (wq rfl (qm rfl (DA (Ky 3 [.sl (p0.fb.map Ao), .sl (p0.fi.map Ao), .sl (p0.fo.map Ao), .sl (p0.fc.map AQ)] rfl rfl) (DA (Ky 4 [.sl (p1.fe.map Ao), .sl (p1.fa.map Ao), .sl (p1.fd.map B6)] rfl rfl) (DA (Ky 11 [.sl (v5.1.fe.map Ao), .sl (v5.1.fa.map Ao), .sl (v5.1.fd.map B6)] rfl rfl) ?_)))))
     refine O2 [.rop [.sl (p0.fb.map Ao), .sl (p0.fi.map Ao), .sl (p0.fo.map Ao), .sl (p0.fc.map AQ)], .rop [.sl (p1.fe.map Ao), .sl (p1.fa.map Ao), .sl (p1.fd.map B6)], .rop [.sl (v5.1.fe.map Ao), .sl (v5.1.fa.map Ao), .sl (v5.1.fd.map B6)], .ptr 13 0] (.p rfl) rfl ⟨rfl, rfl, rfl, rfl, tv⟩ ?_
     refine B9 h fun v10 a10 h => LJ (ds0 := [_, _, _]) [13] [] [true] (KO N (([] : List Ac)) p2 p0.fb p0.fi p0.fo p0.fc p1.fe p1.fa p1.fd v5.1.fe v5.1.fa v5.1.fd ((none : Option (List Ac))) v10 a10) (.p rfl) Vv rfl ⟨rfl, rfl, rfl, tv⟩ rfl rfl (by decide) ⟨rfl, tv⟩ rfl (GV rfl) tv ⟨(fun h => by cases h), tv⟩ rfl rfl rfl ?_
     refine Ad (wp rfl (ql P6 rfl ?_))
     refine E1 h fun c11 h => Sw (.p rfl) rfl Bk c11 ?_
     refine Ad ?_
     refine Bh h (fun h => ?_) fun h => ?_
     ·refine wq rfl (qa rfl (qe rfl ?_))
      obtain rfl := sj h
      refine Ae ((LW 6 _ rfl).trans (sm [] [(6, pD (.sl ((([] : List Ac)).map Ai))), (7, iD 15)] [] rfl rfl)) (Aq ?_)
      exact ⟨⟨[_, _], ⟨.tmp _ _ rfl, tm⟩, rfl⟩, tv⟩
     ·refine Am (wq rfl (ql P6 rfl (qa rfl (qe rfl ?_))))
      obtain rfl := sj h
      refine Ae ((TI 6 v10.2 rfl).trans (sm [] [(6, pD (.sl (((v10.2.getD [])).map Ai))), (7, iD 0)] [] rfl rfl)) (Aq ?_)
      exact ⟨⟨[_, _], ⟨.tmp _ _ rfl, tm⟩, rfl⟩, tv⟩
theorem Iz (N : Nat) (p0 : Aa) (p1 : Ab) (p2 : List Ac) (r : Bool × Int) (h : DW N p0 p1 p2 = some r) : As Tryz.prog 10 [.e (.agg (Ah p0)), .e (.agg (Ay p1)), pD (.sl (p2.map Ai))] [] (.tup [.one (.pure (.val (.bool r.1))), .one (iC r.2)]) := by
 unfold DW at h
 refine cw (n := 26) (rs := [.tmp 6, .tmp 7]) Tryz.func10 fun w0 S0 => ?_
 refine wq rfl (qb rfl (qb rfl (qa rfl (qa rfl (Ad (wp rfl (qL CI Cv rfl (qL A7 AE rfl ?_))))))))
 refine B9 h fun v1 a1 h => Av [] (HV N p0 p1 v1 a1) TH rfl (qa rfl (Ad (wq rfl (qm rfl (By rfl (Ad ?_))))))
 refine Bh h (fun h => ?_) fun h => ?_
 ·refine wq rfl (qm rfl (qa rfl (qe rfl ?_)))
  obtain rfl := sj h
  refine Ae (sm [] [(6, bD false), (7, iD v1)] [] rfl rfl) (Aq ?_)
  exact ⟨⟨[_, _], ⟨.tmp _ _ rfl, tm⟩, rfl⟩, tv⟩
 ·refine Am (wq rfl (qL CI Cv rfl (qL A7 AE rfl (qm rfl ?_))))
  refine B9 h fun v3 a3 h => Av [] (Le N p0 p1 p2 v3 a3) V6 rfl (qm rfl (qx rfl (qx rfl (qa rfl (qa rfl (Ad (wq rfl (qm rfl (Bv rfl (qa rfl (qe rfl ?_)))))))))))
  obtain rfl := sj h
  refine Ae (sm [] [(6, bD ((v3.2 == 15))), (7, iD 0)] [] rfl rfl) (Aq ?_)
  exact ⟨⟨[_, _], ⟨.tmp _ _ rfl, tm⟩, rfl⟩, tv⟩
theorem Ma (N : Nat) (p0 : Aa) (p1 : List Ac) (r : (List (List Ac)) × Int) (h : F2 N p0 p1 = some r) : As Tryz.prog 15 [.e (.agg (Ah p0)), pD (.sl (p1.map Ai))] [(1, r.1.map (GF Ai))] (.tup [.one (.own 0), .one (iC r.2)]) := by
 unfold F2 at h
 refine cw (n := 64) (rs := [.tmp 4, .tmp 5]) Tryz.func15 fun w0 S0 => ?_
 refine wq rfl (qb rfl (qa rfl (qa rfl (Ad (wq rfl (qL CI Cv rfl ?_))))))
 refine B9 h fun v1 a1 h => Av [2001, 2002, 2003] (Jh N p0 v1 a1) UW rfl (qm rfl (qx rfl (qx rfl (qz B4 rfl (qs AE rfl (qa rfl (Ad (wp rfl (qm rfl (By rfl (Ad ?_)))))))))))
 refine Bh h (fun h => ?_) fun h => ?_
 ·refine wq rfl (qm rfl (qa rfl (qe rfl ?_)))
  obtain rfl := sj h
  refine Ae ((Ca 4 2004 1 rfl rfl rfl).trans (sm [(1000, 2004)] [(4, oD (.own 1000)), (5, iD v1.2)] [(1000, .vec 1 ((([] : List (List Ac))).map (GF Ai)))] rfl rfl)) (Aq ?_)
  exact ⟨⟨[_, _], ⟨.tmp _ _ rfl, tm⟩, rfl⟩, ⟨rfl, tv⟩⟩
 ·refine Am (wp rfl (qL CI Cv rfl (qm rfl ?_)))
  refine B9 h fun v3 a3 h => Av [] (NP N p0 p1 v3 a3) WG rfl (Cd rfl (Ad ?_))
  refine Bh h (fun h => ?_) fun h => ?_
  ·refine wq rfl (qa rfl (qe rfl ?_))
   obtain rfl := sj h
   refine Ae ((Ca 4 2005 1 rfl rfl rfl).trans (sm [(1000, 2005)] [(4, oD (.own 1000)), (5, iD 13)] [(1000, .vec 1 ((([] : List (List Ac))).map (GF Ai)))] rfl rfl)) (Aq ?_)
   exact ⟨⟨[_, _], ⟨.tmp _ _ rfl, tm⟩, rfl⟩, ⟨rfl, tv⟩⟩
  ·refine Am (wq rfl (qa rfl (Ad (AP ?_))))
   refine AJ (L := Ez N p0) h (fun v5 => mk [(1, pD (.sl (v5.2.2.2.1.map Ai))), (2, oD (.ptr 2 0)), (6, oD (.ptr 6 0)), (8, oD (.own 2006))] [(2, .box (Ah p0)), (6, .box [sC (v5.1.map Ao), sC (v5.2.1.map Ao), sC (v5.2.2.1.map B6)]), (2006, .vec 1 (v5.2.2.2.2.map (GF Ai)))]) (fun v6 => mk [(8, oD (.own 2007))] [(2007, .vec 1 (v6.map (GF Ai)))]) (fun _ _ => rfl) ((Ca 8 2011 1 rfl rfl rfl).trans ((AW 2001 _ _ rfl rfl).trans ((AW 2002 _ _ rfl rfl).trans ((AW 2003 _ _ rfl rfl).trans (sm [(2006, 2011)] _ _ rfl rfl))))) (fun j5 n5 v5 h => ?_) (fun v6 s h hs => ?_)
   ·unfold Ez at h
    refine wp rfl (qm rfl (AG Bk rfl (E0 rfl (Ad ?_))))
    refine Bh h (fun h => ?_) fun h => ?_
    ·refine Am (AO (wq rfl (qm rfl (AG Bk rfl ?_))))
     refine QE (.p rfl) rfl rfl ?_
     refine qa rfl (Ad (AP ?_))
     refine AJ (L := Es N p0 v5) h (fun v8 => mk [(1, pD (.sl (v5.2.2.2.1.map Ai))), (2, oD (.ptr 2 0)), (6, oD (.ptr 6 0)), (8, oD (.own 2008)), (9, iD v8)] [(2, .box (Ah p0)), (6, .box [sC (v5.1.map Ao), sC (v5.2.1.map Ao), sC (v5.2.2.1.map B6)]), (2008, .vec 1 (v5.2.2.2.2.map (GF Ai)))]) (fun v9 => mk [(1, pD (.sl (v5.2.2.2.1.map Ai))), (2, oD (.ptr 2 0)), (6, oD (.ptr 6 0)), (8, oD (.own 2009)), (9, iD v9)] [(2, .box (Ah p0)), (6, .box [sC (v5.1.map Ao), sC (v5.2.1.map Ao), sC (v5.2.2.1.map B6)]), (2009, .vec 1 (v5.2.2.2.2.map (GF Ai)))]) (fun _ _ => rfl) (sm [(2008, 2006)] _ _ rfl rfl) (fun j8 n8 v8 h => ?_) (fun v9 s h hs => ?_)
     ·unfold Es at h
      refine wp rfl (qm rfl (E0 rfl (Ad ?_)))
      refine Bh h (fun h => ?_) fun h => ?_
      ·refine Am (AO (wp rfl (qL CI Cv rfl (qL A7 AE rfl (qw 2 rfl ?_)))))
       refine E1 h fun c11 h => H0 (.p rfl) rfl Bk Cr (FI (f := Ai) (n := 3) (fun _ => rfl) _) (.none _) (.some _ _ _ _ c11.1) tv ⟨rfl, tv⟩ (by have := c11.2.1; (try simp only [List.length_map]); omega) (by have := c11.2.2; (try simp only [List.length_map]); omega) (GO Ai v5.2.2.2.1 _ _ ((v8).toNat - 0) rfl) ?_
       refine B9 h fun v12 a12 h => Av [] (Iz N p0 ((Ab.mk v5.1 v5.2.1 v5.2.2.1)) (((v5.2.2.2.1.drop 0).take ((v8).toNat - 0))) v12 a12) Vf rfl (qm rfl (qx rfl (qx rfl (qa rfl (qa rfl (AH (by kernel_rfl) (wq rfl (qm rfl (Ad ?_)))))))))
       refine Bh h (fun h => ?_) fun h => ?_
       ·refine AY ?_
        exact sn [(2009, 2008)] h
       ·refine Am (Aj Az rfl (qm rfl (PI rfl (qe rfl ?_))))
        exact sn [] h
      ·refine AY ?_
       exact sn [(2009, 2008)] h
     ·refine Ae hs (wq rfl (qw 3 rfl ?_))
      refine E1 h fun c14 h => H0 (.p rfl) rfl Bk Cr (FI (f := Ai) (n := 3) (fun _ => rfl) _) (.none _) (.some _ _ _ _ c14.1) tv ⟨rfl, tv⟩ (by have := c14.2.1; (try simp only [List.length_map]); omega) (by have := c14.2.2; (try simp only [List.length_map]); omega) (GO Ai v5.2.2.2.1 _ _ ((v9).toNat - 0) rfl) ?_
      refine B9 h fun v15 a15 h => Av [2010] (Cj N (((v5.2.2.2.1.drop 0).take ((v9).toNat - 0))) v15 a15) TR rfl (DA (AW 2010 _ _ rfl rfl) (El Hp NS Td rfl ?_))
      refine E1 h fun c16 h => Ek (f := (GF Ai)) Hp Hp NS Vz Td c16 rfl (qa rfl (Ad (wq rfl (qL CI Cv rfl (qL A7 AE rfl (qw 2 rfl ?_))))))
      refine E1 h fun c17 h => H0 (.p rfl) rfl Bk Cr (FI (f := Ai) (n := 3) (fun _ => rfl) _) (.none _) (.some _ _ _ _ c17.1) tv ⟨rfl, tv⟩ (by have := c17.2.1; (try simp only [List.length_map]); omega) (by have := c17.2.2; (try simp only [List.length_map]); omega) (GO Ai v5.2.2.2.1 _ _ ((v9).toNat - 0) rfl) ?_
      refine B9 h fun v18 a18 h => Av [] (FV N p0 ((Ab.mk v5.1 v5.2.1 v5.2.2.1)) (((v5.2.2.2.1.drop 0).take ((v9).toNat - 0))) v18 a18) TT rfl (qm rfl (qx rfl (qx rfl (qs AE rfl (AH (by kernel_rfl) (Aj Az rfl (qw 2 rfl ?_)))))))
      refine E1 h fun c19 h => H0 (.p rfl) rfl Bk Cr (FI (f := Ai) (n := 3) (fun _ => rfl) _) (.some _ _ _ _ c19.1) (.none _) ⟨rfl, tv⟩ tv (by have := c19.2.1; (try simp only [List.length_map]); omega) (by have := c19.2.2; (try simp only [List.length_map]); omega) (GO Ai v5.2.2.2.1 _ _ (v5.2.2.2.1.length - (v9).toNat) (by rw [List.length_map])) ?_
      refine qa rfl (Ad ?_)
      exact sn [(2006, 50)] h
    ·refine AY ?_
     exact sn [(2007, 2006)] h
   ·refine Ae hs (wq rfl (qm rfl (qa rfl (qe rfl ?_))))
    obtain rfl := sj h
    refine Ae (sm [(1000, 2007)] [(4, oD (.own 1000)), (5, iD 0)] [(1000, .vec 1 (v6.map (GF Ai)))] rfl rfl) (Aq ?_)
    exact ⟨⟨[_, _], ⟨.tmp _ _ rfl, tm⟩, rfl⟩, ⟨rfl, tv⟩⟩
theorem GR (N : Nat) (p0 : List (List Bool)) (p1 : Int) (p2 : Int) (r : Bool) (h : CF N p0 p1 p2 = some r) : As Tryz.prog 92 [pD (.sl (p0.map (GF eB))), iD p1, iD p2] [] (bD r) := by
 unfold CF at h
 refine cw (n := 24) (rs := [.tmp 6]) Tryz.func92 fun w0 S0 => ?_
 refine wq rfl (qa rfl (Ad (wp rfl (qm rfl (AG FQ rfl (qm rfl (By rfl (Ad ?_))))))))
 refine Bh h (fun h => ?_) fun h => ?_
 ·refine wq rfl (qe rfl ?_)
  obtain rfl := sj h
  refine Ae (sm [] [(6, bD false)] [] rfl rfl) (Aq ?_)
  exact ⟨⟨[_], tm, rfl⟩, tv⟩
 ·refine Am (wp rfl (qe rfl ?_))
  refine AJ (L := BX N p0 p1 p2) h (fun v2 => mk [(0, pD (.sl (p0.map (GF eB)))), (1, iD p1), (2, iD p2), (7, iD v2)] []) (fun v3 => mk [] []) (fun _ _ => rfl) (sm [] _ _ rfl rfl) (fun j2 n2 v2 h => ?_) (fun v3 s h hs => ?_)
  ·unfold BX at h
   refine wp rfl (qw 2 rfl (A1 rfl (Ad ?_)))
   refine Bh h (fun h => ?_) fun h => ?_
   ·refine Am (AP (AO (wq rfl (qw 2 rfl ?_))))
    refine B3 h fun v5 a5 b5 h => qi FQ L7 a5 (Ag b5) rfl (qk Om rfl (AG Gn rfl (qm rfl (By rfl (Ad ?_)))))
    refine Bh h (fun h => ?_) fun h => ?_
    ·refine wq rfl (qe rfl ?_)
     obtain rfl := sj h
     refine Ae (sm [] [(6, bD false)] [] rfl rfl) (Aq ?_)
     exact ⟨⟨[_], tm, rfl⟩, tv⟩
    ·refine Am (Aj Az rfl (qm rfl (Bq rfl (qe rfl ?_))))
     exact sn [] h
   ·refine AY ?_
    exact sn [] h
  ·refine Ae hs (wq rfl (qe rfl ?_))
   obtain rfl := sj h
   refine Ae (sm [] [(6, bD true)] [] rfl rfl) (Aq ?_)
   exact ⟨⟨[_], tm, rfl⟩, tv⟩
theorem Jx (N : Nat) (p0 : Aa) (p1 : Ar) (r : Int) (h : DB N p0 p1 = some r) : As Tryz.prog 69 [.e (.agg (Ah p0)), .e (.agg (A9 p1))] [] (iD r) := by
 unfold DB at h
 refine cw (n := 101) (rs := [.tmp 4]) Tryz.func69 fun w0 S0 => ?_
 refine wq rfl (qb rfl (qb rfl (qa rfl (Ad (AP ?_)))))
 refine AM h (fun v1 => mk [(2, oD (.ptr 2 0)), (3, oD (.ptr 3 0)), (22, bD v1)] [(2, .box (Ah p0)), (3, .box (A9 p1))]) (fun j1 h => ?_) (fun v1 h => ?_)
 ·refine Aj Az rfl (qf EV rfl (ql BV rfl (A1 rfl (qm rfl ?_))))
  refine Dp 10 h rfl (fun h => ?_) fun h => ?_
  ·refine qw 3 rfl (qp rfl (qw 4 rfl (qu rfl (qu rfl (qn rfl (qp rfl (Ad ?_)))))))
   exact sn [] h
  ·refine qf EV rfl (ql BV rfl (E0 rfl (qp rfl (qm rfl ?_))))
   refine Dp 15 h rfl (fun h => ?_) fun h => ?_
   ·refine qw 3 rfl (qu rfl (qu rfl (qn rfl (qp rfl (Ad ?_)))))
    exact sn [] h
   ·refine qf HT rfl (ql Qz rfl (qm rfl ?_))
    refine Dp 18 h rfl (fun h => ?_) fun h => ?_
    ·refine qL GB DH rfl ?_
     refine B9 h fun v5 a5 h => Av [] (BT N p1 v5 a5) On rfl (qp rfl (qp rfl (Ad ?_)))
     exact sn [] h
    ·refine qw 2 rfl (qp rfl (qp rfl (Ad ?_)))
     exact sn [] h
 ·refine Bh h (fun h => ?_) fun h => ?_
  ·refine wq rfl (qe rfl ?_)
   obtain rfl := sj h
   refine Ae (sm [] [(4, iD 1)] [] rfl rfl) (Aq ?_)
   exact ⟨⟨[_], tm, rfl⟩, tv⟩
  ·refine Am (wq rfl (qf Bn rfl (ql A0 rfl (AG Ax rfl (qa rfl (Ad (AP ?_)))))))
   refine AM h (fun v7 => mk [(2, oD (.ptr 2 0)), (3, oD (.ptr 3 0)), (45, bD v7)] [(2, .box (Ah p0)), (3, .box (A9 p1))]) (fun j7 h => ?_) (fun v7 h => ?_)
   ·refine Aj Az rfl (qf Cy rfl (ql BV rfl (A1 rfl (qm rfl ?_))))
    refine Dp 29 h rfl (fun h => ?_) fun h => ?_
    ·refine qw 4 rfl (qp rfl (qw 4 rfl (qp rfl (qw 5 rfl (qp rfl (Ad ?_))))))
     exact sn [] h
    ·refine qf Cy rfl (ql BV rfl (qm rfl (D1 rfl (qp rfl (qm rfl ?_)))))
     refine Dp 35 h rfl (fun h => ?_) fun h => ?_
     ·refine qw 3 rfl (qp rfl (qw 5 rfl (qp rfl (Ad ?_))))
      exact sn [] h
     ·refine qf Hf rfl (ql BV rfl (A1 rfl (qp rfl (qm rfl ?_))))
      refine Dp 40 h rfl (fun h => ?_) fun h => ?_
      ·refine qw 4 rfl (qp rfl (Ad ?_))
       exact sn [] h
      ·refine qf Hf rfl (ql BV rfl (qm rfl (D1 rfl (qp rfl (Ad ?_)))))
       exact sn [] h
   ·refine Bh h (fun h => ?_) fun h => ?_
    ·refine wq rfl (qe rfl ?_)
     obtain rfl := sj h
     refine Ae (sm [] [(4, iD 4)] [] rfl rfl) (Aq ?_)
     exact ⟨⟨[_], tm, rfl⟩, tv⟩
    ·refine Am (wp rfl (qf Iy rfl (ql Je rfl (qf Bn rfl (ql A0 rfl (qf Cy rfl (ql BV rfl ?_)))))))
     refine B3 h fun v12 a12 b12 h => qi Ax CT a12 (Ag b12) rfl (qk BV rfl (qf Bn rfl (ql A0 rfl (qf Hf rfl (ql BV rfl ?_)))))
     refine B3 h fun v13 a13 b13 h => qi Ax CT a13 (Ag b13) rfl (qk BV rfl ?_)
     refine B9 h fun v14 a14 h => Av [] (GR N p1.fq v12 v13 v14 a14) Wq rfl (Cd rfl (AH (by kernel_rfl) ?_))
     refine Bh h (fun h => ?_) fun h => ?_
     ·refine wq rfl (qe rfl ?_)
      obtain rfl := sj h
      refine Ae (sm [] [(4, iD 6)] [] rfl rfl) (Aq ?_)
      exact ⟨⟨[_], tm, rfl⟩, tv⟩
     ·refine Am (wp rfl (qf EV rfl (ql BV rfl (By rfl (Ad ?_)))))
      refine Bh h (fun h => ?_) fun h => ?_
      ·refine wp rfl (qf FT rfl (ql Je rfl (AG FQ rfl (By rfl (Ad ?_)))))
       refine Bh h (fun h => ?_) fun h => ?_
       ·refine wq rfl (qe rfl ?_)
        obtain rfl := sj h
        refine Ae (sm [] [(4, iD 6)] [] rfl rfl) (Aq ?_)
        exact ⟨⟨[_], tm, rfl⟩, tv⟩
       ·refine Am (wq rfl (qe rfl ?_))
        obtain rfl := sj h
        refine Ae (sm [] [(4, iD 0)] [] rfl rfl) (Aq ?_)
        exact ⟨⟨[_], tm, rfl⟩, tv⟩
      ·refine Am (wp rfl (qf FT rfl (ql Je rfl (qf Bn rfl (ql A0 rfl (qf Cy rfl (ql BV rfl ?_)))))))
       refine B3 h fun v18 a18 b18 h => qi Ax CT a18 (Ag b18) rfl (qk BV rfl (qf Bn rfl (ql A0 rfl (qf Cy rfl (ql BV rfl ?_)))))
       refine B3 h fun v19 a19 b19 h => qi Ax CT a19 (Ag b19) rfl (qk BV rfl ?_)
       refine B9 h fun v20 a20 h => Av [] (GR N p1.fm v18 v19 v20 a20) Wq rfl (Cd rfl (AH (by kernel_rfl) ?_))
       refine Bh h (fun h => ?_) fun h => ?_
       ·refine wq rfl (qe rfl ?_)
        obtain rfl := sj h
        refine Ae (sm [] [(4, iD 6)] [] rfl rfl) (Aq ?_)
        exact ⟨⟨[_], tm, rfl⟩, tv⟩
       ·refine Am (wp rfl (qe rfl ?_))
        refine AJ (L := BG N p1) h (fun v22 => mk [(3, oD (.ptr 3 0)), (6, iD v22)] [(3, .box (A9 p1))]) (fun v23 => mk [] []) (fun _ _ => rfl) (sm [] _ _ rfl rfl) (fun j22 n22 v22 h => ?_) (fun v23 s h hs => ?_)
        ·unfold BG at h
         refine wp rfl (qm rfl (qf FT rfl (ql Je rfl (AG FQ rfl (A1 rfl (Ad ?_))))))
         refine Bh h (fun h => ?_) fun h => ?_
         ·refine Am (AP (AO (wq rfl (qf FT rfl (ql Je rfl (qm rfl ?_))))))
          refine B3 h fun v25 a25 b25 h => qi FQ L7 a25 (Ag b25) rfl (qk Om rfl (qm rfl ?_))
          refine B3 h fun v26 a26 b26 h => qi Gn P2 a26 (Ag b26) rfl (qk Qz rfl (Cd rfl (Ad ?_)))
          refine Bh h (fun h => ?_) fun h => ?_
          ·refine wq rfl (qe rfl ?_)
           obtain rfl := sj h
           refine Ae (sm [] [(4, iD 1)] [] rfl rfl) (Aq ?_)
           exact ⟨⟨[_], tm, rfl⟩, tv⟩
          ·refine Am (Aj Az rfl (qm rfl (Bq rfl (qe rfl ?_))))
           exact sn [] h
         ·refine AY ?_
          exact sn [] h
        ·refine Ae hs (wq rfl (qe rfl ?_))
         obtain rfl := sj h
         refine Ae (sm [] [(4, iD 0)] [] rfl rfl) (Aq ?_)
         exact ⟨⟨[_], tm, rfl⟩, tv⟩
end Go.Lift
