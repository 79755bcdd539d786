/- Lemmas for WavesOfCardSaid, which YtncnphcfgojgmaaGreatDoorFinV8 proves. -/
import Derived.Test.YtncnphcfgojgmaaGreatDoorTypes
import Derived.Test.YtncnphcfgojgmaaGreatDoorProg
import Derived.KernelRfl
namespace Go.Lift
open IntKind renaming wrap → wI
def DE (_ : Nat) (p0 : List Int) (p1 : Int) : Option Int :=
 AK ((decide (p1 < (p0.length : Int))))
  ((Bv p0 p1).bind fun v2 =>
  some ((wI .i64 v2)))
  (some 0)
def AX (_ : Nat) (p0 : Au) : Option Bool :=
 Ba (fun (v1 : Bool) =>
  some v1)
 fun j1 =>
 AK ((p0.ff == 3))
  (j1 true)
  (j1 (p0.ff == 4))
def B3 (N : Nat) (p1 : Int) (p2 : Int) (p3 : Bool) (v1 : (List (List Bool)) × Int) (j4 : ((List Bool)) → Option ((List (List Bool)))) : Nat → ((List Bool) × Int) → Option ((List (List Bool)))
 | 0, _ => none
 | n4 + 1, v4 =>
  AK ((decide (v4.2 < p1)))
   (Ba (fun (v7 : (List Bool)) =>
    B3 N p1 p2 p3 v1 j4 n4 (v7, (wI .i64 (v4.2 + 1))))
   fun j7 =>
   AK p3
    (AK ((v1.2 == v4.2))
     ((DD (v4.1.length + (([true] : List Bool)).length ≤ Dl)).bind fun _ =>
     j7 (v4.1 ++ (([true] : List Bool))))
     ((DD (0 ≤ (wI .i64 ((wI .i64 (3 * v1.2)) + v4.2)))).bind fun _ =>
     (DD (v4.1.length + (([((Int.tmod ((Fi .u16 p2 ((wI .i64 ((wI .i64 (3 * v1.2)) + v4.2))))) 2) == 0)] : List Bool)).length ≤ Dl)).bind fun _ =>
     j7 (v4.1 ++ (([((Int.tmod ((Fi .u16 p2 ((wI .i64 ((wI .i64 (3 * v1.2)) + v4.2))))) 2) == 0)] : List Bool)))))
    ((DD (0 ≤ (wI .i64 ((wI .i64 (3 * v1.2)) + v4.2)))).bind fun _ =>
    (DD (v4.1.length + (([((Int.tmod ((Fi .u16 p2 ((wI .i64 ((wI .i64 (3 * v1.2)) + v4.2))))) 2) == 0)] : List Bool)).length ≤ Dl)).bind fun _ =>
    j7 (v4.1 ++ (([((Int.tmod ((Fi .u16 p2 ((wI .i64 ((wI .i64 (3 * v1.2)) + v4.2))))) 2) == 0)] : List Bool)))))
   (j4 v4.1)
def B1 (N : Nat) (p0 : Int) (p1 : Int) (p2 : Int) (p3 : Bool) (j1 : ((List (List Bool))) → Option ((List (List Bool)))) : Nat → ((List (List Bool)) × Int) → Option ((List (List Bool)))
 | 0, _ => none
 | n1 + 1, v1 =>
  AK ((decide (v1.2 < p0)))
   (B3 N p1 p2 p3 v1 (fun (v5 : (List Bool)) =>
    (DD (v1.1.length + (([v5] : List (List Bool))).length ≤ Dl)).bind fun _ =>
    B1 N p0 p1 p2 p3 j1 n1 (v1.1 ++ (([v5] : List (List Bool))), (wI .i64 (v1.2 + 1)))) N (([] : List Bool), 0))
   (j1 v1.1)
def DH (N : Nat) (p0 : Int) (p1 : Int) (p2 : Int) (p3 : Bool) : Option ((List (List Bool))) :=
 B1 N p0 p1 p2 p3 (fun (v2 : (List (List Bool))) =>
  some v2) N (([] : List (List Bool)), 0)
def Ci (N : Nat) (p0 : BV) (j4 : ((List Int) × (List Int) × (List Int)) → Option (Aa × Bool)) : Nat → ((List Int) × (List Int) × (List Int) × Int) → Option (Aa × Bool)
 | 0, _ => none
 | n4 + 1, v4 =>
  AK ((decide (v4.2.2.2 < (p0.fb.length : Int))))
   ((Bv p0.fb v4.2.2.2).bind fun v7 =>
   (DD (v4.1.length + (([(wI .i64 (1 + (wI .i64 ((Int.tmod v7 3)))))] : List Int)).length ≤ Dl)).bind fun _ =>
   (DE N p0.fi v4.2.2.2).bind fun v9 =>
   (DD ((wI .i64 (1 + (wI .i64 ((Int.tmod v7 3))))) ≠ 0)).bind fun _ =>
   (DD (v4.2.1.length + (([(Int.tmod v9 ((wI .i64 (1 + (wI .i64 ((Int.tmod v7 3)))))))] : List Int)).length ≤ Dl)).bind fun _ =>
   (DE N p0.fo v4.2.2.2).bind fun v12 =>
   (DD ((wI .i64 (1 + (wI .i64 ((Int.tmod v7 3))))) ≠ 0)).bind fun _ =>
   (DD (v4.2.2.1.length + (([(Int.tmod v12 ((wI .i64 (1 + (wI .i64 ((Int.tmod v7 3)))))))] : List Int)).length ≤ Dl)).bind fun _ =>
   Ci N p0 j4 n4 (v4.1 ++ (([(wI .i64 (1 + (wI .i64 ((Int.tmod v7 3)))))] : List Int)), v4.2.1 ++ (([(Int.tmod v9 ((wI .i64 (1 + (wI .i64 ((Int.tmod v7 3)))))))] : List Int)), v4.2.2.1 ++ (([(Int.tmod v12 ((wI .i64 (1 + (wI .i64 ((Int.tmod v7 3)))))))] : List Int)), (wI .i64 (v4.2.2.2 + 1))))
   (j4 (v4.1, v4.2.1, v4.2.2.1))
def Bj (N : Nat) (p0 : BV) (v5 : (List Int) × (List Int) × (List Int)) (j15 : ((List Au)) → Option (Aa × Bool)) : Nat → ((List Au) × Int) → Option (Aa × Bool)
 | 0, _ => none
 | n15 + 1, v15 =>
  Ba (fun (v17 : Bool) =>
   AK v17
    ((Bv p0.fr v15.2).bind fun v20 =>
    (DD ((v5.1.length : Int) ≠ 0)).bind fun _ =>
    (DD ((v5.1.length : Int) ≠ 0)).bind fun _ =>
    Ba (fun (v23 : Bool) =>
     (Bv v5.1 ((Int.tmod ((wI .i64 v20.fg)) ((v5.1.length : Int))))).bind fun v26 =>
     (Bv v5.1 ((Int.tmod ((wI .i64 v20.fk)) ((v5.1.length : Int))))).bind fun v27 =>
     (DH N v26 v27 v20.ft false).bind fun v28 =>
     Ba (fun (v29 : (List (List Bool))) =>
      (DD (v15.1.length + (([(Au.mk ((wI .i64 (1 + (wI .i64 ((Int.tmod v20.ff 4)))))) ((Int.tmod ((wI .i64 v20.fg)) ((v5.1.length : Int)))) ((Int.tmod ((wI .i64 v20.fk)) ((v5.1.length : Int)))) v23 v28 v29)] : List Au)).length ≤ Dl)).bind fun _ =>
      Bj N p0 v5 j15 n15 (v15.1 ++ (([(Au.mk ((wI .i64 (1 + (wI .i64 ((Int.tmod v20.ff 4)))))) ((Int.tmod ((wI .i64 v20.fg)) ((v5.1.length : Int)))) ((Int.tmod ((wI .i64 v20.fk)) ((v5.1.length : Int)))) v23 v28 v29)] : List Au)), (wI .i64 (v15.2 + 1))))
     fun j29 =>
     AK (((wI .i64 (1 + (wI .i64 ((Int.tmod v20.ff 4))))) == 4))
      ((Bv v5.1 ((Int.tmod ((wI .i64 v20.fg)) ((v5.1.length : Int))))).bind fun v31 =>
      (Bv v5.1 ((Int.tmod ((wI .i64 v20.fg)) ((v5.1.length : Int))))).bind fun v32 =>
      (DH N v31 v32 v20.fu true).bind fun v33 =>
      j29 v33)
      (j29 ([] : List (List Bool))))
    fun j23 =>
    AK v20.fp
     ((AX N ((Au.mk ((wI .i64 (1 + (wI .i64 ((Int.tmod v20.ff 4)))))) ((Int.tmod ((wI .i64 v20.fg)) ((v5.1.length : Int)))) ((Int.tmod ((wI .i64 v20.fk)) ((v5.1.length : Int)))) false (([] : List (List Bool))) (([] : List (List Bool)))))).bind fun v25 =>
     j23 (!v25))
     (j23 false))
    (j15 v15.1))
  fun j17 =>
  AK ((decide (v15.2 < (p0.fr.length : Int))))
   (j17 (decide (0 < (v5.1.length : Int))))
   (j17 false)
def ES (N : Nat) (p0 : BV) : Option (Aa × Bool) :=
 Ba (fun (v1 : Bool) =>
  AK v1
   (some ((Aa.mk (([] : List Int)) (([] : List Int)) (([] : List Int)) (([] : List Au))), false))
   (Ci N p0 (fun (v5 : (List Int) × (List Int) × (List Int)) =>
    Bj N p0 v5 (fun (v16 : (List Au)) =>
     some ((Aa.mk v5.1 v5.2.1 v5.2.2 v16), true)) N (([] : List Au), 0)) N (([] : List Int), ([] : List Int), ([] : List Int), 0)))
 fun j1 =>
 AK ((decide (3 < (p0.fb.length : Int))))
  (j1 true)
  (j1 (decide (4 < (p0.fr.length : Int))))
def Fq (_ : Nat) : Option (Aa × (List Ab)) :=
 some ((Aa.mk (([2, 2] : List Int)) (([0, 0] : List Int)) (([1, 1] : List Int)) (([] : List Au))), ([(Ab.mk 1 0 1), (Ab.mk 1 1 1), (Ab.mk 2 0 0), (Ab.mk 2 1 0)] : List Ab))
def DK (_ : Nat) (p0 : Int) (p1 : Int) : Option Bool :=
 Ba (fun (v1 : Bool) =>
  some v1)
 fun j1 =>
 AK ((decide (0 ≤ p0)))
  (j1 (decide (p0 < p1)))
  (j1 false)
def Gv (_ : Nat) (p0 : Int) (p1 : Bool) : Option Bool :=
 Ba (fun (v1 : Bool) =>
  some v1)
 fun j1 =>
 AK ((p0 == 1))
  (j1 true)
  (AK ((p0 == 2))
   (j1 true)
   (AK ((p0 == 3))
    (j1 (!p1))
    (AK ((p0 == 4))
     (j1 (!p1))
     (j1 false))))
def Dw (_ : Nat) (p0 : List Bool) (p1 : Int) : Option Bool :=
 some (((p0.length : Int) != p1))
def Bg (N : Nat) (p0 : List (List Bool)) (p1 : (List Bool) → Option Bool) (j1 : Unit → Option Int) : Nat → Int → Option Int
 | 0, _ => none
 | n1 + 1, v1 =>
  AK ((decide (v1 < (p0.length : Int))))
   ((Bv p0 v1).bind fun v4 =>
   (p1 v4).bind fun v5 =>
   AK v5
    (some v1)
    (Bg N p0 p1 j1 n1 (wI .i64 (v1 + 1))))
   (j1 ())
def CZ (N : Nat) (p0 : List (List Bool)) (p1 : (List Bool) → Option Bool) : Option Int :=
 Bg N p0 p1 (fun (_ : Unit) =>
  some ((-1))) N 0
def CA (N : Nat) (p0 : List (List Bool)) (p1 : (List Bool) → Option Bool) : Option Bool :=
 (CZ N p0 p1).bind fun v1 =>
 some ((decide (0 ≤ v1)))
def EI (N : Nat) (p0 : List (List Bool)) (p1 : Int) (p2 : Int) : Option Bool :=
 Ba (fun (v1 : Bool) =>
  some v1)
 fun j1 =>
 AK (((p0.length : Int) == p1))
  ((CA N p0 ((fun (x : List Bool) => Dw N x p2))).bind fun v3 =>
  j1 (!v3))
  (j1 false)
def CL (N : Nat) (p1 : Au) (j19 : Unit → Option Int) : Nat → Int → Option Int
 | 0, _ => none
 | n19 + 1, v19 =>
  AK ((decide (v19 < (p1.fm.length : Int))))
   ((Bv p1.fm v19).bind fun v22 =>
   (Bv v22 v19).bind fun v23 =>
   AK ((!v23))
    (some 1)
    (CL N p1 j19 n19 (wI .i64 (v19 + 1))))
   (j19 ())
def FR (N : Nat) (p0 : Aa) (p1 : Au) : Option Int :=
 (Gv N p1.ff p1.fp).bind fun v1 =>
 AK ((!v1))
  (some 1)
  (Ba (fun (v3 : Bool) =>
   AK v3
    (some 4)
    ((Bv p0.fb p1.fg).bind fun v8 =>
    Ba (fun (v9 : Bool) =>
     AK v9
      (some 6)
      (CL N p1 (fun (_ : Unit) =>
       some 0) N 0))
    fun j9 =>
    (Bv p0.fb p1.fk).bind fun v10 =>
    (EI N p1.fq v8 v10).bind fun v11 =>
    AK ((!v11))
     (j9 true)
     (AK ((p1.ff == 4))
      ((EI N p1.fm v8 v8).bind fun v14 =>
      AK ((!v14))
       (j9 true)
       (AK ((!((p1.ff == 4))))
        (j9 (decide (0 < (p1.fm.length : Int))))
        (j9 false)))
      (AK ((!((p1.ff == 4))))
       (j9 (decide (0 < (p1.fm.length : Int))))
       (j9 false)))))
  fun j3 =>
  (DK N p1.fg ((p0.fb.length : Int))).bind fun v4 =>
  AK ((!v4))
   (j3 true)
   ((DK N p1.fk ((p0.fb.length : Int))).bind fun v6 =>
   j3 (!v6)))
def BD (N : Nat) (p0 : Aa) (j7 : Unit → Option Int) : Nat → Int → Option Int
 | 0, _ => none
 | n7 + 1, v7 =>
  AK ((decide (v7 < (p0.fb.length : Int))))
   ((Bv p0.fb v7).bind fun v10 =>
   Ba (fun (v11 : Bool) =>
    AK v11
     (some 7)
     (BD N p0 j7 n7 (wI .i64 (v7 + 1))))
   fun j11 =>
   AK ((decide (v10 < 1)))
    (j11 true)
    (AK ((decide (6 < v10)))
     (j11 true)
     ((Bv p0.fi v7).bind fun v14 =>
     (DK N v14 v10).bind fun v15 =>
     AK ((!v15))
      (j11 true)
      ((Bv p0.fo v7).bind fun v17 =>
      (DK N v17 v10).bind fun v18 =>
      j11 (!v18)))))
   (j7 ())
def Bu (N : Nat) (p0 : Aa) (j20 : Unit → Option Int) : Nat → Int → Option Int
 | 0, _ => none
 | n20 + 1, v20 =>
  AK ((decide (v20 < (p0.fd.length : Int))))
   ((Bv p0.fd v20).bind fun v23 =>
   (FR N p0 v23).bind fun v24 =>
   AK ((v24 != 0))
    (some v24)
    (Bu N p0 j20 n20 (wI .i64 (v20 + 1))))
   (j20 ())
def Cy (N : Nat) (p0 : Aa) : Option Int :=
 Ba (fun (v1 : Bool) =>
  AK v1
   (some 3)
   (Ba (fun (v4 : Bool) =>
    AK v4
     (some 6)
     (BD N p0 (fun (_ : Unit) =>
      Bu N p0 (fun (_ : Unit) =>
       some 0) N 0) N 0))
   fun j4 =>
   AK (((p0.fi.length : Int) != (p0.fb.length : Int)))
    (j4 true)
    (j4 ((p0.fo.length : Int) != (p0.fb.length : Int)))))
 fun j1 =>
 AK ((decide (6 < (p0.fb.length : Int))))
  (j1 true)
  (j1 (decide (12 < (p0.fd.length : Int))))
def Br (_ : Nat) (p0 : List Int) : Option ((List Int)) :=
 (DD ((([] : List Int)).length + p0.length ≤ Dl)).bind fun _ =>
 some ((([] : List Int)) ++ p0)
def GG (_ : Nat) (p0 : Int) (p1 : Int) : Option (Int × Int) :=
 some ((wI .u32 ((Fi .u64 ((wI .u64 ((wI .u64 p0) * (wI .u64 p1)))) 32))), (wI .u32 ((wI .u64 ((wI .u64 p0) * (wI .u64 p1))))))
def GJ (_ : Nat) (p0 : Int) (p1 : Int) : Option (Int × Int) :=
 some ((wI .u64 ((wI .u64 ((wI .u64 ((Fi .u64 p0 32) * (Fi .u64 p1 32))) + (Fi .u64 ((wI .u64 ((wI .u64 ((Fi .u64 p0 32) * (F6 .u64 p1 4294967295))) + (Fi .u64 ((wI .u64 ((F6 .u64 p0 4294967295) * (F6 .u64 p1 4294967295)))) 32)))) 32))) + (Fi .u64 ((wI .u64 ((F6 .u64 ((wI .u64 ((wI .u64 ((Fi .u64 p0 32) * (F6 .u64 p1 4294967295))) + (Fi .u64 ((wI .u64 ((F6 .u64 p0 4294967295) * (F6 .u64 p1 4294967295)))) 32)))) 4294967295) + (wI .u64 ((F6 .u64 p0 4294967295) * (Fi .u64 p1 32)))))) 32))), (wI .u64 (p0 * p1)))
def Ht (N : Nat) (p0 : Int) (p1 : Int) : Option (Int × Int) :=
 AK false
  ((GG N ((wI .u32 p0)) ((wI .u32 p1))).bind fun v2 =>
  some ((wI .u64 v2.1), (wI .u64 v2.2)))
  ((GJ N p0 p1).bind fun v3 =>
  some (v3.1, v3.2))
def Dk (N : Nat) (j9 : ((List Int)) → Option ((List Int))) : Nat → ((List Int) × Int) → Option ((List Int))
 | 0, _ => none
 | n9 + 1, v9 =>
  AK ((decide (v9.2 < (v9.1.length : Int))))
   ((DD ((0 : Int) ≤ v9.2 ∧ (v9.2).toNat ≤ v9.1.length ∧ v9.1.length ≤ v9.1.length)).bind fun _ =>
   (DD ((0 : Int) ≤ v9.2 ∧ 0 ≤ (v9.2).toNat ∧ (v9.2).toNat ≤ v9.1.length)).bind fun _ =>
   Dk N j9 n9 (HF v9.1 ((v9.2).toNat) ((((v9.1.drop 0).take ((v9.2).toNat))).take (Nat.min (((v9.1.drop 0).take ((v9.2).toNat))).length ((v9.1.length - (v9.2).toNat)))), (wI .i64 (v9.2 + (((Nat.min (((v9.1.drop 0).take ((v9.2).toNat))).length ((v9.1.length - (v9.2).toNat))) : Nat) : Int)))))
   (j9 v9.1)
def D3 (N : Nat) (p0 : List Int) (p1 : Int) : Option ((List Int)) :=
 Ba (fun (_ : Unit) =>
  (Ht N ((wI .u64 ((p0.length : Int)))) ((wI .u64 p1))).bind fun v3 =>
  Ba (fun (_ : Unit) =>
   (DD ((0 : Int) ≤ (wI .i64 v3.2) ∧ (wI .i64 v3.2) ≤ (wI .i64 v3.2) ∧ (wI .i64 v3.2) ≤ (Dl : Int))).bind fun _ =>
   Dk N (fun (v10 : (List Int)) =>
    some v10) N (HF (List.replicate ((wI .i64 v3.2)).toNat ((0 : Int))) 0 (p0.take (Nat.min p0.length ((List.replicate ((wI .i64 v3.2)).toNat ((0 : Int))).length))), (((Nat.min p0.length ((List.replicate ((wI .i64 v3.2)).toNat ((0 : Int))).length)) : Nat) : Int)))
  fun j4 =>
  Ba (fun (v5 : Bool) =>
   AK v5
    (none)
    (j4 ()))
  fun j5 =>
  AK ((decide (0 < v3.1)))
   (j5 true)
   (j5 (decide (9223372036854775807 < v3.2))))
 fun j1 =>
 AK ((decide (p1 < 0)))
  (none)
  (j1 ())
def EY (_ : Nat) (p0 : Au) : Option Bool :=
 Ba (fun (v1 : Bool) =>
  some v1)
 fun j1 =>
 AK ((p0.ff == 3))
  (j1 true)
  (j1 (p0.ff == 4))
def DL (N : Nat) (p0 : Aa) (j6 : ((List Int)) → Option (Ac × Int)) : Nat → ((List Int) × Int) → Option (Ac × Int)
 | 0, _ => none
 | n6 + 1, v6 =>
  AK ((decide (v6.2 < (p0.fd.length : Int))))
   (Ba (fun (v9 : (List Int)) =>
    DL N p0 j6 n6 (v9, (wI .i64 (v6.2 + 1))))
   fun j9 =>
   (Bv p0.fd v6.2).bind fun v10 =>
   (EY N v10).bind fun v11 =>
   AK v11
    ((Bv p0.fi v10.fg).bind fun v13 =>
    (DD (0 ≤ v13)).bind fun _ =>
    (Bv v6.1 v6.2).bind fun _ =>
    j9 (v6.1.set ((v6.2).toNat) ((Dp .u8 1 v13))))
    (j9 v6.1))
   (j6 v6.1)
def Fl (N : Nat) (p0 : Aa) : Option (Ac × Int) :=
 (Cy N p0).bind fun v1 =>
 AK ((v1 != 0))
  (some ((Ac.mk (([] : List Int)) (([] : List Int)) (([] : List Int))), v1))
  ((Br N p0.fi).bind fun v3 =>
  (D3 N (([(-1)] : List Int)) ((p0.fi.length : Int))).bind fun v4 =>
  (DD ((0 : Int) ≤ (p0.fd.length : Int) ∧ (p0.fd.length : Int) ≤ (p0.fd.length : Int) ∧ (p0.fd.length : Int) ≤ (Dl : Int))).bind fun _ =>
  DL N p0 (fun (v7 : (List Int)) =>
   some ((Ac.mk v3 v4 v7), 0)) N (List.replicate ((p0.fd.length : Int)).toNat ((0 : Int)), 0))
def EC (_ : Nat) (p0 : Ac) (p1 : Int) : Option Int :=
 (Bv p0.fe p1).bind fun v1 =>
 (DD (0 ≤ v1)).bind fun _ =>
 Ba (fun (v3 : Int) =>
  some v3)
 fun j3 =>
 (Bv p0.fa p1).bind fun v4 =>
 AK ((decide (0 ≤ v4)))
  ((Bv p0.fa p1).bind fun v6 =>
  (DD (0 ≤ v6)).bind fun _ =>
  j3 (NI .u8 ((Dp .u8 1 v1)) ((Dp .u8 1 v6))))
  (j3 (Dp .u8 1 v1))
def DI (N : Nat) (p0 : Aa) (p1 : Ac) (j7 : Unit → Option Int) : Nat → Int → Option Int
 | 0, _ => none
 | n7 + 1, v7 =>
  AK ((decide (v7 < (p0.fb.length : Int))))
   ((Bv p0.fb v7).bind fun v10 =>
   Ba (fun (v11 : Bool) =>
    AK v11
     (some 7)
     ((Bv p1.fe v7).bind fun v20 =>
     (Bv p1.fa v7).bind fun v21 =>
     AK ((v20 == v21))
      (some 1)
      (DI N p0 p1 j7 n7 (wI .i64 (v7 + 1)))))
   fun j11 =>
   (Bv p1.fe v7).bind fun v12 =>
   AK ((decide (v12 < 0)))
    (j11 true)
    ((Bv p1.fe v7).bind fun v14 =>
    AK ((decide (v10 ≤ v14)))
     (j11 true)
     ((Bv p1.fa v7).bind fun v16 =>
     AK ((decide (v16 < (-1))))
      (j11 true)
      ((Bv p1.fa v7).bind fun v18 =>
      j11 (decide (v10 ≤ v18))))))
   (j7 ())
def Da (N : Nat) (p0 : Aa) (p1 : Ac) (j23 : Unit → Option Int) : Nat → Int → Option Int
 | 0, _ => none
 | n23 + 1, v23 =>
  AK ((decide (v23 < (p0.fd.length : Int))))
   ((Bv p0.fd v23).bind fun v26 =>
   Ba (fun (v27 : Int × Int) =>
    Ba (fun (v33 : Bool) =>
     AK v33
      (some 1)
      (Da N p0 p1 j23 n23 (wI .i64 (v23 + 1))))
    fun j33 =>
    (Bv p1.fc v23).bind fun v34 =>
    AK (((CR .u8 v27.1 v34) != 0))
     (j33 true)
     ((Bv p1.fc v23).bind fun v36 =>
     j33 ((CR .u8 v36 v27.2) != 0)))
   fun j27 =>
   (EY N v26).bind fun v28 =>
   AK v28
    ((EC N p1 v26.fg).bind fun v30 =>
    (Bv p0.fb v26.fg).bind fun v31 =>
    (DD (0 ≤ v31)).bind fun _ =>
    j27 (v30, (wI .u8 ((Dp .u8 1 v31) - 1))))
    (j27 (0, 0)))
   (j23 ())
def ER (N : Nat) (p0 : Aa) (p1 : Ac) : Option Int :=
 (Cy N p0).bind fun v1 =>
 AK ((v1 != 0))
  (some v1)
  (Ba (fun (v3 : Bool) =>
   AK v3
    (some 6)
    (DI N p0 p1 (fun (_ : Unit) =>
     Da N p0 p1 (fun (_ : Unit) =>
      some 0) N 0) N 0))
  fun j3 =>
  AK (((p1.fe.length : Int) != (p0.fb.length : Int)))
   (j3 true)
   (AK (((p1.fa.length : Int) != (p0.fb.length : Int)))
    (j3 true)
    (j3 ((p1.fc.length : Int) != (p0.fd.length : Int)))))
def Bx (_ : Nat) (p0 : List Int) : Option ((List Int)) :=
 (DD ((([] : List Int)).length + p0.length ≤ Dl)).bind fun _ =>
 some ((([] : List Int)) ++ p0)
def Db (N : Nat) (p1 : Ac) (j3 : ((List Int)) → Option ((List Ac) × Int)) : Nat → ((List Int) × Int) → Option ((List Ac) × Int)
 | 0, _ => none
 | n3 + 1, v3 =>
  AK ((decide (v3.2 < (p1.fa.length : Int))))
   (Ba (fun (v6 : (List Int)) =>
    Db N p1 j3 n3 (v6, (wI .i64 (v3.2 + 1))))
   fun j6 =>
   (Bv p1.fa v3.2).bind fun v7 =>
   AK ((decide (0 ≤ v7)))
    ((DD (v3.1.length + (([v3.2] : List Int)).length ≤ Dl)).bind fun _ =>
    j6 (v3.1 ++ (([v3.2] : List Int))))
    (j6 v3.1))
   (j3 v3.1)
def CB (N : Nat) (v4 : (List Int)) (v11 : (List Ac) × Int) (j17 : ((List Int)) → Option ((List Ac) × Int)) : Nat → ((List Int) × Int) → Option ((List Ac) × Int)
 | 0, _ => none
 | n17 + 1, v17 =>
  AK ((decide (v17.2 < (v4.length : Int))))
   (Ba (fun (v20 : (List Int)) =>
    CB N v4 v11 j17 n17 (v20, (wI .i64 (v17.2 + 1))))
   fun j20 =>
   (Bv v4 v17.2).bind fun v21 =>
   (DD (0 ≤ v17.2)).bind fun _ =>
   AK (((F6 .i64 ((Fi .i64 v11.2 v17.2)) 1) == 1))
    ((Bv v17.1 v21).bind fun _ =>
    j20 (v17.1.set ((v21).toNat) ((-1))))
    (j20 v17.1))
   (j17 v17.1)
def CD (N : Nat) (p1 : Ac) (v4 : (List Int)) (j11 : ((List Ac)) → Option ((List Ac) × Int)) : Nat → ((List Ac) × Int) → Option ((List Ac) × Int)
 | 0, _ => none
 | n11 + 1, v11 =>
  AK ((decide (v11.2 < (Dp .i64 1 ((v4.length : Int))))))
   ((Br N p1.fe).bind fun v14 =>
   (Br N p1.fa).bind fun v15 =>
   (Bx N p1.fc).bind fun v16 =>
   CB N v4 v11 (fun (v18 : (List Int)) =>
    (DD (v11.1.length + (([(Ac.mk v14 v18 v16)] : List Ac)).length ≤ Dl)).bind fun _ =>
    CD N p1 v4 j11 n11 (v11.1 ++ (([(Ac.mk v14 v18 v16)] : List Ac)), (wI .i64 (v11.2 + 1)))) N (v15, 0))
   (j11 v11.1)
def Gf (N : Nat) (p0 : Aa) (p1 : Ac) : Option ((List Ac) × Int) :=
 (ER N p0 p1).bind fun v1 =>
 AK ((v1 != 0))
  (some (([] : List Ac), v1))
  (Db N p1 (fun (v4 : (List Int)) =>
   (DD (0 ≤ (v4.length : Int))).bind fun _ =>
   CD N p1 v4 (fun (v12 : (List Ac)) =>
    some (v12, 0)) N (([] : List Ac), 0)) N (([] : List Int), 0))
def BE (N : Nat) (v1 : (List Ai) × Int) (v4 : Au) (v6 : Int) (v11 : (List Ai) × Int) (v17 : List Bool) (j18 : ((List Ai) × Bool) → Option ((List Ai))) : Nat → ((List Ai) × Bool × Int) → Option ((List Ai))
 | 0, _ => none
 | n18 + 1, v18 =>
  AK ((decide (v18.2.2 < (v17.length : Int))))
   (Ba (fun (v21 : (List Ai) × Bool) =>
    BE N v1 v4 v6 v11 v17 j18 n18 (v21.1, v21.2, (wI .i64 (v18.2.2 + 1))))
   fun j21 =>
   (Bv v17 v18.2.2).bind fun v22 =>
   (DD (0 ≤ v18.2.2)).bind fun _ =>
   AK (((F6 .u8 ((Fi .u8 v6 v18.2.2)) 1) == 0))
    (j21 (v18.1, v18.2.1))
    (Ba (fun (v25 : Bool) =>
     Ba (fun (v27 : Bool) =>
      AK v27
       ((DD (v18.1.length + (([(Ai.mk v1.2 v11.2 v18.2.2)] : List Ai)).length ≤ Dl)).bind fun _ =>
       j21 (v18.1 ++ (([(Ai.mk v1.2 v11.2 v18.2.2)] : List Ai)), v25))
       (j21 (v18.1, v25)))
     fun j27 =>
     AK ((!v22))
      (j27 (!v4.fp))
      (j27 false))
    fun j25 =>
    AK v18.2.1
     (j25 true)
     (j25 v22)))
   (j18 (v18.1, v18.2.1))
def B0 (N : Nat) (v1 : (List Ai) × Int) (v4 : Au) (v6 : Int) (v7 : Int) (j11 : ((List Ai)) → Option ((List Ai))) : Nat → ((List Ai) × Int) → Option ((List Ai))
 | 0, _ => none
 | n11 + 1, v11 =>
  AK ((decide (v11.2 < (v4.fq.length : Int))))
   (Ba (fun (v14 : (List Ai)) =>
    B0 N v1 v4 v6 v7 j11 n11 (v14, (wI .i64 (v11.2 + 1))))
   fun j14 =>
   (DD (0 ≤ v11.2)).bind fun _ =>
   AK (((F6 .u8 ((Fi .u8 v7 v11.2)) 1) == 0))
    (j14 v11.1)
    ((Bv v4.fq v11.2).bind fun v17 =>
    BE N v1 v4 v6 v11 v17 (fun (v19 : (List Ai) × Bool) =>
     Ba (fun (v31 : Bool) =>
      AK v31
       ((DD (v19.1.length + (([(Ai.mk v1.2 v11.2 ((-1)))] : List Ai)).length ≤ Dl)).bind fun _ =>
       j14 (v19.1 ++ (([(Ai.mk v1.2 v11.2 ((-1)))] : List Ai))))
       (j14 v19.1))
     fun j31 =>
     AK v4.fp
      (j31 (!v19.2))
      (j31 false)) N (v11.1, false, 0)))
   (j11 v11.1)
def CY (N : Nat) (p0 : Aa) (p1 : Ac) (j1 : ((List Ai)) → Option ((List Ai))) : Nat → ((List Ai) × Int) → Option ((List Ai))
 | 0, _ => none
 | n1 + 1, v1 =>
  AK ((decide (v1.2 < (p0.fd.length : Int))))
   ((Bv p0.fd v1.2).bind fun v4 =>
   (EC N p1 v4.fg).bind fun v5 =>
   (EC N p1 v4.fk).bind fun v6 =>
   Ba (fun (v7 : Int) =>
    B0 N v1 v4 v6 v7 (fun (v12 : (List Ai)) =>
     CY N p0 p1 j1 n1 (v12, (wI .i64 (v1.2 + 1)))) N (v1.1, 0))
   fun j7 =>
   (EY N v4).bind fun v8 =>
   AK v8
    ((Bv p1.fc v1.2).bind fun v10 =>
    j7 v10)
    (j7 v5))
   (j1 v1.1)
def E4 (N : Nat) (p0 : Aa) (p1 : Ac) : Option ((List Ai)) :=
 CY N p0 p1 (fun (v2 : (List Ai)) =>
  some v2) N (([] : List Ai), 0)
def Em (N : Nat) (p0 : Aa) (v1 : (List Ac) × Int) (j3 : Unit → Option (Ac × Ai × Int)) : Nat → Int → Option (Ac × Ai × Int)
 | 0, _ => none
 | n3 + 1, v3 =>
  AK ((decide (v3 < (v1.1.length : Int))))
   ((Bv v1.1 v3).bind fun v6 =>
   (E4 N p0 v6).bind fun v7 =>
   AK ((decide (0 < (v7.length : Int))))
    ((Bv v7 0).bind fun v9 =>
    some (v6, v9, 0))
    (Em N p0 v1 j3 n3 (wI .i64 (v3 + 1))))
   (j3 ())
def Fs (N : Nat) (p0 : Aa) (p1 : Ac) : Option (Ac × Ai × Int) :=
 (Gf N p0 p1).bind fun v1 =>
 AK ((v1.2 != 0))
  (some ((Ac.mk (([] : List Int)) (([] : List Int)) (([] : List Int))), (Ai.mk 0 0 0), v1.2))
  (Em N p0 v1 (fun (_ : Unit) =>
   some ((Ac.mk (([] : List Int)) (([] : List Int)) (([] : List Int))), (Ai.mk 0 0 0), 15)) N 0)
def Fy (_ : Nat) (p0 : Ab) : Option Bool :=
 Ba (fun (v1 : Bool) =>
  AK v1
   (some false)
   (Ba (fun (v5 : Bool) =>
    some v5)
   fun j5 =>
   AK ((p0.ff == 1))
    (j5 true)
    (j5 (p0.fj == 0))))
 fun j1 =>
 AK ((decide ((NX p0.fh p0.fj) < 0)))
  (j1 true)
  (AK ((decide (p0.ff < 1)))
   (j1 true)
   (j1 (decide (4 < p0.ff))))
def FP (_ : Nat) (p0 : Aa) (p1 : Ab) : Option Bool :=
 AK ((p1.ff == 3))
  (some ((decide (p1.fh < (p0.fd.length : Int)))))
  (Ba (fun (v2 : Bool) =>
   some v2)
  fun j2 =>
  AK ((decide (p1.fh < (p0.fb.length : Int))))
   (AK ((p1.ff != 1))
    (j2 true)
    ((Bv p0.fb p1.fh).bind fun v5 =>
    j2 (decide (p1.fj < v5))))
   (j2 false))
def F0 (N : Nat) (p0 : Ac) : Option Ac :=
 (Br N p0.fe).bind fun v1 =>
 (Br N p0.fa).bind fun v2 =>
 (Bx N p0.fc).bind fun v3 =>
 some ((Ac.mk v1 v2 v3))
def Fg (_ : Nat) (p0 : Au) : Option Bool :=
 Ba (fun (v1 : Bool) =>
  some v1)
 fun j1 =>
 AK ((p0.ff == 3))
  (j1 true)
  (j1 (p0.ff == 4))
def Dc (N : Nat) (p0 : Aa) (p2 : Ab) (j7 : ((List Int)) → Option (Bool × (List Int) × (List Int))) : Nat → ((List Int) × Int) → Option (Bool × (List Int) × (List Int))
 | 0, _ => none
 | n7 + 1, v7 =>
  AK ((decide (v7.2 < (p0.fd.length : Int))))
   (Ba (fun (v10 : (List Int)) =>
    Dc N p0 p2 j7 n7 (v10, (wI .i64 (v7.2 + 1))))
   fun j10 =>
   (Bv p0.fd v7.2).bind fun v11 =>
   Ba (fun (v12 : Bool) =>
    AK v12
     ((Bv v7.1 v7.2).bind fun v16 =>
     (DD (0 ≤ p2.fj)).bind fun _ =>
     (Bv v7.1 v7.2).bind fun _ =>
     j10 (v7.1.set ((v7.2).toNat) ((NI .u8 v16 ((Dp .u8 1 p2.fj))))))
     (j10 v7.1))
   fun j12 =>
   AK ((v11.fg == p2.fh))
    ((Fg N v11).bind fun v14 =>
    j12 v14)
    (j12 false))
   (j7 v7.1)
def Hw (N : Nat) (p0 : Aa) (p1 : Ac) (p2 : Ab) : Option (Bool × (List Int) × (List Int)) :=
 Ba (fun (v1 : Bool) =>
  AK v1
   (some (false, p1.fa, p1.fc))
   ((Bv p1.fa p2.fh).bind fun _ =>
   Dc N p0 p2 (fun (v8 : (List Int)) =>
    some (true, p1.fa.set ((p2.fh).toNat) p2.fj, v8)) N (p1.fc, 0)))
 fun j1 =>
 (Bv p1.fa p2.fh).bind fun v2 =>
 AK ((decide (0 ≤ v2)))
  (j1 true)
  ((Bv p1.fe p2.fh).bind fun v4 =>
  j1 (v4 == p2.fj))
def Fu (_ : Nat) (p0 : Ac) (p1 : Int) : Option Int :=
 (Bv p0.fe p1).bind fun v1 =>
 (DD (0 ≤ v1)).bind fun _ =>
 Ba (fun (v3 : Int) =>
  some v3)
 fun j3 =>
 (Bv p0.fa p1).bind fun v4 =>
 AK ((decide (0 ≤ v4)))
  ((Bv p0.fa p1).bind fun v6 =>
  (DD (0 ≤ v6)).bind fun _ =>
  j3 (NI .u8 ((Dp .u8 1 v1)) ((Dp .u8 1 v6))))
  (j3 (Dp .u8 1 v1))
def CE (_ : Nat) (p0 : Int) : Option Int :=
 (U1 ((⟨⟨(List.append (List.append [8, 0, 1, 0, 2, 0, 1, 0, 3, 0, 1, 0, 2, 0, 1, 0, 4, 0, 1, 0, 2, 0, 1, 0, 3, 0, 1, 0, 2, 0, 1, 0, 5, 0, 1, 0, 2, 0, 1, 0, 3, 0, 1, 0, 2, 0, 1, 0, 4, 0, 1, 0, 2, 0, 1, 0, 3, 0, 1, 0, 2, 0, 1, 0] [6, 0, 1, 0, 2, 0, 1, 0, 3, 0, 1, 0, 2, 0, 1, 0, 4, 0, 1, 0, 2, 0, 1, 0, 3, 0, 1, 0, 2, 0, 1, 0, 5, 0, 1, 0, 2, 0, 1, 0, 3, 0, 1, 0, 2, 0, 1, 0, 4, 0, 1, 0, 2, 0, 1, 0, 3, 0, 1, 0, 2, 0, 1, 0]) (List.append [7, 0, 1, 0, 2, 0, 1, 0, 3, 0, 1, 0, 2, 0, 1, 0, 4, 0, 1, 0, 2, 0, 1, 0, 3, 0, 1, 0, 2, 0, 1, 0, 5, 0, 1, 0, 2, 0, 1, 0, 3, 0, 1, 0, 2, 0, 1, 0, 4, 0, 1, 0, 2, 0, 1, 0, 3, 0, 1, 0, 2, 0, 1, 0] [6, 0, 1, 0, 2, 0, 1, 0, 3, 0, 1, 0, 2, 0, 1, 0, 4, 0, 1, 0, 2, 0, 1, 0, 3, 0, 1, 0, 2, 0, 1, 0, 5, 0, 1, 0, 2, 0, 1, 0, 3, 0, 1, 0, 2, 0, 1, 0, 4, 0, 1, 0, 2, 0, 1, 0, 3, 0, 1, 0, 2, 0, 1, 0]))⟩⟩ : ByteArray)) p0).bind fun v1 =>
 some ((wI .i64 v1))
def C1 (N : Nat) (p0 : Au) (p2 : Int) (j1 : Unit → Option Bool) : Nat → Int → Option Bool
 | 0, _ => none
 | n1 + 1, v1 =>
  AK ((v1 != 0))
   ((CE N v1).bind fun v4 =>
   (Bv p0.fm v4).bind fun v5 =>
   (Bv v5 p2).bind fun v6 =>
   AK ((!v6))
    (some false)
    (C1 N p0 p2 j1 n1 (F6 .u8 v1 ((wI .u8 (v1 - 1))))))
   (j1 ())
def Fo (N : Nat) (p0 : Au) (p1 : Int) (p2 : Int) : Option Bool :=
 C1 N p0 p2 (fun (_ : Unit) =>
  some true) N p1
def Gw (N : Nat) (p0 : Aa) (p1 : Ac) (p2 : Int) : Option (Bool × (List Int)) :=
 (Bv p0.fd p2).bind fun v1 =>
 (Fg N v1).bind fun v2 =>
 AK ((!v2))
  (some (false, p1.fc))
  ((Fu N p1 v1.fg).bind fun v4 =>
  (Bv p1.fc p2).bind fun v5 =>
  Ba (fun (v6 : Bool) =>
   AK v6
    (some (false, p1.fc))
    ((Bv p1.fc p2).bind fun _ =>
    some (true, p1.fc.set ((p2).toNat) v4)))
  fun j6 =>
  (Bv p1.fc p2).bind fun v7 =>
  AK ((v7 == v4))
   (j6 true)
   (AK ((v1.ff == 4))
    ((Bv p1.fe v1.fg).bind fun v10 =>
    (Fo N v1 ((CR .u8 v5 v4)) v10).bind fun v11 =>
    j6 (!v11))
    (j6 false)))
def Gq (N : Nat) (p0 : Aa) (p1 : Ac) (p2 : Ab) : Option (Ac × Bool) :=
 (F0 N p1).bind fun v1 =>
 AK ((p2.ff == 1))
  ((Hw N p0 v1 p2).bind fun v3 =>
  some ((Ac.mk v1.fe v3.2.1 v3.2.2), v3.1))
  (AK ((p2.ff == 3))
   ((Gw N p0 v1 p2.fh).bind fun v5 =>
   some ((Ac.mk v1.fe v1.fa v5.2), v5.1))
   ((Bv v1.fa p2.fh).bind fun v6 =>
   AK ((decide (v6 < 0)))
    (some (v1, false))
    ((Bv v1.fa p2.fh).bind fun _ =>
    Ba (fun (v9 : (List Int)) =>
     some ((Ac.mk v9 (v1.fa.set ((p2.fh).toNat) ((-1))) v1.fc), true))
    fun j9 =>
    AK ((p2.ff == 2))
     ((Bv v1.fe p2.fh).bind fun _ =>
     j9 (v1.fe.set ((p2.fh).toNat) v6))
     (j9 v1.fe))))
def Gd (N : Nat) (p0 : Aa) (p1 : Ac) (p2 : Ab) : Option (Ac × Int) :=
 (Fy N p2).bind fun v1 =>
 AK ((!v1))
  (some ((Ac.mk (([] : List Int)) (([] : List Int)) (([] : List Int))), 1))
  ((FP N p0 p2).bind fun v3 =>
  AK ((!v3))
   (some ((Ac.mk (([] : List Int)) (([] : List Int)) (([] : List Int))), 4))
   ((Gq N p0 p1 p2).bind fun v5 =>
   AK ((!v5.2))
    (some ((Ac.mk (([] : List Int)) (([] : List Int)) (([] : List Int))), 11))
    (some (v5.1, 0))))
def Fx (N : Nat) (p0 : Aa) (p1 : Ac) (p2 : Ab) : Option (Ac × Int) :=
 (ER N p0 p1).bind fun v1 =>
 AK ((v1 != 0))
  (some ((Ac.mk (([] : List Int)) (([] : List Int)) (([] : List Int))), v1))
  ((Gd N p0 p1 p2).bind fun v3 =>
  some (v3.1, v3.2))
def BK (N : Nat) (p0 : List Int) (p1 : List Int) (j2 : Unit → Option Bool) : Nat → Int → Option Bool
 | 0, _ => none
 | n2 + 1, v2 =>
  AK ((decide (v2 < (p0.length : Int))))
   ((Bv p0 v2).bind fun v5 =>
   (Bv p1 v2).bind fun v6 =>
   AK ((v5 != v6))
    (some false)
    (BK N p0 p1 j2 n2 (wI .i64 (v2 + 1))))
   (j2 ())
def Dd (N : Nat) (p0 : List Int) (p1 : List Int) : Option Bool :=
 AK (((p0.length : Int) != (p1.length : Int)))
  (some false)
  (BK N p0 p1 (fun (_ : Unit) =>
   some true) N 0)
def A9 (N : Nat) (p0 : List Int) (p1 : Int → Option Bool) (j1 : Unit → Option Int) : Nat → Int → Option Int
 | 0, _ => none
 | n1 + 1, v1 =>
  AK ((decide (v1 < (p0.length : Int))))
   ((Bv p0 v1).bind fun v4 =>
   (p1 v4).bind fun v5 =>
   AK v5
    (some v1)
    (A9 N p0 p1 j1 n1 (wI .i64 (v1 + 1))))
   (j1 ())
def Dj (N : Nat) (p0 : List Int) (p1 : Int → Option Bool) : Option Int :=
 A9 N p0 p1 (fun (_ : Unit) =>
  some ((-1))) N 0
def Cc (N : Nat) (p0 : List Int) (p1 : Int → Option Bool) : Option Bool :=
 (Dj N p0 p1).bind fun v1 =>
 some ((decide (0 ≤ v1)))
def Gj (_ : Nat) (p0 : Int) : Option Bool :=
 some ((decide (0 ≤ p0)))
def zFS (N : Nat) (p0 : Aa) (p1 : Ac) : Option Bool :=
 Ba (fun (v1 : Bool) =>
  some v1)
 fun j1 =>
 (ER N p0 p1).bind fun v2 =>
 AK ((v2 == 0))
  ((Dd N p1.fe p0.fo).bind fun v4 =>
  AK v4
   ((Cc N p1.fa ((fun (x : Int) => Gj N x))).bind fun v6 =>
   j1 (!v6))
   (j1 false))
  (j1 false)
def D2 (N : Nat) (p0 : Aa) (p1 : List Ab) (j5 : Ac → Option (Int × Ac × Ai × Int)) : Nat → (Ac × Int) → Option (Int × Ac × Ai × Int)
 | 0, _ => none
 | n5 + 1, v5 =>
  AK ((decide (v5.2 < (p1.length : Int))))
   ((Bv p1 v5.2).bind fun v8 =>
   (Fx N p0 v5.1 v8).bind fun v9 =>
   Ba (fun (v10 : Bool) =>
    AK v10
     (some (v5.2, (Ac.mk (([] : List Int)) (([] : List Int)) (([] : List Int))), (Ai.mk 0 0 0), 0))
     ((Fs N p0 v9.1).bind fun v13 =>
     AK ((v13.2.2 == 0))
      (some (v5.2, v13.1, v13.2.1, 0))
      (D2 N p0 p1 j5 n5 (v9.1, (wI .i64 (v5.2 + 1))))))
   fun j10 =>
   AK ((v9.2 != 0))
    (j10 true)
    (j10 (v8.ff == 4)))
   (j5 v5.1)
def Fw (N : Nat) (p0 : Aa) (p1 : List Ab) : Option (Int × Ac × Ai × Int) :=
 (Fl N p0).bind fun v1 =>
 AK ((v1.2 != 0))
  (some (0, (Ac.mk (([] : List Int)) (([] : List Int)) (([] : List Int))), (Ai.mk 0 0 0), v1.2))
  ((Fs N p0 v1.1).bind fun v3 =>
  AK ((v3.2.2 == 0))
   (some ((-1), v3.1, v3.2.1, 0))
   (D2 N p0 p1 (fun (v6 : Ac) =>
    (zFS N p0 v6).bind fun v15 =>
    AK ((!v15))
     (some ((p1.length : Int), (Ac.mk (([] : List Int)) (([] : List Int)) (([] : List Int))), (Ai.mk 0 0 0), 14))
     (some (0, (Ac.mk (([] : List Int)) (([] : List Int)) (([] : List Int))), (Ai.mk 0 0 0), 15))) N (v1.1, 0)))
def Gi (N : Nat) (p0 : Aa) (p1 : List Ab) : Option Bool :=
 (Fw N p0 p1).bind fun v1 =>
 some ((v1.2.2.2 == 15))
def EX (N : Nat) (p0 : Aa) (p1 : Ac) : Option (Bool × Int) :=
 (Fs N p0 p1).bind fun v1 =>
 AK ((v1.2.2 == 0))
  (some (false, 0))
  (AK ((v1.2.2 == 15))
   (some (true, 0))
   (some (false, v1.2.2)))
def EM (_ : Nat) (p0 : Int) : Option ByteArray :=
 (Bv (([(⟨#[]⟩ : ByteArray), (⟨#[115, 116, 97, 114, 116]⟩ : ByteArray), (⟨#[102, 105, 110, 105, 115, 104]⟩ : ByteArray), (⟨#[99, 108, 101, 97, 114]⟩ : ByteArray), (⟨#[97, 98, 111, 114, 116]⟩ : ByteArray)] : List ByteArray)) p0).bind fun v1 =>
 some v1
def Gy (_ : Nat) (p0 : Int) : Option ByteArray := QM p0
def FQ (N : Nat) (p0 : Ab) : Option (ByteArray × Int) :=
 (Fy N p0).bind fun v1 =>
 AK ((!v1))
  (some ((⟨#[]⟩ : ByteArray), 1))
  ((EM N p0.ff).bind fun v3 =>
  (DD (v3.size + ((⟨#[32]⟩ : ByteArray)).size ≤ 9223372036854775807)).bind fun _ =>
  (Gy N p0.fh).bind fun v5 =>
  (DD (((v3 ++ (⟨#[32]⟩ : ByteArray))).size + v5.size ≤ 9223372036854775807)).bind fun _ =>
  Ba (fun (v7 : ByteArray) =>
   some (v7, 0))
  fun j7 =>
  AK ((p0.ff == 1))
   ((Gy N p0.fj).bind fun v9 =>
   (DD (((⟨#[32]⟩ : ByteArray)).size + v9.size ≤ 9223372036854775807)).bind fun _ =>
   (DD ((((v3 ++ (⟨#[32]⟩ : ByteArray)) ++ v5)).size + (((⟨#[32]⟩ : ByteArray) ++ v9)).size ≤ 9223372036854775807)).bind fun _ =>
   j7 (((v3 ++ (⟨#[32]⟩ : ByteArray)) ++ v5) ++ ((⟨#[32]⟩ : ByteArray) ++ v9)))
   (j7 ((v3 ++ (⟨#[32]⟩ : ByteArray)) ++ v5)))
def A1 (N : Nat) (p0 : List Ab) (p1 : Ab) (j1 : Unit → Option Int) : Nat → Int → Option Int
 | 0, _ => none
 | n1 + 1, v1 =>
  AK ((decide (v1 < (p0.length : Int))))
   ((Bv p0 v1).bind fun v4 =>
   AK (((p1.ff == v4.ff) && ((p1.fh == v4.fh) && ((p1.fj == v4.fj) && true))))
    (some v1)
    (A1 N p0 p1 j1 n1 (wI .i64 (v1 + 1))))
   (j1 ())
def BO (N : Nat) (p0 : List Ab) (p1 : Ab) : Option Int :=
 A1 N p0 p1 (fun (_ : Unit) =>
  some ((-1))) N 0
def Bw (N : Nat) (p0 : List Ab) (p1 : Ab) : Option Bool :=
 (BO N p0 p1).bind fun v1 =>
 some ((decide (0 ≤ v1)))
def DX (N : Nat) (p0 : List Ab) (j4 : Unit → Option Int) : Nat → Int → Option Int
 | 0, _ => none
 | n4 + 1, v4 =>
  AK ((decide (v4 < (p0.length : Int))))
   ((Bv p0 v4).bind fun v7 =>
   (FQ N v7).bind fun v8 =>
   Ba (fun (v9 : Bool) =>
    AK v9
     (some 1)
     (DX N p0 j4 n4 (wI .i64 (v4 + 1))))
   fun j9 =>
   AK ((v8.2 != 0))
    (j9 true)
    (AK ((v7.ff == 4))
     (j9 true)
     ((DD ((0 : Int) ≤ v4 ∧ 0 ≤ (v4).toNat ∧ (v4).toNat ≤ p0.length)).bind fun _ =>
     (Bw N (((p0.drop 0).take ((v4).toNat - 0))) v7).bind fun v13 =>
     j9 v13)))
   (j4 ())
def Gk (N : Nat) (p0 : List Ab) : Option Int :=
 Ba (fun (v1 : Bool) =>
  AK v1
   (some 6)
   (DX N p0 (fun (_ : Unit) =>
    some 0) N 0))
 fun j1 =>
 AK ((decide ((p0.length : Int) < 1)))
  (j1 true)
  (j1 (decide (5 < (p0.length : Int))))
def DB (N : Nat) (p0 : Aa) (p2 : List Ab) (j1 : Ac → Option (Ac × Bool)) : Nat → ((List Int) × (List Int) × (List Int) × Int) → Option (Ac × Bool)
 | 0, _ => none
 | n1 + 1, v1 =>
  AK ((decide (v1.2.2.2 < (p2.length : Int))))
   ((Bv p2 v1.2.2.2).bind fun v4 =>
   (Fx N p0 ((Ac.mk v1.1 v1.2.1 v1.2.2.1)) v4).bind fun v5 =>
   AK ((v5.2 != 0))
    (some ((Ac.mk (([] : List Int)) (([] : List Int)) (([] : List Int))), false))
    ((EX N p0 v5.1).bind fun v7 =>
    Ba (fun (v8 : Bool) =>
     AK v8
      (some ((Ac.mk (([] : List Int)) (([] : List Int)) (([] : List Int))), false))
      (DB N p0 p2 j1 n1 (v5.1.fe, v5.1.fa, v5.1.fc, (wI .i64 (v1.2.2.2 + 1)))))
    fun j8 =>
    AK ((v7.2 != 0))
     (j8 true)
     (j8 (!v7.1))))
   (j1 (Ac.mk v1.1 v1.2.1 v1.2.2.1))
def Cv (N : Nat) (p0 : Aa) (p1 : Ac) (p2 : List Ab) : Option (Ac × Bool) :=
 DB N p0 p2 (fun (v2 : Ac) =>
  some (v2, true)) N (p1.fe, p1.fa, p1.fc, 0)
def AZ (_ : Nat) (p0 : List Ab) : Option ((List Ab)) :=
 (DD ((([] : List Ab)).length + p0.length ≤ Dl)).bind fun _ =>
 some ((([] : List Ab)) ++ p0)
def Fc (_ : Nat) (p0 : Int) : Option Bool :=
 some ((p0 != p0))
def EG (N : Nat) (p0 : Int) (p1 : Int) : Option Int :=
 (Fc N p0).bind fun v1 =>
 (Fc N p1).bind fun v2 =>
 AK v1
  (AK v2
   (some 0)
   (some ((-1))))
  (AK v2
   (some 1)
   (AK ((decide (p0 < p1)))
    (some ((-1)))
    (AK ((decide (p1 < p0)))
     (some 1)
     (some 0))))
def BX (N : Nat) (p0 : List Int) (p1 : List Int) (j1 : Unit → Option Int) : Nat → Int → Option Int
 | 0, _ => none
 | n1 + 1, v1 =>
  AK ((decide (v1 < (p0.length : Int))))
   ((Bv p0 v1).bind fun v4 =>
   AK ((decide ((p1.length : Int) ≤ v1)))
    (some 1)
    ((Bv p1 v1).bind fun v6 =>
    (EG N v4 v6).bind fun v7 =>
    AK ((v7 != 0))
     (some v7)
     (BX N p0 p1 j1 n1 (wI .i64 (v1 + 1)))))
   (j1 ())
def Ck (N : Nat) (p0 : List Int) (p1 : List Int) : Option Int :=
 BX N p0 p1 (fun (_ : Unit) =>
  AK ((decide ((p0.length : Int) < (p1.length : Int))))
   (some ((-1)))
   (some 0)) N 0
def Eb (_ : Nat) (p0 : Int) : Option Bool :=
 some ((p0 != p0))
def Dq (N : Nat) (p0 : Int) (p1 : Int) : Option Int :=
 (Eb N p0).bind fun v1 =>
 (Eb N p1).bind fun v2 =>
 AK v1
  (AK v2
   (some 0)
   (some ((-1))))
  (AK v2
   (some 1)
   (AK ((decide (p0 < p1)))
    (some ((-1)))
    (AK ((decide (p1 < p0)))
     (some 1)
     (some 0))))
def Bh (N : Nat) (p0 : List Int) (p1 : List Int) (j1 : Unit → Option Int) : Nat → Int → Option Int
 | 0, _ => none
 | n1 + 1, v1 =>
  AK ((decide (v1 < (p0.length : Int))))
   ((Bv p0 v1).bind fun v4 =>
   AK ((decide ((p1.length : Int) ≤ v1)))
    (some 1)
    ((Bv p1 v1).bind fun v6 =>
    (Dq N v4 v6).bind fun v7 =>
    AK ((v7 != 0))
     (some v7)
     (Bh N p0 p1 j1 n1 (wI .i64 (v1 + 1)))))
   (j1 ())
def BP (N : Nat) (p0 : List Int) (p1 : List Int) : Option Int :=
 Bh N p0 p1 (fun (_ : Unit) =>
  AK ((decide ((p0.length : Int) < (p1.length : Int))))
   (some ((-1)))
   (some 0)) N 0
def Ey (N : Nat) (p0 : List Int) (j1 : Unit → Option Int) : Nat → Int → Option Int
 | 0, _ => none
 | n1 + 1, v1 =>
  AK ((decide (v1 < (p0.length : Int))))
   ((Bv p0 v1).bind fun v4 =>
   AK ((v4 != 0))
    (some v4)
    (Ey N p0 j1 n1 (wI .i64 (v1 + 1))))
   (j1 ())
def Gp (N : Nat) (p0 : List Int) : Option Int :=
 Ey N p0 (fun (_ : Unit) =>
  some 0) N 0
def E3 (N : Nat) (p0 : Ac) (p1 : Ac) : Option Int :=
 (Ck N p0.fe p1.fe).bind fun v1 =>
 (Ck N p0.fa p1.fa).bind fun v2 =>
 (BP N p0.fc p1.fc).bind fun v3 =>
 (Gp N (([v1, v2, v3] : List Int))).bind fun v4 =>
 some v4
def FN (N : Nat) (p0 : List Ab) (p1 : List Int) (p2 : List Int) (p3 : List Int) (p4 : List Au) (p5 : List Int) (p6 : List Int) (p7 : List Int) (p8 : List Int) (p9 : List Int) (p10 : List Int) (p11 : Option (List Ab)) : Option (Bool × (Option (List Ab))) :=
 (Cv N ((Aa.mk p1 p2 p3 p4)) ((Ac.mk p5 p6 p7)) p0).bind fun v1 =>
 Ba (fun (v2 : Bool) =>
  AK v2
   (some (false, (some p0)))
   (some (true, p11)))
 fun j2 =>
 AK ((!v1.2))
  (j2 true)
  ((E3 N v1.1 ((Ac.mk p8 p9 p10))).bind fun v4 =>
  j2 (v4 != 0))
def BI (_ : Nat) (p0 : List Ab) (p1 : Int) (p2 : Int) : Option (Nat × (List Ab)) :=
 (DD ((0 : Int) ≤ p1 ∧ (p1).toNat ≤ (p2).toNat ∧ 0 ≤ p2 ∧ (p2).toNat ≤ ((p0.length : Int)).toNat ∧ 0 ≤ (p0.length : Int) ∧ ((p0.length : Int)).toNat ≤ p0.length)).bind fun _ =>
 AK ((p1 == p2))
  (some (p0.length, p0))
  ((DD ((0 : Int) ≤ p1 ∧ 0 ≤ (p1).toNat ∧ (p1).toNat ≤ p0.length)).bind fun _ =>
  (DD ((0 : Int) ≤ p2 ∧ (p2).toNat ≤ p0.length ∧ p0.length ≤ p0.length)).bind fun _ =>
  (DD ((p1).toNat + (((p0.drop ((p2).toNat)).take ((p0.length - (p2).toNat)))).length ≤ p0.length)).bind fun _ =>
  (DD ((0 : Int) ≤ (((((p1).toNat + (((p0.drop ((p2).toNat)).take ((p0.length - (p2).toNat)))).length)) : Nat) : Int) ∧ (0 : Int) ≤ (p0.length : Int) ∧ ((((((p1).toNat + (((p0.drop ((p2).toNat)).take ((p0.length - (p2).toNat)))).length)) : Nat) : Int)).toNat ≤ ((p0.length : Int)).toNat ∧ ((p0.length : Int)).toNat ≤ (HF p0 (0 + ((p1).toNat)) (((p0.drop ((p2).toNat)).take ((p0.length - (p2).toNat))))).length)).bind fun _ =>
  some (((p1).toNat + (((p0.drop ((p2).toNat)).take ((p0.length - (p2).toNat)))).length), HF (HF p0 (0 + ((p1).toNat)) (((p0.drop ((p2).toNat)).take ((p0.length - (p2).toNat))))) (((((((p1).toNat + (((p0.drop ((p2).toNat)).take ((p0.length - (p2).toNat)))).length)) : Nat) : Int)).toNat) (List.replicate ((((p0.length : Int)).toNat - ((((((p1).toNat + (((p0.drop ((p2).toNat)).take ((p0.length - (p2).toNat)))).length)) : Nat) : Int)).toNat)) ((Ab.mk 0 0 0)))))
def De (N : Nat) (p0 : List Ab) (p1 : List Ab) (p2 : List Int) (p3 : List Int) (p4 : List Int) (p5 : List Au) (p6 : List Int) (p7 : List Int) (p8 : List Int) (p9 : List Int) (p10 : List Int) (p11 : List Int) (rc : (List Ab) → (List Ab) → (List Int) → (List Int) → (List Int) → (List Au) → (List Int) → (List Int) → (List Int) → (List Int) → (List Int) → (List Int) → (Option (List Ab)) → Option (Bool × (Option (List Ab)))) (j3 : ((Option (List Ab))) → Option (Bool × (Option (List Ab)))) : Nat → ((Option (List Ab)) × Int) → Option (Bool × (Option (List Ab)))
 | 0, _ => none
 | n3 + 1, v3 =>
  AK ((decide (v3.2 < (p1.length : Int))))
   ((Bv p1 v3.2).bind fun v6 =>
   (AZ N p0).bind fun v7 =>
   (DD (v7.length + (([v6] : List Ab)).length ≤ Dl)).bind fun _ =>
   (AZ N p1).bind fun v9 =>
   (BI N v9 v3.2 ((wI .i64 (v3.2 + 1)))).bind fun v10 =>
   (DD (v10.1 ≤ v10.2.length)).bind fun _ =>
   (rc ((v7 ++ (([v6] : List Ab)))) ((v10.2.take v10.1)) p2 p3 p4 p5 p6 p7 p8 p9 p10 p11 v3.1).bind fun v13 =>
   AK ((!v13.1))
    (some (false, v13.2))
    (De N p0 p1 p2 p3 p4 p5 p6 p7 p8 p9 p10 p11 rc j3 n3 (v13.2, (wI .i64 (v3.2 + 1)))))
   (j3 v3.1)
def E2 (N : Nat) (rc : (List Ab) → (List Ab) → (List Int) → (List Int) → (List Int) → (List Au) → (List Int) → (List Int) → (List Int) → (List Int) → (List Int) → (List Int) → (Option (List Ab)) → Option (Bool × (Option (List Ab)))) (p0 : List Ab) (p1 : List Ab) (p2 : List Int) (p3 : List Int) (p4 : List Int) (p5 : List Au) (p6 : List Int) (p7 : List Int) (p8 : List Int) (p9 : List Int) (p10 : List Int) (p11 : List Int) (p12 : Option (List Ab)) : Option (Bool × (Option (List Ab))) :=
 AK (((p1.length : Int) == 0))
  ((FN N p0 p2 p3 p4 p5 p6 p7 p8 p9 p10 p11 p12).bind fun v2 =>
  some (v2.1, v2.2))
  (De N p0 p1 p2 p3 p4 p5 p6 p7 p8 p9 p10 p11 rc (fun (v4 : (Option (List Ab))) =>
   some (true, v4)) N (p12, 0))
def CV (N : Nat) : Nat → (List Ab) → (List Ab) → (List Int) → (List Int) → (List Int) → (List Au) → (List Int) → (List Int) → (List Int) → (List Int) → (List Int) → (List Int) → (Option (List Ab)) → Option (Bool × (Option (List Ab)))
 | 0, _, _, _, _, _, _, _, _, _, _, _, _, _ => none
 | k + 1, p0, p1, p2, p3, p4, p5, p6, p7, p8, p9, p10, p11, p12 => E2 N (CV N k) p0 p1 p2 p3 p4 p5 p6 p7 p8 p9 p10 p11 p12
def GW (N : Nat) (p0 : List Ab) (p1 : List Ab) (p2 : List Int) (p3 : List Int) (p4 : List Int) (p5 : List Au) (p6 : List Int) (p7 : List Int) (p8 : List Int) (p9 : List Int) (p10 : List Int) (p11 : List Int) (p12 : Option (List Ab)) : Option (Bool × (Option (List Ab))) := CV N N p0 p1 p2 p3 p4 p5 p6 p7 p8 p9 p10 p11 p12
def F2 (N : Nat) (p0 : Aa) (p1 : Ac) (p2 : List Ab) : Option ((List Ab) × Int) :=
 (EX N p0 p1).bind fun v1 =>
 AK ((v1.2 != 0))
  (some (([] : List Ab), v1.2))
  ((Gk N p2).bind fun v3 =>
  AK ((v3 != 0))
   (some (([] : List Ab), v3))
   ((Cv N p0 p1 p2).bind fun v5 =>
   Ba (fun (v6 : Bool) =>
    AK v6
     ((AZ N p2).bind fun v9 =>
     some (v9, 0))
     ((GW N (([] : List Ab)) p2 p0.fb p0.fi p0.fo p0.fd p1.fe p1.fa p1.fc v5.1.fe v5.1.fa v5.1.fc ((none : Option (List Ab)))).bind fun v10 =>
     (DD (V0 v10.2 = true)).bind fun _ =>
     AK v10.2.isNone
      (some (([] : List Ab), 15))
      (some ((v10.2.getD []), 0))))
   fun j6 =>
   AK ((!v1.1))
    (j6 true)
    (j6 (!v5.2))))
def Ex (N : Nat) (p0 : Aa) (p1 : Ac) (p2 : List Ab) : Option (Bool × Int) :=
 (ER N p0 p1).bind fun v1 =>
 AK ((v1 != 0))
  (some (false, v1))
  ((F2 N p0 p1 p2).bind fun v3 =>
  some ((v3.2 == 15), 0))
def E5 (N : Nat) (p0 : Aa) (v5 : (List Int) × (List Int) × (List Int) × (List Ab) × (List (List Ab))) (j8 : Int → Option ((List (List Ab)) × Int)) : Nat → Int → Option ((List (List Ab)) × Int)
 | 0, _ => none
 | n8 + 1, v8 =>
  AK ((decide (1 < v8)))
   ((DD ((0 : Int) ≤ v8 ∧ 0 ≤ (v8).toNat ∧ (v8).toNat ≤ v5.2.2.2.1.length)).bind fun _ =>
   (Ex N p0 ((Ac.mk v5.1 v5.2.1 v5.2.2.1)) (((v5.2.2.2.1.drop 0).take ((v8).toNat - 0)))).bind fun v12 =>
   AK v12.1
    (j8 v8)
    (E5 N p0 v5 j8 n8 (wI .i64 (v8 - 1))))
   (j8 v8)
def Fa (N : Nat) (p0 : Aa) (j5 : ((List (List Ab))) → Option ((List (List Ab)) × Int)) : Nat → ((List Int) × (List Int) × (List Int) × (List Ab) × (List (List Ab))) → Option ((List (List Ab)) × Int)
 | 0, _ => none
 | n5 + 1, v5 =>
  AK ((decide (0 < (v5.2.2.2.1.length : Int))))
   (E5 N p0 v5 (fun (v9 : Int) =>
    (DD ((0 : Int) ≤ v9 ∧ 0 ≤ (v9).toNat ∧ (v9).toNat ≤ v5.2.2.2.1.length)).bind fun _ =>
    (AZ N (((v5.2.2.2.1.drop 0).take ((v9).toNat - 0)))).bind fun v15 =>
    (DD (v5.2.2.2.2.length + (([v15] : List (List Ab))).length ≤ Dl)).bind fun _ =>
    (DD ((0 : Int) ≤ v9 ∧ 0 ≤ (v9).toNat ∧ (v9).toNat ≤ v5.2.2.2.1.length)).bind fun _ =>
    (Cv N p0 ((Ac.mk v5.1 v5.2.1 v5.2.2.1)) (((v5.2.2.2.1.drop 0).take ((v9).toNat - 0)))).bind fun v18 =>
    (DD ((0 : Int) ≤ v9 ∧ (v9).toNat ≤ v5.2.2.2.1.length ∧ v5.2.2.2.1.length ≤ v5.2.2.2.1.length)).bind fun _ =>
    Fa N p0 j5 n5 (v18.1.fe, v18.1.fa, v18.1.fc, ((v5.2.2.2.1.drop (v9).toNat).take (v5.2.2.2.1.length - (v9).toNat)), v5.2.2.2.2 ++ (([v15] : List (List Ab))))) N (NX 5 ((v5.2.2.2.1.length : Int))))
   (j5 v5.2.2.2.2)
def GQ (N : Nat) (p0 : Aa) (p1 : List Ab) : Option ((List (List Ab)) × Int) :=
 (Fl N p0).bind fun v1 =>
 AK ((v1.2 != 0))
  (some (([] : List (List Ab)), v1.2))
  ((Gi N p0 p1).bind fun v3 =>
  AK ((!v3))
   (some (([] : List (List Ab)), 13))
   (Fa N p0 (fun (v6 : (List (List Ab))) =>
    some (v6, 0)) N (v1.1.fe, v1.1.fa, v1.1.fc, p1, ([] : List (List Ab)))))
def B7 (N : Nat) (p0 : List (List Bool)) (p1 : Int) (p2 : Int) (j2 : Unit → Option Bool) : Nat → Int → Option Bool
 | 0, _ => none
 | n2 + 1, v2 =>
  AK ((decide (v2 < p1)))
   ((Bv p0 v2).bind fun v5 =>
   AK (((v5.length : Int) != p2))
    (some false)
    (B7 N p0 p1 p2 j2 n2 (wI .i64 (v2 + 1))))
   (j2 ())
def C2 (N : Nat) (p0 : List (List Bool)) (p1 : Int) (p2 : Int) : Option Bool :=
 AK (((p0.length : Int) != p1))
  (some false)
  (B7 N p0 p1 p2 (fun (_ : Unit) =>
   some true) N 0)
def BF (N : Nat) (p1 : Au) (j22 : Unit → Option Int) : Nat → Int → Option Int
 | 0, _ => none
 | n22 + 1, v22 =>
  AK ((decide (v22 < (p1.fm.length : Int))))
   ((Bv p1.fm v22).bind fun v25 =>
   (Bv v25 v22).bind fun v26 =>
   AK ((!v26))
    (some 1)
    (BF N p1 j22 n22 (wI .i64 (v22 + 1))))
   (j22 ())
def Ed (N : Nat) (p0 : Aa) (p1 : Au) : Option Int :=
 Ba (fun (v1 : Bool) =>
  AK v1
   (some 1)
   (Ba (fun (v7 : Bool) =>
    AK v7
     (some 4)
     ((Bv p0.fb p1.fg).bind fun v12 =>
     (Bv p0.fb p1.fk).bind fun v13 =>
     (C2 N p1.fq v12 v13).bind fun v14 =>
     AK ((!v14))
      (some 6)
      (AK ((p1.ff != 4))
       (AK (((p1.fm.length : Int) != 0))
        (some 6)
        (some 0))
       ((Bv p0.fb p1.fg).bind fun v18 =>
       (Bv p0.fb p1.fg).bind fun v19 =>
       (C2 N p1.fm v18 v19).bind fun v20 =>
       AK ((!v20))
        (some 6)
        (BF N p1 (fun (_ : Unit) =>
         some 0) N 0)))))
   fun j7 =>
   AK ((decide (p1.fg < 0)))
    (j7 true)
    (AK ((decide ((p0.fb.length : Int) ≤ p1.fg)))
     (j7 true)
     (AK ((decide (p1.fk < 0)))
      (j7 true)
      (j7 (decide ((p0.fb.length : Int) ≤ p1.fk)))))))
 fun j1 =>
 AK ((decide (p1.ff < 1)))
  (j1 true)
  (AK ((decide (4 < p1.ff)))
   (j1 true)
   (AK p1.fp
    ((AX N p1).bind fun v5 =>
    j1 v5)
    (j1 false)))
def A8 (N : Nat) (p0 : Aa) (j7 : Unit → Option Int) : Nat → Int → Option Int
 | 0, _ => none
 | n7 + 1, v7 =>
  AK ((decide (v7 < (p0.fb.length : Int))))
   ((Bv p0.fb v7).bind fun v10 =>
   Ba (fun (v11 : Bool) =>
    AK v11
     (some 7)
     (A8 N p0 j7 n7 (wI .i64 (v7 + 1))))
   fun j11 =>
   AK ((decide (v10 < 1)))
    (j11 true)
    (AK ((decide (6 < v10)))
     (j11 true)
     ((Bv p0.fi v7).bind fun v14 =>
     AK ((decide (v14 < 0)))
      (j11 true)
      ((Bv p0.fi v7).bind fun v16 =>
      AK ((decide (v10 ≤ v16)))
       (j11 true)
       ((Bv p0.fo v7).bind fun v18 =>
       AK ((decide (v18 < 0)))
        (j11 true)
        ((Bv p0.fo v7).bind fun v20 =>
        j11 (decide (v10 ≤ v20))))))))
   (j7 ())
def A4 (N : Nat) (p0 : Aa) (j22 : Unit → Option Int) : Nat → Int → Option Int
 | 0, _ => none
 | n22 + 1, v22 =>
  AK ((decide (v22 < (p0.fd.length : Int))))
   ((Bv p0.fd v22).bind fun v25 =>
   (Ed N p0 v25).bind fun v26 =>
   AK ((v26 != 0))
    (some v26)
    (A4 N p0 j22 n22 (wI .i64 (v22 + 1))))
   (j22 ())
def BA (N : Nat) (p0 : Aa) : Option Int :=
 Ba (fun (v1 : Bool) =>
  AK v1
   (some 3)
   (Ba (fun (v4 : Bool) =>
    AK v4
     (some 6)
     (A8 N p0 (fun (_ : Unit) =>
      A4 N p0 (fun (_ : Unit) =>
       some 0) N 0) N 0))
   fun j4 =>
   AK (((p0.fi.length : Int) != (p0.fb.length : Int)))
    (j4 true)
    (j4 ((p0.fo.length : Int) != (p0.fb.length : Int)))))
 fun j1 =>
 AK ((decide (6 < (p0.fb.length : Int))))
  (j1 true)
  (j1 (decide (12 < (p0.fd.length : Int))))
def BN (N : Nat) (p0 : Aa) (j3 : ((List Int) × (List Int)) → Option (Ac × Int)) : Nat → ((List Int) × (List Int) × Int) → Option (Ac × Int)
 | 0, _ => none
 | n3 + 1, v3 =>
  AK ((decide (v3.2.2 < (p0.fb.length : Int))))
   ((Bv p0.fi v3.2.2).bind fun v6 =>
   (DD (v3.1.length + (([v6] : List Int)).length ≤ Dl)).bind fun _ =>
   (DD (v3.2.1.length + (([(-1)] : List Int)).length ≤ Dl)).bind fun _ =>
   BN N p0 j3 n3 (v3.1 ++ (([v6] : List Int)), v3.2.1 ++ (([(-1)] : List Int)), (wI .i64 (v3.2.2 + 1))))
   (j3 (v3.1, v3.2.1))
def A7 (N : Nat) (p0 : Aa) (j9 : ((List Int)) → Option (Ac × Int)) : Nat → ((List Int) × Int) → Option (Ac × Int)
 | 0, _ => none
 | n9 + 1, v9 =>
  AK ((decide (v9.2 < (p0.fd.length : Int))))
   (Ba (fun (v12 : Int) =>
    (DD (v9.1.length + (([v12] : List Int)).length ≤ Dl)).bind fun _ =>
    A7 N p0 j9 n9 (v9.1 ++ (([v12] : List Int)), (wI .i64 (v9.2 + 1))))
   fun j12 =>
   (Bv p0.fd v9.2).bind fun v13 =>
   (AX N v13).bind fun v14 =>
   AK v14
    ((Bv p0.fd v9.2).bind fun v16 =>
    (Bv p0.fi v16.fg).bind fun v17 =>
    (DD (0 ≤ v17)).bind fun _ =>
    j12 (Dp .u8 1 v17))
    (j12 0))
   (j9 v9.1)
def CM (N : Nat) (p0 : Aa) : Option (Ac × Int) :=
 (BA N p0).bind fun v1 =>
 AK ((v1 != 0))
  (some ((Ac.mk (([] : List Int)) (([] : List Int)) (([] : List Int))), v1))
  (BN N p0 (fun (v4 : (List Int) × (List Int)) =>
   A7 N p0 (fun (v10 : (List Int)) =>
    some ((Ac.mk v4.1 v4.2 v10), 0)) N (([] : List Int), 0)) N (([] : List Int), ([] : List Int), 0))
def Eh (N : Nat) (p0 : Aa) (p1 : List (List Ab)) (j5 : ((List Ac)) → Option ((List Ac) × Int)) : Nat → (Ac × (List Ac) × Int) → Option ((List Ac) × Int)
 | 0, _ => none
 | n5 + 1, v5 =>
  AK ((decide (v5.2.2 < (p1.length : Int))))
   ((Bv p1 v5.2.2).bind fun v8 =>
   (Ex N p0 v5.1 v8).bind fun v9 =>
   Ba (fun (v10 : Bool) =>
    AK v10
     (some (([] : List Ac), 13))
     ((Cv N p0 v5.1 v8).bind fun v13 =>
     (DD (v5.2.1.length + (([v13.1] : List Ac)).length ≤ Dl)).bind fun _ =>
     Eh N p0 p1 j5 n5 (v13.1, v5.2.1 ++ (([v13.1] : List Ac)), (wI .i64 (v5.2.2 + 1)))))
   fun j10 =>
   AK ((v9.2 != 0))
    (j10 true)
    (j10 (!v9.1)))
   (j5 v5.2.1)
def Fd (N : Nat) (p0 : Aa) (p1 : List (List Ab)) : Option ((List Ac) × Int) :=
 (Cy N p0).bind fun v1 =>
 AK ((v1 != 0))
  (some (([] : List Ac), v1))
  ((Fl N p0).bind fun v3 =>
  AK ((v3.2 != 0))
   (some (([] : List Ac), v3.2))
   (Eh N p0 p1 (fun (v6 : (List Ac)) =>
    some (v6, 0)) N (v3.1, ([v3.1] : List Ac), 0)))
def Cq (N : Nat) (p0 : List Ab) (p1 : List Ab) (j2 : Unit → Option Bool) : Nat → Int → Option Bool
 | 0, _ => none
 | n2 + 1, v2 =>
  AK ((decide (v2 < (p0.length : Int))))
   ((Bv p0 v2).bind fun v5 =>
   (Bv p1 v2).bind fun v6 =>
   AK ((!((v5.ff == v6.ff) && ((v5.fh == v6.fh) && ((v5.fj == v6.fj) && true)))))
    (some false)
    (Cq N p0 p1 j2 n2 (wI .i64 (v2 + 1))))
   (j2 ())
def Cw (N : Nat) (p0 : List Ab) (p1 : List Ab) : Option Bool :=
 AK (((p0.length : Int) != (p1.length : Int)))
  (some false)
  (Cq N p0 p1 (fun (_ : Unit) =>
   some true) N 0)
def Co (N : Nat) (p0 : List (List Ab)) (p1 : List (List Ab)) (j2 : Unit → Option Bool) : Nat → Int → Option Bool
 | 0, _ => none
 | n2 + 1, v2 =>
  AK ((decide (v2 < (p0.length : Int))))
   ((Bv p0 v2).bind fun v5 =>
   (Bv p1 v2).bind fun v6 =>
   (Cw N v5 v6).bind fun v7 =>
   AK ((!v7))
    (some false)
    (Co N p0 p1 j2 n2 (wI .i64 (v2 + 1))))
   (j2 ())
def CX (N : Nat) (p0 : List (List Ab)) (p1 : List (List Ab)) : Option Bool :=
 AK (((p0.length : Int) != (p1.length : Int)))
  (some false)
  (Co N p0 p1 (fun (_ : Unit) =>
   some true) N 0)
def EE (N : Nat) (p0 : Aa) (p1 : List (List Ab)) : Option Bool :=
 (Fd N p0 p1).bind fun v1 =>
 AK ((v1.2 != 0))
  (some false)
  ((Bv v1.1 0).bind fun v3 =>
  (EX N p0 v3).bind fun v4 =>
  Ba (fun (v5 : Bool) =>
   some v5)
  fun j5 =>
  AK ((v4.2 == 0))
   (AK v4.1
    ((Bv v1.1 ((wI .i64 ((v1.1.length : Int) - 1)))).bind fun v8 =>
    (zFS N p0 v8).bind fun v9 =>
    j5 v9)
    (j5 false))
   (j5 false))
def Fk (N : Nat) (v4 : List Ab) (j5 : Int → Option Int) : Nat → (Int × Int) → Option Int
 | 0, _ => none
 | n5 + 1, v5 =>
  AK ((decide (v5.2 < (v4.length : Int))))
   (Fk N v4 j5 n5 ((NX 1000000000000000 ((wI .i64 (v5.1 * (NX ((wI .i64 (v5.2 + 1))) 1000))))), (wI .i64 (v5.2 + 1))))
   (j5 v5.1)
def Fm (N : Nat) (p0 : List (List Ab)) (j1 : Int → Option Int) : Nat → (Int × Int) → Option Int
 | 0, _ => none
 | n1 + 1, v1 =>
  AK ((decide (v1.2 < (p0.length : Int))))
   ((Bv p0 v1.2).bind fun v4 =>
   Fk N v4 (fun (v6 : Int) =>
    Fm N p0 j1 n1 (v6, (wI .i64 (v1.2 + 1)))) N (v1.1, 0))
   (j1 v1.1)
def HJ (N : Nat) (p0 : List (List Ab)) : Option Int :=
 Fm N p0 (fun (v2 : Int) =>
  some v2) N (1, 0)
def Ea (N : Nat) : Option Bool :=
 (Fq N).bind fun v1 =>
 (GQ N v1.1 v1.2).bind fun v2 =>
 (CM N v1.1).bind fun v3 =>
 (F2 N v1.1 v3.1 v1.2).bind fun v4 =>
 (DD ((0 : Int) ≤ 2 ∧ 0 ≤ (2 : Int).toNat ∧ (2 : Int).toNat ≤ v1.2.length)).bind fun _ =>
 (Ex N v1.1 v3.1 (((v1.2.drop 0).take ((2 : Int).toNat - 0)))).bind fun v6 =>
 (Fd N v1.1 v2.1).bind fun v7 =>
 Ba (fun (v8 : Bool) =>
  some v8)
 fun j8 =>
 AK ((v2.2 == 0))
  ((DD ((0 : Int) ≤ 2 ∧ 0 ≤ (2 : Int).toNat ∧ (2 : Int).toNat ≤ v1.2.length)).bind fun _ =>
  (DD ((0 : Int) ≤ 2 ∧ (2 : Int).toNat ≤ v1.2.length ∧ v1.2.length ≤ v1.2.length)).bind fun _ =>
  (CX N v2.1 (([((v1.2.drop 0).take ((2 : Int).toNat - 0)), ((v1.2.drop (2 : Int).toNat).take (v1.2.length - (2 : Int).toNat))] : List (List Ab)))).bind fun v12 =>
  AK v12
   (AK ((v4.2 == 0))
    ((Bv v1.2 0).bind fun v15 =>
    (Bv v1.2 2).bind fun v16 =>
    (Bv v1.2 3).bind fun v17 =>
    (Bv v1.2 1).bind fun v18 =>
    (Cw N v4.1 (([v15, v16, v17, v18] : List Ab))).bind fun v19 =>
    AK v19
     (AK v6.1
      (AK ((v6.2 == 0))
       (AK ((v7.2 == 0))
        (AK (((v7.1.length : Int) == 3))
         ((EE N v1.1 v2.1).bind fun v25 =>
         AK v25
          ((HJ N v2.1).bind fun v27 =>
          j8 (v27 == 4))
          (j8 false))
         (j8 false))
        (j8 false))
       (j8 false))
      (j8 false))
     (j8 false))
    (j8 false))
   (j8 false))
  (j8 false)
def BB (_ : Nat) (p0 : Ac) (p1 : Int) : Option Int :=
 (Bv p0.fe p1).bind fun v1 =>
 (DD (0 ≤ v1)).bind fun _ =>
 Ba (fun (v3 : Int) =>
  some v3)
 fun j3 =>
 (Bv p0.fa p1).bind fun v4 =>
 AK ((decide (0 ≤ v4)))
  ((Bv p0.fa p1).bind fun v6 =>
  (DD (0 ≤ v6)).bind fun _ =>
  j3 (NI .u8 ((Dp .u8 1 v1)) ((Dp .u8 1 v6))))
  (j3 (Dp .u8 1 v1))
def BM (N : Nat) (p0 : Aa) (p1 : Ac) (j7 : Unit → Option Int) : Nat → Int → Option Int
 | 0, _ => none
 | n7 + 1, v7 =>
  AK ((decide (v7 < (p0.fb.length : Int))))
   (Ba (fun (v10 : Bool) =>
    AK v10
     (some 7)
     ((Bv p1.fe v7).bind fun v21 =>
     (Bv p1.fa v7).bind fun v22 =>
     AK ((v21 == v22))
      (some 1)
      (BM N p0 p1 j7 n7 (wI .i64 (v7 + 1)))))
   fun j10 =>
   (Bv p1.fe v7).bind fun v11 =>
   AK ((decide (v11 < 0)))
    (j10 true)
    ((Bv p1.fe v7).bind fun v13 =>
    (Bv p0.fb v7).bind fun v14 =>
    AK ((decide (v14 ≤ v13)))
     (j10 true)
     ((Bv p1.fa v7).bind fun v16 =>
     AK ((decide (v16 < (-1))))
      (j10 true)
      ((Bv p1.fa v7).bind fun v18 =>
      (Bv p0.fb v7).bind fun v19 =>
      j10 (decide (v19 ≤ v18))))))
   (j7 ())
def BC (N : Nat) (p0 : Aa) (p1 : Ac) (j24 : Unit → Option Int) : Nat → Int → Option Int
 | 0, _ => none
 | n24 + 1, v24 =>
  AK ((decide (v24 < (p0.fd.length : Int))))
   ((Bv p0.fd v24).bind fun v27 =>
   (Bv p0.fb v27.fg).bind fun v28 =>
   (DD (0 ≤ v28)).bind fun _ =>
   Ba (fun (v30 : Bool) =>
    AK v30
     (some 1)
     (BC N p0 p1 j24 n24 (wI .i64 (v24 + 1))))
   fun j30 =>
   (AX N v27).bind fun v31 =>
   AK ((!v31))
    ((Bv p1.fc v24).bind fun v33 =>
    AK ((v33 != 0))
     (j30 true)
     ((AX N v27).bind fun v35 =>
     AK v35
      ((Bv p1.fc v24).bind fun v37 =>
      AK (((CR .u8 v37 ((wI .u8 ((Dp .u8 1 v28) - 1)))) != 0))
       (j30 true)
       ((BB N p1 v27.fg).bind fun v39 =>
       (Bv p1.fc v24).bind fun v40 =>
       j30 ((CR .u8 v39 v40) != 0)))
      (j30 false)))
    ((AX N v27).bind fun v41 =>
    AK v41
     ((Bv p1.fc v24).bind fun v43 =>
     AK (((CR .u8 v43 ((wI .u8 ((Dp .u8 1 v28) - 1)))) != 0))
      (j30 true)
      ((BB N p1 v27.fg).bind fun v45 =>
      (Bv p1.fc v24).bind fun v46 =>
      j30 ((CR .u8 v45 v46) != 0)))
     (j30 false)))
   (j24 ())
def BZ (N : Nat) (p0 : Aa) (p1 : Ac) : Option Int :=
 (BA N p0).bind fun v1 =>
 AK ((v1 != 0))
  (some v1)
  (Ba (fun (v3 : Bool) =>
   AK v3
    (some 6)
    (BM N p0 p1 (fun (_ : Unit) =>
     BC N p0 p1 (fun (_ : Unit) =>
      some 0) N 0) N 0))
  fun j3 =>
  AK (((p1.fe.length : Int) != (p0.fb.length : Int)))
   (j3 true)
   (AK (((p1.fa.length : Int) != (p0.fb.length : Int)))
    (j3 true)
    (j3 ((p1.fc.length : Int) != (p0.fd.length : Int)))))
def C8 (_ : Nat) (p0 : Ab) : Option Bool :=
 Ba (fun (v1 : Bool) =>
  some v1)
 fun j1 =>
 AK ((decide (1 ≤ p0.ff)))
  (AK ((decide (p0.ff ≤ 4)))
   (AK ((decide (0 ≤ p0.fh)))
    (AK ((decide (0 ≤ p0.fj)))
     (AK ((p0.ff == 1))
      (j1 true)
      (j1 (p0.fj == 0)))
     (j1 false))
    (j1 false))
   (j1 false))
  (j1 false)
def B6 (_ : Nat) (p0 : Int) (p1 : Int) : Option Bool :=
 (DD (0 ≤ p1)).bind fun _ =>
 some (((F6 .u8 ((Fi .u8 p0 p1)) 1) == 1))
def BG (N : Nat) (p0 : Aa) (p2 : Ab) (j12 : ((List Int)) → Option (Ac × Bool)) : Nat → ((List Int) × Int) → Option (Ac × Bool)
 | 0, _ => none
 | n12 + 1, v12 =>
  AK ((decide (v12.2 < (p0.fd.length : Int))))
   (Ba (fun (v15 : (List Int)) =>
    BG N p0 p2 j12 n12 (v15, (wI .i64 (v12.2 + 1))))
   fun j15 =>
   Ba (fun (v16 : Bool) =>
    AK v16
     ((Bv v12.1 v12.2).bind fun v22 =>
     (DD (0 ≤ p2.fj)).bind fun _ =>
     (Bv v12.1 v12.2).bind fun _ =>
     j15 (v12.1.set ((v12.2).toNat) ((NI .u8 v22 ((Dp .u8 1 p2.fj))))))
     (j15 v12.1))
   fun j16 =>
   (Bv p0.fd v12.2).bind fun v17 =>
   AK ((v17.fg == p2.fh))
    ((Bv p0.fd v12.2).bind fun v19 =>
    (AX N v19).bind fun v20 =>
    j16 v20)
    (j16 false))
   (j12 v12.1)
def Bn (N : Nat) (p0 : Aa) (p1 : Ac) (p2 : Ab) (v32 : Au) (v35 : Int) (j38 : Unit → Option (Ac × Bool)) : Nat → Int → Option (Ac × Bool)
 | 0, _ => none
 | n38 + 1, v38 =>
  (Bv p0.fb v32.fg).bind fun v40 =>
  AK ((decide (v38 < v40)))
   (Ba (fun (v42 : Bool) =>
    Ba (fun (v47 : Bool) =>
     AK v47
      (some ((Ac.mk (([] : List Int)) (([] : List Int)) (([] : List Int))), false))
      (Bn N p0 p1 p2 v32 v35 j38 n38 (wI .i64 (v38 + 1))))
    fun j47 =>
    AK v42
     (AK ((v32.ff == 4))
      ((Bv v32.fm v38).bind fun v50 =>
      (Bv p1.fe v32.fg).bind fun v51 =>
      (Bv v50 v51).bind fun v52 =>
      j47 (!v52))
      (j47 false))
     (j47 false))
   fun j42 =>
   (Bv p1.fc p2.fh).bind fun v43 =>
   (B6 N v43 v38).bind fun v44 =>
   AK v44
    ((B6 N v35 v38).bind fun v46 =>
    j42 (!v46))
    (j42 false))
   (j38 ())
def Di (N : Nat) (p0 : Aa) (p1 : Ac) (p2 : Ab) : Option (Ac × Bool) :=
 (DD ((([] : List Int)).length + p1.fe.length ≤ Dl)).bind fun _ =>
 (DD ((([] : List Int)).length + p1.fa.length ≤ Dl)).bind fun _ =>
 (DD ((([] : List Int)).length + p1.fc.length ≤ Dl)).bind fun _ =>
 Ba (fun (v4 : (List Int) × (List Int) × (List Int)) =>
  some ((Ac.mk v4.1 v4.2.1 v4.2.2), true))
 fun j4 =>
 AK ((p2.ff == 1))
  (Ba (fun (v6 : Bool) =>
   AK v6
    (some ((Ac.mk (([] : List Int)) (([] : List Int)) (([] : List Int))), false))
    ((Bv ((([] : List Int)) ++ p1.fa) p2.fh).bind fun _ =>
    BG N p0 p2 (fun (v13 : (List Int)) =>
     j4 ((([] : List Int)) ++ p1.fe, ((([] : List Int)) ++ p1.fa).set ((p2.fh).toNat) p2.fj, v13)) N ((([] : List Int)) ++ p1.fc, 0)))
  fun j6 =>
  (Bv p1.fa p2.fh).bind fun v7 =>
  AK ((decide (0 ≤ v7)))
   (j6 true)
   ((Bv p1.fe p2.fh).bind fun v9 =>
   j6 (p2.fj == v9)))
  (AK ((p2.ff == 2))
   ((Bv p1.fa p2.fh).bind fun v26 =>
   AK ((decide (v26 < 0)))
    (some ((Ac.mk (([] : List Int)) (([] : List Int)) (([] : List Int))), false))
    ((Bv p1.fa p2.fh).bind fun v28 =>
    (Bv ((([] : List Int)) ++ p1.fe) p2.fh).bind fun _ =>
    (Bv ((([] : List Int)) ++ p1.fa) p2.fh).bind fun _ =>
    j4 (((([] : List Int)) ++ p1.fe).set ((p2.fh).toNat) v28, ((([] : List Int)) ++ p1.fa).set ((p2.fh).toNat) ((-1)), (([] : List Int)) ++ p1.fc)))
   (AK ((p2.ff == 3))
    ((Bv p0.fd p2.fh).bind fun v32 =>
    (AX N v32).bind fun v33 =>
    AK ((!v33))
     (some ((Ac.mk (([] : List Int)) (([] : List Int)) (([] : List Int))), false))
     ((BB N p1 v32.fg).bind fun v35 =>
     (Bv p1.fc p2.fh).bind fun v36 =>
     AK ((v36 == v35))
      (some ((Ac.mk (([] : List Int)) (([] : List Int)) (([] : List Int))), false))
      (Bn N p0 p1 p2 v32 v35 (fun (_ : Unit) =>
       (Bv ((([] : List Int)) ++ p1.fc) p2.fh).bind fun _ =>
       j4 ((([] : List Int)) ++ p1.fe, (([] : List Int)) ++ p1.fa, ((([] : List Int)) ++ p1.fc).set ((p2.fh).toNat) v35)) N 0)))
    ((Bv p1.fa p2.fh).bind fun v55 =>
    AK ((decide (v55 < 0)))
     (some ((Ac.mk (([] : List Int)) (([] : List Int)) (([] : List Int))), false))
     ((Bv ((([] : List Int)) ++ p1.fa) p2.fh).bind fun _ =>
     j4 ((([] : List Int)) ++ p1.fe, ((([] : List Int)) ++ p1.fa).set ((p2.fh).toNat) ((-1)), (([] : List Int)) ++ p1.fc)))))
def Df (N : Nat) (p0 : Aa) (p1 : Ac) (p2 : Ab) : Option (Ac × Int) :=
 (BZ N p0 p1).bind fun v1 =>
 AK ((v1 != 0))
  (some ((Ac.mk (([] : List Int)) (([] : List Int)) (([] : List Int))), v1))
  ((C8 N p2).bind fun v3 =>
  AK ((!v3))
   (some ((Ac.mk (([] : List Int)) (([] : List Int)) (([] : List Int))), 1))
   (Ba (fun (v5 : Bool) =>
    AK v5
     (some ((Ac.mk (([] : List Int)) (([] : List Int)) (([] : List Int))), 4))
     (Ba (fun (v11 : Bool) =>
      AK v11
       (some ((Ac.mk (([] : List Int)) (([] : List Int)) (([] : List Int))), 4))
       ((Di N p0 p1 p2).bind fun v15 =>
       AK ((!v15.2))
        (some ((Ac.mk (([] : List Int)) (([] : List Int)) (([] : List Int))), 11))
        (some (v15.1, 0))))
     fun j11 =>
     AK ((p2.ff == 1))
      ((Bv p0.fb p2.fh).bind fun v13 =>
      j11 (decide (v13 ≤ p2.fj)))
      (j11 false)))
   fun j5 =>
   AK ((p2.ff == 3))
    (AK ((decide ((p0.fd.length : Int) ≤ p2.fh)))
     (j5 true)
     (AK ((p2.ff != 3))
      (j5 (decide ((p0.fb.length : Int) ≤ p2.fh)))
      (j5 false)))
    (AK ((p2.ff != 3))
     (j5 (decide ((p0.fb.length : Int) ≤ p2.fh)))
     (j5 false))))
def DT (_ : Nat) (p0 : Ac) : Option Ac :=
 (DD ((([] : List Int)).length + p0.fe.length ≤ Dl)).bind fun _ =>
 (DD ((([] : List Int)).length + p0.fa.length ≤ Dl)).bind fun _ =>
 (DD ((([] : List Int)).length + p0.fc.length ≤ Dl)).bind fun _ =>
 some ((Ac.mk ((([] : List Int)) ++ p0.fe) ((([] : List Int)) ++ p0.fa) ((([] : List Int)) ++ p0.fc)))
def B9 (N : Nat) (p0 : Ac) (j1 : Int → Option ((List Ac))) : Nat → (Int × Int) → Option ((List Ac))
 | 0, _ => none
 | n1 + 1, v1 =>
  AK ((decide (v1.2 < (p0.fa.length : Int))))
   (Ba (fun (v4 : Int) =>
    B9 N p0 j1 n1 (v4, (wI .i64 (v1.2 + 1))))
   fun j4 =>
   (Bv p0.fa v1.2).bind fun v5 =>
   AK ((decide (0 ≤ v5)))
    (j4 (wI .i64 (v1.1 + 1)))
    (j4 v1.1))
   (j1 v1.1)
def By (N : Nat) (p0 : Ac) (v7 : (List Ac) × Int) (j12 : ((List Int)) → Option ((List Ac))) : Nat → ((List Int) × Int × Int) → Option ((List Ac))
 | 0, _ => none
 | n12 + 1, v12 =>
  AK ((decide (v12.2.2 < (p0.fa.length : Int))))
   (Ba (fun (v15 : (List Int) × Int) =>
    By N p0 v7 j12 n12 (v15.1, v15.2, (wI .i64 (v12.2.2 + 1))))
   fun j15 =>
   (Bv p0.fa v12.2.2).bind fun v16 =>
   AK ((decide (v16 < 0)))
    (j15 (v12.1, v12.2.1))
    (Ba (fun (v18 : (List Int)) =>
     j15 (v18, (wI .i64 (v12.2.1 + 1))))
    fun j18 =>
    (DD (0 ≤ v12.2.1)).bind fun _ =>
    AK (((Int.tmod ((Fi .i64 v7.2 v12.2.1)) 2) == 1))
     ((Bv v12.1 v12.2.2).bind fun _ =>
     j18 (v12.1.set ((v12.2.2).toNat) ((-1))))
     (j18 v12.1)))
   (j12 v12.1)
def Bi (N : Nat) (p0 : Ac) (v2 : Int) (j7 : ((List Ac)) → Option ((List Ac))) : Nat → ((List Ac) × Int) → Option ((List Ac))
 | 0, _ => none
 | n7 + 1, v7 =>
  (DD (0 ≤ v2)).bind fun _ =>
  AK ((decide (v7.2 < (Dp .i64 1 v2))))
   ((DT N p0).bind fun v11 =>
   By N p0 v7 (fun (v13 : (List Int)) =>
    (DD (v7.1.length + (([(Ac.mk v11.fe v13 v11.fc)] : List Ac)).length ≤ Dl)).bind fun _ =>
    Bi N p0 v2 j7 n7 (v7.1 ++ (([(Ac.mk v11.fe v13 v11.fc)] : List Ac)), (wI .i64 (v7.2 + 1)))) N (v11.fa, 0, 0))
   (j7 v7.1)
def C5 (N : Nat) (p0 : Ac) : Option ((List Ac)) :=
 B9 N p0 (fun (v2 : Int) =>
  Bi N p0 v2 (fun (v8 : (List Ac)) =>
   some v8) N (([] : List Ac), 0)) N (0, 0)
def EH (N : Nat) (p0 : Aa) (p1 : Ac) : Option ((List Ac) × Int) :=
 (BZ N p0 p1).bind fun v1 =>
 AK ((v1 != 0))
  (some (([] : List Ac), v1))
  ((C5 N p1).bind fun v3 =>
  some (v3, 0))
def Bf (N : Nat) (p0 : Aa) (p1 : Ac) (v1 : (List Ai) × Int) (v4 : Au) (v10 : (List Ai) × Int) (j17 : ((List Ai) × Bool) → Option ((List Ai))) : Nat → ((List Ai) × Bool × Int) → Option ((List Ai))
 | 0, _ => none
 | n17 + 1, v17 =>
  (Bv p0.fb v4.fk).bind fun v19 =>
  AK ((decide (v17.2.2 < v19)))
   (Ba (fun (v21 : (List Ai) × Bool) =>
    Bf N p0 p1 v1 v4 v10 j17 n17 (v21.1, v21.2, (wI .i64 (v17.2.2 + 1))))
   fun j21 =>
   (BB N p1 v4.fk).bind fun v22 =>
   (B6 N v22 v17.2.2).bind fun v23 =>
   AK ((!v23))
    (j21 (v17.1, v17.2.1))
    (Ba (fun (v25 : Bool) =>
     Ba (fun (v29 : Bool) =>
      AK v29
       ((DD (v17.1.length + (([(Ai.mk v1.2 v10.2 v17.2.2)] : List Ai)).length ≤ Dl)).bind fun _ =>
       j21 (v17.1 ++ (([(Ai.mk v1.2 v10.2 v17.2.2)] : List Ai)), v25))
       (j21 (v17.1, v25)))
     fun j29 =>
     AK ((!v4.fp))
      ((Bv v4.fq v10.2).bind fun v31 =>
      (Bv v31 v17.2.2).bind fun v32 =>
      j29 (!v32))
      (j29 false))
    fun j25 =>
    AK v17.2.1
     (j25 true)
     ((Bv v4.fq v10.2).bind fun v27 =>
     (Bv v27 v17.2.2).bind fun v28 =>
     j25 v28)))
   (j17 (v17.1, v17.2.1))
def Bo (N : Nat) (p0 : Aa) (p1 : Ac) (v1 : (List Ai) × Int) (v4 : Au) (v6 : Int) (j10 : ((List Ai)) → Option ((List Ai))) : Nat → ((List Ai) × Int) → Option ((List Ai))
 | 0, _ => none
 | n10 + 1, v10 =>
  (Bv p0.fb v4.fg).bind fun v12 =>
  AK ((decide (v10.2 < v12)))
   (Ba (fun (v14 : (List Ai)) =>
    Bo N p0 p1 v1 v4 v6 j10 n10 (v14, (wI .i64 (v10.2 + 1))))
   fun j14 =>
   (B6 N v6 v10.2).bind fun v15 =>
   AK ((!v15))
    (j14 v10.1)
    (Bf N p0 p1 v1 v4 v10 (fun (v18 : (List Ai) × Bool) =>
     Ba (fun (v35 : Bool) =>
      AK v35
       ((DD (v18.1.length + (([(Ai.mk v1.2 v10.2 ((-1)))] : List Ai)).length ≤ Dl)).bind fun _ =>
       j14 (v18.1 ++ (([(Ai.mk v1.2 v10.2 ((-1)))] : List Ai))))
       (j14 v18.1))
     fun j35 =>
     AK v4.fp
      (j35 (!v18.2))
      (j35 false)) N (v10.1, false, 0)))
   (j10 v10.1)
def Ce (N : Nat) (p0 : Aa) (p1 : Ac) (j1 : ((List Ai)) → Option ((List Ai))) : Nat → ((List Ai) × Int) → Option ((List Ai))
 | 0, _ => none
 | n1 + 1, v1 =>
  AK ((decide (v1.2 < (p0.fd.length : Int))))
   ((Bv p0.fd v1.2).bind fun v4 =>
   (BB N p1 v4.fg).bind fun v5 =>
   Ba (fun (v6 : Int) =>
    Bo N p0 p1 v1 v4 v6 (fun (v11 : (List Ai)) =>
     Ce N p0 p1 j1 n1 (v11, (wI .i64 (v1.2 + 1)))) N (v1.1, 0))
   fun j6 =>
   (AX N v4).bind fun v7 =>
   AK v7
    ((Bv p1.fc v1.2).bind fun v9 =>
    j6 v9)
    (j6 v5))
   (j1 v1.1)
def C7 (N : Nat) (p0 : Aa) (p1 : Ac) : Option ((List Ai)) :=
 Ce N p0 p1 (fun (v2 : (List Ai)) =>
  some v2) N (([] : List Ai), 0)
def Cg (N : Nat) (p0 : Aa) (v1 : (List Ac) × Int) (j3 : Unit → Option (Ac × Ai × Int)) : Nat → Int → Option (Ac × Ai × Int)
 | 0, _ => none
 | n3 + 1, v3 =>
  AK ((decide (v3 < (v1.1.length : Int))))
   ((Bv v1.1 v3).bind fun v6 =>
   (C7 N p0 v6).bind fun v7 =>
   AK ((decide (0 < (v7.length : Int))))
    ((Bv v1.1 v3).bind fun v9 =>
    (Bv v7 0).bind fun v10 =>
    some (v9, v10, 0))
    (Cg N p0 v1 j3 n3 (wI .i64 (v3 + 1))))
   (j3 ())
def D9 (N : Nat) (p0 : Aa) (p1 : Ac) : Option (Ac × Ai × Int) :=
 (EH N p0 p1).bind fun v1 =>
 AK ((v1.2 != 0))
  (some ((Ac.mk (([] : List Int)) (([] : List Int)) (([] : List Int))), (Ai.mk 0 0 0), v1.2))
  (Cg N p0 v1 (fun (_ : Unit) =>
   some ((Ac.mk (([] : List Int)) (([] : List Int)) (([] : List Int))), (Ai.mk 0 0 0), 15)) N 0)
def Cp (N : Nat) (p0 : Aa) (p1 : Ac) (j3 : Unit → Option Bool) : Nat → Int → Option Bool
 | 0, _ => none
 | n3 + 1, v3 =>
  AK ((decide (v3 < (p1.fe.length : Int))))
   (Ba (fun (v6 : Bool) =>
    AK v6
     (some false)
     (Cp N p0 p1 j3 n3 (wI .i64 (v3 + 1))))
   fun j6 =>
   (Bv p1.fa v3).bind fun v7 =>
   AK ((decide (0 ≤ v7)))
    (j6 true)
    ((Bv p1.fe v3).bind fun v9 =>
    (Bv p0.fo v3).bind fun v10 =>
    j6 (v9 != v10)))
   (j3 ())
def DA (N : Nat) (p0 : Aa) (p1 : Ac) : Option Bool :=
 (BZ N p0 p1).bind fun v1 =>
 AK ((v1 != 0))
  (some false)
  (Cp N p0 p1 (fun (_ : Unit) =>
   some true) N 0)
def BR (N : Nat) (p0 : Aa) (p1 : List Ab) (j3 : Ac → Option (Int × Ac × Ai × Int)) : Nat → ((List Int) × (List Int) × (List Int) × Int) → Option (Int × Ac × Ai × Int)
 | 0, _ => none
 | n3 + 1, v3 =>
  AK ((decide (v3.2.2.2 < (p1.length : Int))))
   (Ba (fun (v6 : (List Int) × (List Int) × (List Int)) =>
    (D9 N p0 ((Ac.mk v6.1 v6.2.1 v6.2.2))).bind fun v14 =>
    AK ((v14.2.2 == 0))
     (some (v3.2.2.2, v14.1, v14.2.1, 0))
     (BR N p0 p1 j3 n3 (v6.1, v6.2.1, v6.2.2, (wI .i64 (v3.2.2.2 + 1)))))
   fun j6 =>
   AK ((decide (0 ≤ v3.2.2.2)))
    ((Bv p1 v3.2.2.2).bind fun v8 =>
    (Df N p0 ((Ac.mk v3.1 v3.2.1 v3.2.2.1)) v8).bind fun v9 =>
    Ba (fun (v10 : Bool) =>
     AK v10
      (some (v3.2.2.2, (Ac.mk (([] : List Int)) (([] : List Int)) (([] : List Int))), (Ai.mk 0 0 0), 0))
      (j6 (v9.1.fe, v9.1.fa, v9.1.fc)))
    fun j10 =>
    AK ((v9.2 != 0))
     (j10 true)
     ((Bv p1 v3.2.2.2).bind fun v12 =>
     j10 (v12.ff == 4)))
    (j6 (v3.1, v3.2.1, v3.2.2.1)))
   (j3 (Ac.mk v3.1 v3.2.1 v3.2.2.1))
def Dt (N : Nat) (p0 : Aa) (p1 : List Ab) : Option (Int × Ac × Ai × Int) :=
 (CM N p0).bind fun v1 =>
 AK ((v1.2 != 0))
  (some (0, (Ac.mk (([] : List Int)) (([] : List Int)) (([] : List Int))), (Ai.mk 0 0 0), v1.2))
  (BR N p0 p1 (fun (v4 : Ac) =>
   (DA N p0 v4).bind fun v16 =>
   AK ((!v16))
    (some ((p1.length : Int), (Ac.mk (([] : List Int)) (([] : List Int)) (([] : List Int))), (Ai.mk 0 0 0), 14))
    (some (0, (Ac.mk (([] : List Int)) (([] : List Int)) (([] : List Int))), (Ai.mk 0 0 0), 15))) N (v1.1.fe, v1.1.fa, v1.1.fc, (-1)))
def Ec (N : Nat) (p0 : Aa) (p1 : List Ab) : Option Bool :=
 (Dt N p0 p1).bind fun v1 =>
 some ((v1.2.2.2 == 15))
def CH (N : Nat) (p0 : List Ab) (v4 : Int) (j13 : Unit → Option Int) : Nat → Int → Option Int
 | 0, _ => none
 | n13 + 1, v13 =>
  AK ((decide (v13 < v4)))
   ((Bv p0 v13).bind fun v16 =>
   (Bv p0 v4).bind fun v17 =>
   AK (((v16.ff == v17.ff) && ((v16.fh == v17.fh) && ((v16.fj == v17.fj) && true))))
    (some 1)
    (CH N p0 v4 j13 n13 (wI .i64 (v13 + 1))))
   (j13 ())
def B2 (N : Nat) (p0 : List Ab) (j4 : Unit → Option Int) : Nat → Int → Option Int
 | 0, _ => none
 | n4 + 1, v4 =>
  AK ((decide (v4 < (p0.length : Int))))
   (Ba (fun (v7 : Bool) =>
    AK v7
     (some 1)
     (CH N p0 v4 (fun (_ : Unit) =>
      B2 N p0 j4 n4 (wI .i64 (v4 + 1))) N 0))
   fun j7 =>
   (Bv p0 v4).bind fun v8 =>
   AK ((v8.ff == 4))
    (j7 true)
    ((Bv p0 v4).bind fun v10 =>
    (C8 N v10).bind fun v11 =>
    j7 (!v11)))
   (j4 ())
def Es (N : Nat) (p0 : List Ab) : Option Int :=
 Ba (fun (v1 : Bool) =>
  AK v1
   (some 6)
   (B2 N p0 (fun (_ : Unit) =>
    some 0) N 0))
 fun j1 =>
 AK ((decide ((p0.length : Int) < 1)))
  (j1 true)
  (j1 (decide (5 < (p0.length : Int))))
def DS (N : Nat) (p0 : Aa) (p1 : Ac) : Option Bool :=
 (C7 N p0 p1).bind fun v1 =>
 some (((v1.length : Int) == 0))
def BJ (N : Nat) (p0 : Aa) (v1 : (List Ac)) (j2 : Unit → Option Bool) : Nat → Int → Option Bool
 | 0, _ => none
 | n2 + 1, v2 =>
  AK ((decide (v2 < (v1.length : Int))))
   ((Bv v1 v2).bind fun v5 =>
   (DS N p0 v5).bind fun v6 =>
   AK ((!v6))
    (some false)
    (BJ N p0 v1 j2 n2 (wI .i64 (v2 + 1))))
   (j2 ())
def CG (N : Nat) (p0 : Aa) (p1 : Ac) : Option Bool :=
 (C5 N p1).bind fun v1 =>
 BJ N p0 v1 (fun (_ : Unit) =>
  some true) N 0
def DQ (N : Nat) (v1 : (List (List Int)) × Int) (v4 : (List (List Int)) × Int) (v7 : (List (List Int)) × Int) (j11 : Bool → Option ((List (List Int)))) : Nat → (Bool × Int) → Option ((List (List Int)))
 | 0, _ => none
 | n11 + 1, v11 =>
  (Bv v1.1 v4.2).bind fun v13 =>
  AK ((decide (v11.2 < (v13.length : Int))))
   (Ba (fun (v15 : Bool) =>
    DQ N v1 v4 v7 j11 n11 (v15, (wI .i64 (v11.2 + 1))))
   fun j15 =>
   AK v11.1
    (j15 true)
    ((Bv v1.1 v4.2).bind fun v17 =>
    (Bv v17 v11.2).bind fun v18 =>
    j15 (v18 == v7.2)))
   (j11 v11.1)
def D5 (N : Nat) (p0 : Int) (v1 : (List (List Int)) × Int) (v4 : (List (List Int)) × Int) (j7 : ((List (List Int))) → Option ((List (List Int)))) : Nat → ((List (List Int)) × Int) → Option ((List (List Int)))
 | 0, _ => none
 | n7 + 1, v7 =>
  AK ((decide (v7.2 < p0)))
   (Ba (fun (v10 : (List (List Int))) =>
    D5 N p0 v1 v4 j7 n7 (v10, (wI .i64 (v7.2 + 1))))
   fun j10 =>
   DQ N v1 v4 v7 (fun (v12 : Bool) =>
    AK ((!v12))
     ((Bv v1.1 v4.2).bind fun v20 =>
     (DD ((([] : List Int)).length + v20.length ≤ Dl)).bind fun _ =>
     (DD (((([] : List Int)) ++ v20).length + (([v7.2] : List Int)).length ≤ Dl)).bind fun _ =>
     (DD (v7.1.length + (([((([] : List Int)) ++ v20) ++ (([v7.2] : List Int))] : List (List Int))).length ≤ Dl)).bind fun _ =>
     j10 (v7.1 ++ (([((([] : List Int)) ++ v20) ++ (([v7.2] : List Int))] : List (List Int)))))
     (j10 v7.1)) N (false, 0))
   (j7 v7.1)
def D8 (N : Nat) (p0 : Int) (v1 : (List (List Int)) × Int) (j4 : ((List (List Int))) → Option ((List (List Int)))) : Nat → ((List (List Int)) × Int) → Option ((List (List Int)))
 | 0, _ => none
 | n4 + 1, v4 =>
  AK ((decide (v4.2 < (v1.1.length : Int))))
   (D5 N p0 v1 v4 (fun (v8 : (List (List Int))) =>
    D8 N p0 v1 j4 n4 (v8, (wI .i64 (v4.2 + 1)))) N (v4.1, 0))
   (j4 v4.1)
def D6 (N : Nat) (p0 : Int) (j1 : ((List (List Int))) → Option ((List (List Int)))) : Nat → ((List (List Int)) × Int) → Option ((List (List Int)))
 | 0, _ => none
 | n1 + 1, v1 =>
  AK ((decide (v1.2 < p0)))
   (D8 N p0 v1 (fun (v5 : (List (List Int))) =>
    D6 N p0 j1 n1 (v5, (wI .i64 (v1.2 + 1)))) N (([] : List (List Int)), 0))
   (j1 v1.1)
def DU (N : Nat) (p0 : Int) : Option ((List (List Int))) :=
 D6 N p0 (fun (v2 : (List (List Int))) =>
  some v2) N (([([] : List Int)] : List (List Int)), 0)
def Cj (N : Nat) (p0 : Aa) (p2 : List Ab) (j1 : Ac → Option (Ac × Bool)) : Nat → ((List Int) × (List Int) × (List Int) × Int) → Option (Ac × Bool)
 | 0, _ => none
 | n1 + 1, v1 =>
  AK ((decide (v1.2.2.2 < (p2.length : Int))))
   ((Bv p2 v1.2.2.2).bind fun v4 =>
   (Df N p0 ((Ac.mk v1.1 v1.2.1 v1.2.2.1)) v4).bind fun v5 =>
   Ba (fun (v6 : Bool) =>
    AK v6
     (some ((Ac.mk (([] : List Int)) (([] : List Int)) (([] : List Int))), false))
     (Cj N p0 p2 j1 n1 (v5.1.fe, v5.1.fa, v5.1.fc, (wI .i64 (v1.2.2.2 + 1)))))
   fun j6 =>
   AK ((v5.2 != 0))
    (j6 true)
    ((CG N p0 v5.1).bind fun v8 =>
    j6 (!v8)))
   (j1 (Ac.mk v1.1 v1.2.1 v1.2.2.1))
def BY (N : Nat) (p0 : Aa) (p1 : Ac) (p2 : List Ab) : Option (Ac × Bool) :=
 Cj N p0 p2 (fun (v2 : Ac) =>
  some (v2, true)) N (p1.fe, p1.fa, p1.fc, 0)
def Cl (N : Nat) (p0 : List Ab) (p1 : List Int) (j1 : ((List Ab)) → Option ((List Ab))) : Nat → ((List Ab) × Int) → Option ((List Ab))
 | 0, _ => none
 | n1 + 1, v1 =>
  AK ((decide (v1.2 < (p1.length : Int))))
   ((Bv p1 v1.2).bind fun v4 =>
   (Bv p0 v4).bind fun v5 =>
   (DD (v1.1.length + (([v5] : List Ab)).length ≤ Dl)).bind fun _ =>
   Cl N p0 p1 j1 n1 (v1.1 ++ (([v5] : List Ab)), (wI .i64 (v1.2 + 1))))
   (j1 v1.1)
def Dz (N : Nat) (p0 : List Ab) (p1 : List Int) : Option ((List Ab)) :=
 Cl N p0 p1 (fun (v2 : (List Ab)) =>
  some v2) N (([] : List Ab), 0)
def CT (N : Nat) (p0 : List Int) (p1 : List Int) (j1 : Unit → Option Int) : Nat → Int → Option Int
 | 0, _ => none
 | n1 + 1, v1 =>
  Ba (fun (v3 : Bool) =>
   AK v3
    ((Bv p0 v1).bind fun v6 =>
    (Bv p1 v1).bind fun v7 =>
    AK ((decide (v6 < v7)))
     (some ((-1)))
     ((Bv p0 v1).bind fun v9 =>
     (Bv p1 v1).bind fun v10 =>
     AK ((decide (v10 < v9)))
      (some 1)
      (CT N p0 p1 j1 n1 (wI .i64 (v1 + 1)))))
    (j1 ()))
  fun j3 =>
  AK ((decide (v1 < (p0.length : Int))))
   (j3 (decide (v1 < (p1.length : Int))))
   (j3 false)
def CW (N : Nat) (p0 : List Int) (p1 : List Int) : Option Int :=
 CT N p0 p1 (fun (_ : Unit) =>
  AK ((decide ((p0.length : Int) < (p1.length : Int))))
   (some ((-1)))
   (AK ((decide ((p1.length : Int) < (p0.length : Int))))
    (some 1)
    (some 0))) N 0
def Cm (N : Nat) (p0 : List Int) (j1 : ((List Int)) → Option ((List Int))) : Nat → ((List Int) × Int) → Option ((List Int))
 | 0, _ => none
 | n1 + 1, v1 =>
  AK ((decide (v1.2 < (p0.length : Int))))
   ((Bv p0 v1.2).bind fun v4 =>
   (DD (v1.1.length + (([(wI .i64 v4)] : List Int)).length ≤ Dl)).bind fun _ =>
   Cm N p0 j1 n1 (v1.1 ++ (([(wI .i64 v4)] : List Int)), (wI .i64 (v1.2 + 1))))
   (j1 v1.1)
def CQ (N : Nat) (p0 : List Int) : Option ((List Int)) :=
 Cm N p0 (fun (v2 : (List Int)) =>
  some v2) N (([] : List Int), 0)
def Dy (N : Nat) (p0 : Ac) (p1 : Ac) : Option Int :=
 (CW N p0.fe p1.fe).bind fun v1 =>
 AK ((v1 != 0))
  (some v1)
  ((CW N p0.fa p1.fa).bind fun v3 =>
  AK ((v3 != 0))
   (some v3)
   ((CQ N p0.fc).bind fun v5 =>
   (CQ N p1.fc).bind fun v6 =>
   (CW N v5 v6).bind fun v7 =>
   some v7))
def Ee (N : Nat) (p0 : Ac) (p1 : Ac) : Option Bool :=
 (Dy N p0 p1).bind fun v1 =>
 some ((v1 == 0))
def CO (N : Nat) (p0 : Aa) (p1 : Ac) (p2 : List Ab) (v8 : (List (List Int))) (v9 : Ac × Bool) (j10 : Unit → Option ((List Ab) × Int)) : Nat → Int → Option ((List Ab) × Int)
 | 0, _ => none
 | n10 + 1, v10 =>
  AK ((decide (v10 < (v8.length : Int))))
   ((Bv v8 v10).bind fun v13 =>
   (Dz N p2 v13).bind fun v14 =>
   (BY N p0 p1 v14).bind fun v15 =>
   Ba (fun (v16 : Bool) =>
    AK v16
     (some (v14, 0))
     (CO N p0 p1 p2 v8 v9 j10 n10 (wI .i64 (v10 + 1))))
   fun j16 =>
   AK ((!v15.2))
    (j16 true)
    ((Ee N v15.1 v9.1).bind fun v18 =>
    j16 (!v18)))
   (j10 ())
def D0 (N : Nat) (p0 : Aa) (p1 : Ac) (p2 : List Ab) : Option ((List Ab) × Int) :=
 (BZ N p0 p1).bind fun v1 =>
 AK ((v1 != 0))
  (some (([] : List Ab), v1))
  ((Es N p2).bind fun v3 =>
  AK ((v3 != 0))
   (some (([] : List Ab), v3))
   ((CG N p0 p1).bind fun v5 =>
   AK ((!v5))
    ((DD ((([] : List Ab)).length + p2.length ≤ Dl)).bind fun _ =>
    some ((([] : List Ab)) ++ p2, 0))
    ((DU N ((p2.length : Int))).bind fun v8 =>
    (BY N p0 p1 p2).bind fun v9 =>
    CO N p0 p1 p2 v8 v9 (fun (_ : Unit) =>
     some (([] : List Ab), 15)) N 0)))
def DF (N : Nat) (p0 : Aa) (p1 : Ac) (p2 : List Ab) : Option (Bool × Int) :=
 (D0 N p0 p1 p2).bind fun v1 =>
 AK ((v1.2 == 15))
  (some (true, 0))
  ((BZ N p0 p1).bind fun v3 =>
  AK ((v3 != 0))
   (some (false, v3))
   (some (false, 0)))
def EP (N : Nat) (p0 : Aa) (p1 : Ac) (p2 : List Ab) : Option Ac :=
 (BY N p0 p1 p2).bind fun v1 =>
 some v1.1
def Dh (N : Nat) (p0 : Aa) (v6 : (List Int) × (List Int) × (List Int) × (List Ab) × (List (List Ab))) (j9 : Int → Option ((List (List Ab)) × Int)) : Nat → (Int × Int) → Option ((List (List Ab)) × Int)
 | 0, _ => none
 | n9 + 1, v9 =>
  Ba (fun (v11 : Bool) =>
   AK v11
    (Ba (fun (v14 : Int) =>
     Dh N p0 v6 j9 n9 (v14, (wI .i64 (v9.2 + 1))))
    fun j14 =>
    (DD ((0 : Int) ≤ v9.2 ∧ 0 ≤ (v9.2).toNat ∧ (v9.2).toNat ≤ v6.2.2.2.1.length)).bind fun _ =>
    (DF N p0 ((Ac.mk v6.1 v6.2.1 v6.2.2.1)) (((v6.2.2.2.1.drop 0).take ((v9.2).toNat - 0)))).bind fun v16 =>
    AK v16.1
     (j14 v9.2)
     (j14 v9.1))
    (j9 v9.1))
  fun j11 =>
  AK ((decide (v9.2 ≤ (v6.2.2.2.1.length : Int))))
   (j11 (decide (v9.2 ≤ 5)))
   (j11 false)
def C9 (N : Nat) (p0 : Aa) (j6 : ((List (List Ab))) → Option ((List (List Ab)) × Int)) : Nat → ((List Int) × (List Int) × (List Int) × (List Ab) × (List (List Ab))) → Option ((List (List Ab)) × Int)
 | 0, _ => none
 | n6 + 1, v6 =>
  AK ((decide (0 < (v6.2.2.2.1.length : Int))))
   (Dh N p0 v6 (fun (v10 : Int) =>
    (DD ((0 : Int) ≤ v10 ∧ 0 ≤ (v10).toNat ∧ (v10).toNat ≤ v6.2.2.2.1.length)).bind fun _ =>
    (DD ((([] : List Ab)).length + (((v6.2.2.2.1.drop 0).take ((v10).toNat - 0))).length ≤ Dl)).bind fun _ =>
    (DD (v6.2.2.2.2.length + (([(([] : List Ab)) ++ (((v6.2.2.2.1.drop 0).take ((v10).toNat - 0)))] : List (List Ab))).length ≤ Dl)).bind fun _ =>
    (DD ((0 : Int) ≤ v10 ∧ 0 ≤ (v10).toNat ∧ (v10).toNat ≤ v6.2.2.2.1.length)).bind fun _ =>
    (EP N p0 ((Ac.mk v6.1 v6.2.1 v6.2.2.1)) (((v6.2.2.2.1.drop 0).take ((v10).toNat - 0)))).bind fun v22 =>
    (DD ((0 : Int) ≤ v10 ∧ (v10).toNat ≤ v6.2.2.2.1.length ∧ v6.2.2.2.1.length ≤ v6.2.2.2.1.length)).bind fun _ =>
    C9 N p0 j6 n6 (v22.fe, v22.fa, v22.fc, ((v6.2.2.2.1.drop (v10).toNat).take (v6.2.2.2.1.length - (v10).toNat)), v6.2.2.2.2 ++ (([(([] : List Ab)) ++ (((v6.2.2.2.1.drop 0).take ((v10).toNat - 0)))] : List (List Ab))))) N (1, 1))
   (j6 v6.2.2.2.2)
def EO (N : Nat) (p0 : Aa) (p1 : List Ab) : Option ((List (List Ab)) × Int) :=
 (BA N p0).bind fun v1 =>
 AK ((v1 != 0))
  (some (([] : List (List Ab)), v1))
  ((Ec N p0 p1).bind fun v3 =>
  AK ((!v3))
   (some (([] : List (List Ab)), 13))
   ((CM N p0).bind fun v5 =>
   C9 N p0 (fun (v7 : (List (List Ab))) =>
    some (v7, 0)) N (v5.1.fe, v5.1.fa, v5.1.fc, p1, ([] : List (List Ab)))))
def Cf (N : Nat) (v8 : (List (List Ab)) × Int) (j18 : ((List Ab)) → Option Bool) : Nat → ((List Ab) × Int) → Option Bool
 | 0, _ => none
 | n18 + 1, v18 =>
  AK ((decide (v18.2 < (v8.1.length : Int))))
   ((Bv v8.1 v18.2).bind fun v21 =>
   (DD (v18.1.length + v21.length ≤ Dl)).bind fun _ =>
   Cf N v8 j18 n18 (v18.1 ++ v21, (wI .i64 (v18.2 + 1))))
   (j18 v18.1)
def Dr (N : Nat) (p0 : BV) (p1 : List Ab) : Option Bool :=
 (ES N p0).bind fun v1 =>
 Ba (fun (v2 : Bool) =>
  AK v2
   ((Ea N).bind fun v7 =>
   some v7)
   ((GQ N v1.1 p1).bind fun v8 =>
   (EO N v1.1 p1).bind fun v9 =>
   Ba (fun (v10 : Bool) =>
    AK v10
     (Ba (fun (v15 : Bool) =>
      some v15)
     fun j15 =>
     AK ((v8.2 == v9.2))
      ((CX N v8.1 v9.1).bind fun v17 =>
      j15 v17)
      (j15 false))
     (Cf N v8 (fun (v19 : (List Ab)) =>
      Ba (fun (v23 : Bool) =>
       some v23)
      fun j23 =>
      (Cw N v19 p1).bind fun v24 =>
      AK v24
       ((EE N v1.1 v8.1).bind fun v26 =>
       j23 v26)
       (j23 false)) N (([] : List Ab), 0)))
   fun j10 =>
   AK ((v8.2 != v9.2))
    (j10 true)
    ((CX N v8.1 v9.1).bind fun v12 =>
    AK ((!v12))
     (j10 true)
     (j10 (v8.2 != 0)))))
 fun j2 =>
 (Ea N).bind fun v3 =>
 AK ((!v3))
  (j2 true)
  (AK ((!v1.2))
   (j2 true)
   (j2 (decide (10 < (p1.length : Int)))))
def Kh {α : Type} (w : α → Prop) (xs : List α) : Prop := ∀ x, x ∈ xs → w x
def U0 (n : Int) : Prop := (Lit.int .i64 n).wf = true
def Jw (n : Int) : Prop := (Lit.int .u8 n).wf = true
def Ws (n : Int) : Prop := (Lit.int .u16 n).wf = true
def Hp (x : GC) : Prop := Jw x.ff ∧ Jw x.fg ∧ Jw x.fk ∧ (fun _ => True) x.fp ∧ Ws x.ft ∧ Ws x.fu ∧ True
def FJ (x : BV) : Prop := (Kh Jw) x.fb ∧ (Kh Jw) x.fi ∧ (Kh Jw) x.fo ∧ (Kh Hp) x.fr ∧ True
def JY (x : Ab) : Prop := U0 x.ff ∧ U0 x.fh ∧ U0 x.fj ∧ True
open Go.RowKit
open Go.Proofs
abbrev LU (x : GC) : List C := [.pure (.val (.int .u8 x.ff)), .pure (.val (.int .u8 x.fg)), .pure (.val (.int .u8 x.fk)), .pure (.val (.bool x.fp)), .pure (.val (.int .u16 x.ft)), .pure (.val (.int .u16 x.fu))]
abbrev Cz (x : BV) : List C := [sC (x.fb.map Cb), sC (x.fi.map Cb), sC (x.fo.map Cb), sC (x.fr.map F5)]
abbrev Cs (x : Ab) : List C := [iC x.ff, iC x.fh, iC x.fj]
abbrev Bd (x : Au) : List C := [iC x.ff, iC x.fg, iC x.fk, .pure (.val (.bool x.fp)), sC (x.fq.map (EU eB)), sC (x.fm.map (EU eB))]
abbrev Ag (x : Aa) : List C := [sC (x.fb.map An), sC (x.fi.map An), sC (x.fo.map An), sC (x.fd.map AT)]
abbrev Av (x : Ac) : List C := [sC (x.fe.map An), sC (x.fa.map An), sC (x.fc.map Cb)]
abbrev Ev (x : Ai) : List C := [iC x.fv, iC x.fw, iC x.fy]
theorem Ay : Tryz.prog.follows .mixedOrders = true := by kernel_rfl
theorem wq {X : HV} {y : Code} {id : Nat} {ops : Array Oper} {dr : Bool} {Q : Exit → St → Prop} {st : St} {n : Nat} (hn : ops.size = n) (h : Bb Tryz.prog X ops dr (fun st' => W Tryz.prog X y Q st') n 0 st []) : W Tryz.prog X (.seq (.region id ops dr) y) Q st := YT Ay hn h
theorem wp {X : HV} {y z : Code} {id : Nat} {ops : Array Oper} {dr : Bool} {Q : Exit → St → Prop} {st : St} {n : Nat} (hn : ops.size = n) (h : Bb Tryz.prog X ops dr (fun st' => W Tryz.prog X y (Oz (W Tryz.prog X z Q) Q) st') n 0 st []) : W Tryz.prog X (.seq (.seq (.region id ops dr) y) z) Q st := AN (YT Ay hn h)
theorem TZ : EQ Tryz.prog 22 false = true := by kernel_rfl
theorem Wd : EQ Tryz.prog 23 false = true := by kernel_rfl
theorem XV : EQ Tryz.prog 25 true = true := by kernel_rfl
theorem Q2 : EQ Tryz.prog 28 false = true := by kernel_rfl
theorem A0 : EQ Tryz.prog 29 false = true := by kernel_rfl
theorem BQ : EQ Tryz.prog 3 false = true := by kernel_rfl
theorem Hs : EQ Tryz.prog 30 false = true := by kernel_rfl
theorem Ch : EQ Tryz.prog 32 true = true := by kernel_rfl
theorem GS : EQ Tryz.prog 36 false = true := by kernel_rfl
theorem AW : EQ Tryz.prog 38 true = true := by kernel_rfl
theorem RN : EQ Tryz.prog 4 false = true := by kernel_rfl
theorem XK : EQ Tryz.prog 5 false = true := by kernel_rfl
theorem Gr : EQ Tryz.prog 54 true = true := by kernel_rfl
theorem WW : EQ Tryz.prog 58 false = true := by kernel_rfl
theorem XX : EQ Tryz.prog 60 true = true := by kernel_rfl
theorem JS : EQ Tryz.prog 61 false = true := by kernel_rfl
theorem Hu : EQ Tryz.prog 63 true = true := by kernel_rfl
theorem JD : EQ Tryz.prog 74 false = true := by kernel_rfl
theorem Y3 : EQ Tryz.prog 9 false = true := by kernel_rfl
theorem Ix : EQ Tryz.prog 93 true = true := by kernel_rfl
theorem OS : EQ Tryz.prog 96 false = true := by kernel_rfl
theorem VG : E9 Tryz.prog 28 24 = true := by kernel_rfl
theorem WT : E9 Tryz.prog 29 24 = true := by kernel_rfl
theorem KR : E9 Tryz.prog 3 8 = true := by kernel_rfl
theorem SK : E9 Tryz.prog 38 72 = true := by kernel_rfl
theorem Wv : E9 Tryz.prog 4 1 = true := by kernel_rfl
theorem Ot : E9 Tryz.prog 54 24 = true := by kernel_rfl
theorem Xu : E9 Tryz.prog 63 80 = true := by kernel_rfl
theorem Qx : E9 Tryz.prog 74 1 = true := by kernel_rfl
theorem Ry : E9 Tryz.prog 93 24 = true := by kernel_rfl
theorem Xh : E9 Tryz.prog 96 24 = true := by kernel_rfl
theorem OX : C3 Tryz.prog 25 0 0 = true := by kernel_rfl
theorem Um : C3 Tryz.prog 25 1 1 = true := by kernel_rfl
theorem Ut : C3 Tryz.prog 25 2 2 = true := by kernel_rfl
theorem Po : C3 Tryz.prog 25 3 3 = true := by kernel_rfl
theorem Bq : C3 Tryz.prog 32 0 0 = true := by kernel_rfl
theorem Gx : C3 Tryz.prog 32 1 1 = true := by kernel_rfl
theorem HZ : C3 Tryz.prog 32 2 2 = true := by kernel_rfl
theorem CJ : C3 Tryz.prog 32 3 3 = true := by kernel_rfl
theorem Ct : C3 Tryz.prog 38 0 0 = true := by kernel_rfl
theorem Bl : C3 Tryz.prog 38 1 1 = true := by kernel_rfl
theorem Cn : C3 Tryz.prog 38 2 2 = true := by kernel_rfl
theorem D7 : C3 Tryz.prog 54 0 0 = true := by kernel_rfl
theorem Ew : C3 Tryz.prog 54 1 1 = true := by kernel_rfl
theorem F4 : C3 Tryz.prog 54 2 2 = true := by kernel_rfl
theorem UJ : C3 Tryz.prog 60 0 0 = true := by kernel_rfl
theorem Ul : C3 Tryz.prog 60 1 1 = true := by kernel_rfl
theorem Vg : C3 Tryz.prog 60 2 2 = true := by kernel_rfl
theorem UU : C3 Tryz.prog 60 3 3 = true := by kernel_rfl
theorem Uu : C3 Tryz.prog 60 4 4 = true := by kernel_rfl
theorem T9 : C3 Tryz.prog 60 5 5 = true := by kernel_rfl
theorem FF : C3 Tryz.prog 63 0 0 = true := by kernel_rfl
theorem CN : C3 Tryz.prog 63 1 1 = true := by kernel_rfl
theorem H1 : C3 Tryz.prog 63 2 2 = true := by kernel_rfl
theorem IH : C3 Tryz.prog 63 3 3 = true := by kernel_rfl
theorem Jh : C3 Tryz.prog 63 4 4 = true := by kernel_rfl
theorem GB : C3 Tryz.prog 63 5 5 = true := by kernel_rfl
theorem V7 : AD Tryz.prog 10 = true := by kernel_rfl
theorem W8 : AD Tryz.prog 100 = true := by kernel_rfl
theorem Vo : AD Tryz.prog 101 = true := by kernel_rfl
theorem Vy : AD Tryz.prog 102 = true := by kernel_rfl
theorem RH : AD Tryz.prog 103 = true := by kernel_rfl
theorem W5 : AD Tryz.prog 104 = true := by kernel_rfl
theorem XH : AD Tryz.prog 105 = true := by kernel_rfl
theorem XI : AD Tryz.prog 106 = true := by kernel_rfl
theorem Xs : AD Tryz.prog 107 = true := by kernel_rfl
theorem XL : AD Tryz.prog 109 = true := by kernel_rfl
theorem Yl : AD Tryz.prog 11 = true := by kernel_rfl
theorem XD : AD Tryz.prog 110 = true := by kernel_rfl
theorem W6 : AD Tryz.prog 111 = true := by kernel_rfl
theorem Xw : AD Tryz.prog 112 = true := by kernel_rfl
theorem VE : AD Tryz.prog 117 = true := by kernel_rfl
theorem WP : AD Tryz.prog 118 = true := by kernel_rfl
theorem WZ : AD Tryz.prog 119 = true := by kernel_rfl
theorem Xx : AD Tryz.prog 12 = true := by kernel_rfl
theorem W4 : AD Tryz.prog 125 = true := by kernel_rfl
theorem YM : AD Tryz.prog 13 = true := by kernel_rfl
theorem VZ : AD Tryz.prog 14 = true := by kernel_rfl
theorem WO : AD Tryz.prog 15 = true := by kernel_rfl
theorem YK : AD Tryz.prog 16 = true := by kernel_rfl
theorem WA : AD Tryz.prog 17 = true := by kernel_rfl
theorem Xv : AD Tryz.prog 18 = true := by kernel_rfl
theorem XS : AD Tryz.prog 19 = true := by kernel_rfl
theorem XA : AD Tryz.prog 20 = true := by kernel_rfl
theorem O1 : AD Tryz.prog 21 = true := by kernel_rfl
theorem Xb : AD Tryz.prog 22 = true := by kernel_rfl
theorem Yu : AD Tryz.prog 23 = true := by kernel_rfl
theorem Wa : AD Tryz.prog 24 = true := by kernel_rfl
theorem XC : AD Tryz.prog 25 = true := by kernel_rfl
theorem Yc : AD Tryz.prog 26 = true := by kernel_rfl
theorem TJ : AD Tryz.prog 28 = true := by kernel_rfl
theorem Uq : AD Tryz.prog 29 = true := by kernel_rfl
theorem Tj : AD Tryz.prog 30 = true := by kernel_rfl
theorem Wg : AD Tryz.prog 31 = true := by kernel_rfl
theorem XY : AD Tryz.prog 32 = true := by kernel_rfl
theorem UY : AD Tryz.prog 33 = true := by kernel_rfl
theorem U3 : AD Tryz.prog 34 = true := by kernel_rfl
theorem Xi : AD Tryz.prog 35 = true := by kernel_rfl
theorem X2 : AD Tryz.prog 36 = true := by kernel_rfl
theorem YF : AD Tryz.prog 37 = true := by kernel_rfl
theorem Yd : AD Tryz.prog 38 = true := by kernel_rfl
theorem WV : AD Tryz.prog 39 = true := by kernel_rfl
theorem X5 : AD Tryz.prog 40 = true := by kernel_rfl
theorem V9 : AD Tryz.prog 41 = true := by kernel_rfl
theorem Yp : AD Tryz.prog 42 = true := by kernel_rfl
theorem YC : AD Tryz.prog 43 = true := by kernel_rfl
theorem VT : AD Tryz.prog 44 = true := by kernel_rfl
theorem YB : AD Tryz.prog 45 = true := by kernel_rfl
theorem Wx : AD Tryz.prog 46 = true := by kernel_rfl
theorem X3 : AD Tryz.prog 47 = true := by kernel_rfl
theorem Xr : AD Tryz.prog 48 = true := by kernel_rfl
theorem YN : AD Tryz.prog 49 = true := by kernel_rfl
theorem Wq : AD Tryz.prog 50 = true := by kernel_rfl
theorem VQ : AD Tryz.prog 51 = true := by kernel_rfl
theorem VY : AD Tryz.prog 52 = true := by kernel_rfl
theorem VJ : AD Tryz.prog 53 = true := by kernel_rfl
theorem Yx : AD Tryz.prog 54 = true := by kernel_rfl
theorem X6 : AD Tryz.prog 55 = true := by kernel_rfl
theorem Xf : AD Tryz.prog 56 = true := by kernel_rfl
theorem YR : AD Tryz.prog 57 = true := by kernel_rfl
theorem XU : AD Tryz.prog 58 = true := by kernel_rfl
theorem WS : AD Tryz.prog 59 = true := by kernel_rfl
theorem YI : AD Tryz.prog 60 = true := by kernel_rfl
theorem XB : AD Tryz.prog 61 = true := by kernel_rfl
theorem W2 : AD Tryz.prog 62 = true := by kernel_rfl
theorem YO : AD Tryz.prog 63 = true := by kernel_rfl
theorem Xq : AD Tryz.prog 64 = true := by kernel_rfl
theorem YS : AD Tryz.prog 65 = true := by kernel_rfl
theorem TO : AD Tryz.prog 66 = true := by kernel_rfl
theorem YE : AD Tryz.prog 67 = true := by kernel_rfl
theorem Yf : AD Tryz.prog 68 = true := by kernel_rfl
theorem Yt : AD Tryz.prog 69 = true := by kernel_rfl
theorem Y0 : AD Tryz.prog 7 = true := by kernel_rfl
theorem YH : AD Tryz.prog 70 = true := by kernel_rfl
theorem Yh : AD Tryz.prog 71 = true := by kernel_rfl
theorem Ys : AD Tryz.prog 72 = true := by kernel_rfl
theorem XR : AD Tryz.prog 73 = true := by kernel_rfl
theorem X8 : AD Tryz.prog 74 = true := by kernel_rfl
theorem U7 : AD Tryz.prog 75 = true := by kernel_rfl
theorem Yb : AD Tryz.prog 76 = true := by kernel_rfl
theorem Yq : AD Tryz.prog 77 = true := by kernel_rfl
theorem X9 : AD Tryz.prog 78 = true := by kernel_rfl
theorem Xg : AD Tryz.prog 79 = true := by kernel_rfl
theorem YU : AD Tryz.prog 8 = true := by kernel_rfl
theorem Yi : AD Tryz.prog 80 = true := by kernel_rfl
theorem W0 : AD Tryz.prog 81 = true := by kernel_rfl
theorem XZ : AD Tryz.prog 82 = true := by kernel_rfl
theorem YD : AD Tryz.prog 83 = true := by kernel_rfl
theorem X4 : AD Tryz.prog 84 = true := by kernel_rfl
theorem XW : AD Tryz.prog 85 = true := by kernel_rfl
theorem YA : AD Tryz.prog 86 = true := by kernel_rfl
theorem WN : AD Tryz.prog 87 = true := by kernel_rfl
theorem X1 : AD Tryz.prog 88 = true := by kernel_rfl
theorem We : AD Tryz.prog 89 = true := by kernel_rfl
theorem W7 : AD Tryz.prog 90 = true := by kernel_rfl
theorem Yy : AD Tryz.prog 91 = true := by kernel_rfl
theorem Xd : AD Tryz.prog 92 = true := by kernel_rfl
theorem Yn : AD Tryz.prog 93 = true := by kernel_rfl
theorem XT : AD Tryz.prog 94 = true := by kernel_rfl
theorem YG : AD Tryz.prog 95 = true := by kernel_rfl
theorem Xn : AD Tryz.prog 96 = true := by kernel_rfl
theorem WL : AD Tryz.prog 97 = true := by kernel_rfl
theorem Ye : AD Tryz.prog 99 = true := by kernel_rfl
theorem RQ : OR Tryz.prog 126 .u64 = true := by kernel_rfl
theorem RP : OR Tryz.prog 137 .u32 = true := by kernel_rfl
theorem Vk : OR Tryz.prog 140 .u64 = true := by kernel_rfl
theorem Vs : OR Tryz.prog 3 .i64 = true := by kernel_rfl
theorem XO : IK Tryz.prog 32 = some [(0, 1), (1, 1), (2, 1), (3, 1)] := by kernel_rfl
theorem FD : IK Tryz.prog 38 = some [(0, 1), (1, 1), (2, 1)] := by kernel_rfl
theorem Uy : IK Tryz.prog 54 = some [(0, 1), (1, 1), (2, 1)] := by kernel_rfl
theorem Yv : IK Tryz.prog 63 = some [(0, 1), (1, 1), (2, 1), (3, 1), (4, 1), (5, 1)] := by kernel_rfl
theorem Kg : IK Tryz.prog 93 = some [(0, 1), (1, 1), (2, 1)] := by kernel_rfl
theorem T4 : TS Tryz.prog 54 = some [0, 0, 0] := by kernel_rfl
theorem FX : sliceB Tryz.prog 117 93 = true := by kernel_rfl
theorem TK : sliceB Tryz.prog 133 9 = true := by kernel_rfl
theorem QJ : sliceB Tryz.prog 22 5 = true := by kernel_rfl
theorem SW : sliceB Tryz.prog 23 60 = true := by kernel_rfl
theorem A3 : sliceB Tryz.prog 28 54 = true := by kernel_rfl
theorem Ax : sliceB Tryz.prog 29 3 = true := by kernel_rfl
theorem Ek : sliceB Tryz.prog 30 63 = true := by kernel_rfl
theorem C0 : sliceB Tryz.prog 36 74 = true := by kernel_rfl
theorem Hj : sliceB Tryz.prog 47 28 = true := by kernel_rfl
theorem Gb : sliceB Tryz.prog 61 96 = true := by kernel_rfl
theorem Gg : sliceB Tryz.prog 70 38 = true := by kernel_rfl
theorem Kl : sliceB Tryz.prog 86 29 = true := by kernel_rfl
theorem GX : sliceB Tryz.prog 96 4 = true := by kernel_rfl
theorem Ty : (Tryz.prog.underlying 126).isSome = true := by kernel_rfl
theorem RO : (Tryz.prog.underlying 137).isSome = true := by kernel_rfl
theorem Vl : (Tryz.prog.underlying 140).isSome = true := by kernel_rfl
theorem YX : (Tryz.prog.underlying 3).isSome = true := by kernel_rfl
theorem WC : (Tryz.prog.underlying 5).isSome = true := by kernel_rfl
theorem Yg : (Tryz.prog.underlying 74).isSome = true := by kernel_rfl
theorem X7 : RL Tryz.prog 9 = true := by kernel_rfl
theorem YP : He Tryz.prog 25 4 = true := by kernel_rfl
theorem NG : He Tryz.prog 28 1 = true := by kernel_rfl
theorem MB : He Tryz.prog 29 1 = true := by kernel_rfl
theorem CU : He Tryz.prog 3 1 = true := by kernel_rfl
theorem Yr : He Tryz.prog 30 1 = true := by kernel_rfl
theorem B5 : He Tryz.prog 32 4 = true := by kernel_rfl
theorem Ym : He Tryz.prog 36 1 = true := by kernel_rfl
theorem AE : He Tryz.prog 38 3 = true := by kernel_rfl
theorem Rk : He Tryz.prog 4 1 = true := by kernel_rfl
theorem YY : He Tryz.prog 5 1 = true := by kernel_rfl
theorem B8 : He Tryz.prog 54 3 = true := by kernel_rfl
theorem Wi : He Tryz.prog 60 6 = true := by kernel_rfl
theorem Xj : He Tryz.prog 61 1 = true := by kernel_rfl
theorem Ef : He Tryz.prog 63 6 = true := by kernel_rfl
theorem FB : He Tryz.prog 74 1 = true := by kernel_rfl
theorem YZ : He Tryz.prog 9 1 = true := by kernel_rfl
theorem DV : He Tryz.prog 93 3 = true := by kernel_rfl
theorem Ns : He Tryz.prog 96 1 = true := by kernel_rfl
theorem Sa : Ei Tryz.prog 28 = some (.slice none 0 0) := by kernel_rfl
theorem Wp : Ei Tryz.prog 29 = some (.slice none 0 0) := by kernel_rfl
theorem J7 : Ei Tryz.prog 3 = some (.int .i64 0) := by kernel_rfl
theorem Qq : Ei Tryz.prog 32 = some (.agg #[.slice none 0 0, .slice none 0 0, .slice none 0 0, .slice none 0 0]) := by kernel_rfl
theorem BU : Ei Tryz.prog 38 = some (.agg #[.slice none 0 0, .slice none 0 0, .slice none 0 0]) := by kernel_rfl
theorem WF : Ei Tryz.prog 4 = some (.bool false) := by kernel_rfl
theorem Iw : Ei Tryz.prog 54 = some (.agg #[.int .i64 0, .int .i64 0, .int .i64 0]) := by kernel_rfl
theorem Yz : Ei Tryz.prog 60 = some (.agg #[.int .u8 0, .int .u8 0, .int .u8 0, .bool false, .int .u16 0, .int .u16 0]) := by kernel_rfl
theorem L1 : Ei Tryz.prog 63 = some (.agg #[.int .i64 0, .int .i64 0, .int .i64 0, .bool false, .slice none 0 0, .slice none 0 0]) := by kernel_rfl
theorem PA : Ei Tryz.prog 74 = some (.int .u8 0) := by kernel_rfl
theorem Y4 : Ei Tryz.prog 9 = some (.string ⟨#[]⟩) := by kernel_rfl
theorem F3 : Ei Tryz.prog 93 = some (.agg #[.int .i64 0, .int .i64 0, .int .i64 0]) := by kernel_rfl
theorem WM : Ei Tryz.prog 96 = some (.slice none 0 0) := by kernel_rfl
set_option maxRecDepth 10000
theorem Ia (N : Nat) (p0 : List Int) (p1 : Int) (r : Int) (h : DE N p0 p1 = some r) : Ar Tryz.prog 20 [pD (.sl (p0.map Cb)), iD p1] [] (iD r) := by
 unfold DE at h
 refine cw (n := 14) (rs := [.tmp 4]) Tryz.func20 fun w0 S0 => ?_
 refine wq rfl (qa rfl (Ad (wp rfl (qw 2 rfl (AF QJ rfl (AV rfl (Ad ?_)))))))
 refine A5 h (fun h => ?_) fun h => ?_
 ·refine wq rfl (qw 2 rfl ?_)
  refine BS h fun v2 a2 b2 h => qi QJ YY a2 (Ah b2) rfl (qk XK rfl (Jx WC Vs rfl (qe rfl ?_)))
  obtain rfl := sj h
  refine Ae (sm [] [(4, iD ((wI .i64 v2)))] [] rfl rfl) (Aq ?_)
  exact ⟨⟨[_], tm, rfl⟩, tv⟩
 ·refine Al (wq rfl (qe rfl ?_))
  obtain rfl := sj h
  refine Ae (sm [] [(4, iD 0)] [] rfl rfl) (Aq ?_)
  exact ⟨⟨[_], tm, rfl⟩, tv⟩
theorem B4 (N : Nat) (p0 : Au) (r : Bool) (h : AX N p0 = some r) : Ar Tryz.prog 21 [.e (.agg (Bd p0))] [] (bD r) := by
 unfold AX at h
 refine cw (n := 11) (rs := [.tmp 2]) Tryz.func21 fun w0 S0 => ?_
 refine wq rfl (qb rfl (qe rfl ?_))
 refine AL h (fun v1 => mk [(2, bD v1)] []) (fun j1 h => ?_) (fun v1 h => ?_)
 ·refine Aj Ay rfl (qf FF rfl (ql BQ rfl (Bp rfl (qm rfl ?_))))
  refine Dm 6 h rfl (fun h => ?_) fun h => ?_
  ·refine qw 3 rfl (qp rfl (qe rfl ?_))
   exact sn [] h
  ·refine qf FF rfl (ql BQ rfl (Bp rfl (qp rfl (qe rfl ?_))))
   exact sn [] h
 ·obtain rfl := sj h
  refine Ae (sm [] [(2, bD v1)] [] rfl rfl) (Aq ?_)
  exact ⟨⟨[_], tm, rfl⟩, tv⟩
theorem Ir (N : Nat) (p0 : Int) (p1 : Int) (p2 : Int) (p3 : Bool) (r : (List (List Bool))) (h : DH N p0 p1 p2 p3 = some r) : Ar Tryz.prog 22 [iD p0, iD p1, pD (.val (.int .u16 p2)), bD p3] [(1, r.map (EU eB))] (oD (.own 0)) := by
 unfold DH at h
 refine cw (n := 47) (rs := [.tmp 8]) Tryz.func22 fun w0 S0 => ?_
 refine wq rfl (qa rfl (Ad (wq rfl (qa rfl (Ad (wp rfl (qe rfl ?_)))))))
 refine AH (L := B1 N p0 p1 p2 p3) h (fun v1 => mk [(0, iD p0), (1, iD p1), (2, pD (.val (.int .u16 p2))), (3, bD p3), (9, oD (.own 2001)), (10, iD v1.2)] [(2001, .vec 1 (v1.1.map (EU eB)))]) (fun v2 => mk [(9, oD (.own 2002))] [(2002, .vec 1 (v2.map (EU eB)))]) (fun _ _ => rfl) ((Bt 9 2010 1 rfl rfl rfl).trans (sm [(2001, 2010)] _ _ rfl rfl)) (fun j1 n1 v1 h => ?_) (fun v2 s h hs => ?_)
 ·unfold B1 at h
  refine wp rfl (qw 2 rfl (AV rfl (Ad ?_)))
  refine A5 h (fun h => ?_) fun h => ?_
  ·refine Al (AN (AM (wq rfl (qa rfl (Ad (wp rfl (qe rfl ?_)))))))
   refine AH (L := B3 N p1 p2 p3 v1) h (fun v4 => mk [(0, iD p0), (1, iD p1), (2, pD (.val (.int .u16 p2))), (3, bD p3), (9, oD (.own 2003)), (10, iD v1.2), (11, oD (.own 2004)), (12, iD v4.2)] [(2003, .vec 1 (v1.1.map (EU eB))), (2004, .vec 1 (v4.1.map eB))]) (fun v5 => mk [(0, iD p0), (1, iD p1), (2, pD (.val (.int .u16 p2))), (3, bD p3), (9, oD (.own 2005)), (10, iD v1.2), (11, oD (.own 2006))] [(2005, .vec 1 (v1.1.map (EU eB))), (2006, .vec 1 (v5.map eB))]) (fun _ _ => rfl) ((Bt 11 2009 1 rfl rfl rfl).trans (sm [(2003, 2001), (2004, 2009)] _ _ rfl rfl)) (fun j4 n4 v4 h => ?_) (fun v5 s h hs => ?_)
   ·unfold B3 at h
    refine wp rfl (qw 2 rfl (AV rfl (Ad ?_)))
    refine A5 h (fun h => ?_) fun h => ?_
    ·refine Al ?_
     refine AL h (fun v7 => mk [(0, iD p0), (1, iD p1), (2, pD (.val (.int .u16 p2))), (3, bD p3), (9, oD (.own 2007)), (10, iD v1.2), (11, oD (.own 2008)), (12, iD v4.2)] [(2007, .vec 1 (v1.1.map (EU eB))), (2008, .vec 1 (v7.map eB))]) (fun j7 h => ?_) (fun v7 h => ?_)
     ·refine AM (Aj Ay rfl (qw 3 rfl ?_))
      refine Dm 25 h rfl (fun h => ?_) fun h => ?_
      ·refine qw 2 rfl (Bp rfl (qp rfl (qm rfl ?_)))
       refine Dm 30 h rfl (fun h => ?_) fun h => ?_
       ·refine qw 8 rfl (qp rfl (Eu GX Rk WF rfl ?_))
        refine E1 h fun c10 h => El (f := eB) GX GX Rk Wv WF c10 rfl (qe rfl ?_)
        exact sn [(2007, 2003), (2008, 41)] h
       ·refine qw 2 rfl (K7 rfl (qm rfl (Be rfl ?_)))
        refine E1 h fun c11 h => IX rfl c11 (Ld rfl (by decide) (Bp rfl (qp rfl (Eu GX Rk WF rfl ?_))))
        refine E1 h fun c12 h => El (f := eB) GX GX Rk Wv WF c12 rfl (qe rfl ?_)
        exact sn [(2007, 2003), (2008, 41)] h
      ·refine qw 3 rfl (qp rfl (qw 3 rfl (K7 rfl (qm rfl (Be rfl ?_)))))
       refine E1 h fun c13 h => IX rfl c13 (Ld rfl (by decide) (Bp rfl (qp rfl (Eu GX Rk WF rfl ?_))))
       refine E1 h fun c14 h => El (f := eB) GX GX Rk Wv WF c14 rfl (qe rfl ?_)
       exact sn [(2007, 2003), (2008, 41)] h
     ·refine Aj Ay rfl (qm rfl (Be rfl (qe rfl ?_)))
      exact sn [(2003, 2007), (2004, 2008)] h
    ·refine AS ?_
     exact sn [(2005, 2003), (2006, 2004)] h
   ·refine Ae hs (Aj Ay rfl (qw 2 rfl (DJ (AQ 2006 _ _ rfl rfl) (Eu Gb Ns WM rfl ?_))))
    refine E1 h fun c15 h => El (f := (EU eB)) Gb Gb Ns Xh WM c15 rfl (qa rfl (Ad (Aj Ay rfl (qm rfl (Be rfl (qe rfl ?_))))))
    exact sn [(2001, 45)] h
  ·refine AS ?_
   exact sn [(2002, 2001)] h
 ·refine Ae hs (wq rfl (qm rfl (qe rfl ?_)))
  obtain rfl := sj h
  refine Ae (sm [(1000, 2002)] [(8, oD (.own 1000))] [(1000, .vec 1 (v2.map (EU eB)))] rfl rfl) (Aq ?_)
  exact ⟨⟨[_], tm, rfl⟩, ⟨rfl, tv⟩⟩
theorem LQ (N : Nat) (p0 : BV) (r : Aa × Bool) (h : ES N p0 = some r) : Ar Tryz.prog 7 [.e (.agg (Cz p0))] [(1, r.1.fb.map An), (1, r.1.fi.map An), (1, r.1.fo.map An), (6, r.1.fd.map AT)] (.tup [.agg [.own 0, .own 1, .own 2, .own 3], .one (.pure (.val (.bool r.2)))]) := by
 unfold ES at h
 refine cw (n := 152) (rs := [.cell 2 32, .tmp 3]) Tryz.func7 fun w0 S0 => ?_
 refine wq rfl (qb rfl (qz Qq rfl (qa rfl (Ad (AN ?_)))))
 refine AL h (fun v1 => mk [(1, oD (.ptr 1 0)), (2, oD (.ptr 2 0)), (19, bD v1)] [(1, .box (Cz p0)), (2, .box [.pure (.nil0), .pure (.nil0), .pure (.nil0), .pure (.nil0)])]) (fun j1 h => ?_) (fun v1 h => ?_)
 ·refine Aj Ay rfl (qf OX rfl (ql TZ rfl (AF QJ rfl (Fe rfl (qm rfl ?_)))))
  refine Dm 14 h rfl (fun h => ?_) fun h => ?_
  ·refine qw 4 rfl (qp rfl (Ad ?_))
   exact sn [] h
  ·refine qf Po rfl (ql Wd rfl (AF SW rfl (Fe rfl (qp rfl (Ad ?_)))))
   exact sn [] h
 ·refine A5 h (fun h => ?_) fun h => ?_
  ·refine wq rfl (AU Qq XO rfl (qs B5 rfl (qe rfl ?_)))
   obtain rfl := sj h
   refine Ae ((Az 2 0 2001 1 _ rfl rfl rfl rfl).trans ((Az 2 1 2002 1 _ rfl rfl rfl rfl).trans ((Az 2 2 2003 1 _ rfl rfl rfl rfl).trans ((Az 2 3 2004 6 _ rfl rfl rfl rfl).trans (sm [(1000, 2001), (1001, 2002), (1002, 2003), (1003, 2004)] [(2, oD (.ptr 2 0)), (3, bD false)] [(2, .box [.own 1000, .own 1001, .own 1002, .own 1003]), (1000, .vec 1 ((([] : List Int)).map An)), (1001, .vec 1 ((([] : List Int)).map An)), (1002, .vec 1 ((([] : List Int)).map An)), (1003, .vec 6 ((([] : List Au)).map AT))] rfl rfl))))) (Aq ?_)
   exact ⟨⟨[_, _], ⟨.cellN _ _ _ _ _ _ _ rfl rfl Ch B5 rfl rfl (FM rfl), tm⟩, rfl⟩, ⟨rfl, rfl, rfl, rfl, tv⟩⟩
  ·refine Al (wq rfl (qz Qq rfl (Ad (wp rfl (qe rfl ?_)))))
   refine AH (L := Ci N p0) h (fun v4 => mk [(1, oD (.ptr 1 0)), (2, oD (.ptr 2 0)), (4, oD (.ptr 4 0)), (5, iD v4.2.2.2)] [(1, .box (Cz p0)), (2, .box [.pure (.nil0), .pure (.nil0), .pure (.nil0), .pure (.nil0)]), (4, .box [.own 2005, .own 2006, .own 2007, .pure (.nil0)]), (2005, .vec 1 (v4.1.map An)), (2006, .vec 1 (v4.2.1.map An)), (2007, .vec 1 (v4.2.2.1.map An))]) (fun v5 => mk [(1, oD (.ptr 1 0)), (2, oD (.ptr 2 0)), (4, oD (.ptr 4 0))] [(1, .box (Cz p0)), (2, .box [.pure (.nil0), .pure (.nil0), .pure (.nil0), .pure (.nil0)]), (4, .box [.own 2008, .own 2009, .own 2010, .pure (.nil0)]), (2008, .vec 1 (v5.1.map An)), (2009, .vec 1 (v5.2.1.map An)), (2010, .vec 1 (v5.2.2.map An))]) (fun _ _ => rfl) ((Az 4 0 2011 1 _ rfl rfl rfl rfl).trans ((Az 4 1 2012 1 _ rfl rfl rfl rfl).trans ((Az 4 2 2013 1 _ rfl rfl rfl rfl).trans (sm [(2005, 2011), (2006, 2012), (2007, 2013)] _ _ rfl rfl)))) (fun j4 n4 v4 h => ?_) (fun v5 s h hs => ?_)
   ·unfold Ci at h
    refine wp rfl (qm rfl (qf OX rfl (ql TZ rfl (AF QJ rfl (AV rfl (Ad ?_))))))
    refine A5 h (fun h => ?_) fun h => ?_
    ·refine Al (AN (AM (wq rfl (qf OX rfl (ql TZ rfl (qm rfl ?_))))))
     refine BS h fun v7 a7 b7 h => qi QJ YY a7 (Ah b7) rfl (qk XK rfl (Ld rfl (by decide) (Jx WC Vs rfl (Be rfl (qa rfl (Ad (wq rfl (qf Bq rfl (ql A0 rfl (qm rfl (Eu Ax CU J7 rfl ?_)))))))))))
     refine E1 h fun c8 h => El (f := An) Ax Ax CU KR J7 c8 rfl (qf Bq rfl (qs MB rfl (Ad (wq rfl (qf Gx rfl (ql A0 rfl (qf Um rfl (ql TZ rfl (qm rfl ?_)))))))))
     refine BH h fun v9 a9 h => As [] (Ia N p0.fi v4.2.2.2 v9 a9) XA rfl (qm rfl ?_)
     refine E1 h fun c10 h => Ld rfl c10 (Eu Ax CU J7 rfl ?_)
     refine E1 h fun c11 h => El (f := An) Ax Ax CU KR J7 c11 rfl (qf Gx rfl (qs MB rfl (AI (by kernel_rfl) (Aj Ay rfl (qf HZ rfl (ql A0 rfl (qf Ut rfl (ql TZ rfl (qm rfl ?_)))))))))
     refine BH h fun v12 a12 h => As [] (Ia N p0.fo v4.2.2.2 v12 a12) XA rfl (qm rfl ?_)
     refine E1 h fun c13 h => Ld rfl c13 (Eu Ax CU J7 rfl ?_)
     refine E1 h fun c14 h => El (f := An) Ax Ax CU KR J7 c14 rfl (qf HZ rfl (qs MB rfl (AI (by kernel_rfl) (Aj Ay rfl (qm rfl (Be rfl (qe rfl ?_)))))))
     exact sn [(2005, 40), (2006, 51), (2007, 62)] h
    ·refine AS ?_
     exact sn [(2008, 2005), (2009, 2006), (2010, 2007)] h
   ·refine Ae hs (wp rfl (qe rfl ?_))
    refine AH (L := Bj N p0 v5) h (fun v15 => mk [(1, oD (.ptr 1 0)), (2, oD (.ptr 2 0)), (4, oD (.ptr 4 0)), (7, iD v15.2)] [(1, .box (Cz p0)), (2, .box [.pure (.nil0), .pure (.nil0), .pure (.nil0), .pure (.nil0)]), (4, .box [.own 2014, .own 2015, .own 2016, .own 2017]), (2014, .vec 1 (v5.1.map An)), (2015, .vec 1 (v5.2.1.map An)), (2016, .vec 1 (v5.2.2.map An)), (2017, .vec 6 (v15.1.map AT))]) (fun v16 => mk [(2, oD (.ptr 2 0)), (4, oD (.ptr 4 0))] [(2, .box [.pure (.nil0), .pure (.nil0), .pure (.nil0), .pure (.nil0)]), (4, .box [.own 2018, .own 2019, .own 2020, .own 2021]), (2018, .vec 1 (v5.1.map An)), (2019, .vec 1 (v5.2.1.map An)), (2020, .vec 1 (v5.2.2.map An)), (2021, .vec 6 (v16.map AT))]) (fun _ _ => rfl) ((Az 4 3 2039 6 _ rfl rfl rfl rfl).trans (sm [(2014, 2008), (2015, 2009), (2016, 2010), (2017, 2039)] _ _ rfl rfl)) (fun j15 n15 v15 h => ?_) (fun v16 s h hs => ?_)
    ·unfold Bj at h
     refine AN ?_
     refine AL h (fun v17 => mk [(1, oD (.ptr 1 0)), (2, oD (.ptr 2 0)), (4, oD (.ptr 4 0)), (7, iD v15.2), (74, bD v17)] [(1, .box (Cz p0)), (2, .box [.pure (.nil0), .pure (.nil0), .pure (.nil0), .pure (.nil0)]), (4, .box [.own 2022, .own 2023, .own 2024, .own 2025]), (2022, .vec 1 (v5.1.map An)), (2023, .vec 1 (v5.2.1.map An)), (2024, .vec 1 (v5.2.2.map An)), (2025, .vec 6 (v15.1.map AT))]) (fun j17 h => ?_) (fun v17 h => ?_)
     ·refine Aj Ay rfl (qm rfl (qf Po rfl (ql Wd rfl (AF SW rfl (AV rfl (qm rfl ?_))))))
      refine Dm 69 h rfl (fun h => ?_) fun h => ?_
      ·refine qf Bq rfl (ql A0 rfl (Fr Ax rfl (Fe rfl (qp rfl (Ad ?_)))))
       exact sn [(2022, 2014), (2023, 2015), (2024, 2016), (2025, 2017)] h
      ·refine qw 4 rfl (qp rfl (Ad ?_))
       exact sn [(2022, 2014), (2023, 2015), (2024, 2016), (2025, 2017)] h
     ·refine A5 h (fun h => ?_) fun h => ?_
      ·refine Al (AN (AM (wq rfl (qf Po rfl (ql Wd rfl (qm rfl ?_))))))
       refine BS h fun v20 a20 b20 h => qi SW Wi a20 (Ah b20) rfl (qK XX Wi rfl (qz Yz rfl (qs Wi rfl (Ad (wq rfl (qf UJ rfl (ql XK rfl (Ld rfl (by decide) (Jx WC Vs rfl (Be rfl (qf Ul rfl (ql XK rfl (Jx WC Vs rfl (qf Bq rfl (ql A0 rfl (Fr Ax rfl ?_))))))))))))))))
       refine E1 h fun c21 h => Ld rfl c21 (qf Vg rfl (ql XK rfl (Jx WC Vs rfl (qf Bq rfl (ql A0 rfl (Fr Ax rfl ?_))))))
       refine E1 h fun c22 h => Ld rfl c22 (AU L1 Yv rfl (qz L1 rfl (qs Ef rfl (AI (by kernel_rfl) ?_))))
       refine AL h (fun v23 => mk [(1, oD (.ptr 1 0)), (2, oD (.ptr 2 0)), (4, oD (.ptr 4 0)), (7, iD v15.2), (8, oD (.ptr 8 0)), (9, oD (.ptr 9 0))] [(1, .box (Cz p0)), (2, .box [.pure (.nil0), .pure (.nil0), .pure (.nil0), .pure (.nil0)]), (4, .box [.own 2026, .own 2027, .own 2028, .own 2029]), (8, .box (LU v20)), (9, .box [iC ((wI .i64 (1 + (wI .i64 ((Int.tmod v20.ff 4)))))), iC ((Int.tmod ((wI .i64 v20.fg)) ((v5.1.length : Int)))), iC ((Int.tmod ((wI .i64 v20.fk)) ((v5.1.length : Int)))), .pure (.val (.bool v23)), .pure (.nil0), .pure (.nil0)]), (2026, .vec 1 (v5.1.map An)), (2027, .vec 1 (v5.2.1.map An)), (2028, .vec 1 (v5.2.2.map An)), (2029, .vec 6 (v15.1.map AT))]) (fun j23 h => ?_) (fun v23 h => ?_)
       ·refine Aj Ay rfl (qf UU rfl (ql RN rfl (qm rfl ?_)))
        refine Dm 104 h rfl (fun h => ?_) fun h => ?_
        ·refine qL Hu Ef rfl ?_
         refine BH h fun v25 a25 h => As [] (B4 N ((Au.mk ((wI .i64 (1 + (wI .i64 ((Int.tmod v20.ff 4)))))) ((Int.tmod ((wI .i64 v20.fg)) ((v5.1.length : Int)))) ((Int.tmod ((wI .i64 v20.fk)) ((v5.1.length : Int)))) false (([] : List (List Bool))) (([] : List (List Bool))))) v25 a25) O1 rfl (BT rfl (qp rfl (qf IH rfl (qs Rk rfl (Ad ?_)))))
         exact sn [(2026, 2022), (2027, 2023), (2028, 2024), (2029, 2025)] h
        ·refine qw 3 rfl (qp rfl (qf IH rfl (qs Rk rfl (Ad ?_))))
         exact sn [(2026, 2022), (2027, 2023), (2028, 2024), (2029, 2025)] h
       ·refine wq rfl (qf Bq rfl (ql A0 rfl (qf CN rfl (ql BQ rfl ?_))))
        refine BS h fun v26 a26 b26 h => qI Ax CU a26 (Ah b26) rfl (qj BQ (Ah b26) rfl (qf Bq rfl (ql A0 rfl (qf H1 rfl (ql BQ rfl ?_)))))
        refine BS h fun v27 a27 b27 h => qI Ax CU a27 (Ah b27) rfl (qj BQ (Ah b27) rfl (qf Uu rfl (ql WW rfl ?_)))
        refine BH h fun v28 a28 h => As [2030] (Ir N v26 v27 v20.ft false v28 a28) Xb rfl (qf Jh rfl (qs Xj rfl (AI (by kernel_rfl) ?_)))
        refine AL h (fun v29 => mk [(1, oD (.ptr 1 0)), (2, oD (.ptr 2 0)), (4, oD (.ptr 4 0)), (7, iD v15.2), (9, oD (.ptr 9 0))] [(1, .box (Cz p0)), (2, .box [.pure (.nil0), .pure (.nil0), .pure (.nil0), .pure (.nil0)]), (4, .box [.own 2031, .own 2032, .own 2033, .own 2034]), (9, .box [iC ((wI .i64 (1 + (wI .i64 ((Int.tmod v20.ff 4)))))), iC ((Int.tmod ((wI .i64 v20.fg)) ((v5.1.length : Int)))), iC ((Int.tmod ((wI .i64 v20.fk)) ((v5.1.length : Int)))), .pure (.val (.bool v23)), .own 2035, .own 2036]), (2031, .vec 1 (v5.1.map An)), (2032, .vec 1 (v5.2.1.map An)), (2033, .vec 1 (v5.2.2.map An)), (2034, .vec 6 (v15.1.map AT)), (2035, .vec 1 (v28.map (EU eB))), (2036, .vec 1 (v29.map (EU eB)))]) (fun j29 h => ?_) (fun v29 h => ?_)
        ·refine wq rfl (qf FF rfl (ql BQ rfl (Bp rfl (Ad ?_))))
         refine A5 h (fun h => ?_) fun h => ?_
         ·refine Aj Ay rfl (qf Bq rfl (ql A0 rfl (qf CN rfl (ql BQ rfl ?_))))
          refine BS h fun v31 a31 b31 h => qI Ax CU a31 (Ah b31) rfl (qj BQ (Ah b31) rfl (qf Bq rfl (ql A0 rfl (qf CN rfl (ql BQ rfl ?_)))))
          refine BS h fun v32 a32 b32 h => qI Ax CU a32 (Ah b32) rfl (qj BQ (Ah b32) rfl (qf T9 rfl (ql WW rfl ?_)))
          refine BH h fun v33 a33 h => As [2037] (Ir N v31 v32 v20.fu true v33 a33) Xb rfl (qf GB rfl (qs Xj rfl (AI (by kernel_rfl) ?_)))
          exact sn [(2031, 2026), (2032, 2027), (2033, 2028), (2034, 2029), (2035, 2030), (2036, 2037)] h
         ·refine Al ?_
          exact S6 _ h ((Az 9 5 2038 1 _ rfl rfl rfl rfl).trans (sm [(2031, 2026), (2032, 2027), (2033, 2028), (2034, 2029), (2035, 2030), (2036, 2038)] _ _ rfl rfl))
        ·refine Aj Ay rfl (qf CJ rfl (ql Hs rfl (qL Hu Ef rfl (DJ (AQ 2035 _ _ rfl rfl) (DJ (AQ 2036 _ _ rfl rfl) (Eu Ek Ef L1 rfl ?_))))))
         refine E1 h fun c34 h => El (f := AT) Ek Ek Ef Xu L1 c34 rfl (qf CJ rfl (qs Yr rfl (Ad (Aj Ay rfl (qm rfl (Be rfl (qe rfl ?_)))))))
         exact sn [(2014, 2031), (2015, 2032), (2016, 2033), (2017, 149)] h
      ·refine AS ?_
       exact sn [(2018, 2022), (2019, 2023), (2020, 2024), (2021, 2025)] h
    ·refine Ae hs (wq rfl (qL Ch B5 rfl (qs B5 rfl (qe rfl ?_))))
     obtain rfl := sj h
     refine Ae (sm [(1000, 2018), (1001, 2019), (1002, 2020), (1003, 2021)] [(2, oD (.ptr 2 0)), (3, bD true)] [(2, .box [.own 1000, .own 1001, .own 1002, .own 1003]), (1000, .vec 1 (v5.1.map An)), (1001, .vec 1 (v5.2.1.map An)), (1002, .vec 1 (v5.2.2.map An)), (1003, .vec 6 (v16.map AT))] rfl rfl) (Aq ?_)
     exact ⟨⟨[_, _], ⟨.cellN _ _ _ _ _ _ _ rfl rfl Ch B5 rfl rfl (FM rfl), tm⟩, rfl⟩, ⟨rfl, rfl, rfl, rfl, tv⟩⟩
theorem Jz (N : Nat) (r : Aa × (List Ab)) (h : Fq N = some r) : Ar Tryz.prog 23 [] [(1, r.1.fb.map An), (1, r.1.fi.map An), (1, r.1.fo.map An), (3, r.2.map Af)] (.tup [.agg [.own 0, .own 1, .own 2, sC (r.1.fd.map AT)], .one (.own 3)]) := by
 unfold Fq at h
 refine cw (n := 13) (rs := [.cell 0 32, .tmp 1]) Tryz.func23 fun w0 S0 => ?_
 refine wq rfl (qz Qq rfl (qa rfl (Ad (wq rfl (Eu Ax CU J7 rfl (Eu Ax CU J7 rfl (Eu Ax CU J7 rfl (AU Qq XO rfl (qz Qq rfl (qs B5 rfl (Ad (wq rfl (qL Ch B5 rfl (AU Iw Uy rfl (AU Iw Uy rfl (AU Iw Uy rfl (AU Iw Uy rfl (Eu A3 B8 Iw rfl (qs B5 rfl (qe rfl ?_))))))))))))))))))))
 obtain rfl := sj h
 refine Ae ((DC 0 _ rfl).trans (sm [(1000, 3), (1001, 4), (1002, 5), (1003, 12)] [(0, oD (.ptr 0 0)), (1, oD (.own 1003))] [(0, .box [.own 1000, .own 1001, .own 1002, sC ((([] : List Au)).map AT)]), (1000, .vec 1 ((([2, 2] : List Int)).map An)), (1001, .vec 1 ((([0, 0] : List Int)).map An)), (1002, .vec 1 ((([1, 1] : List Int)).map An)), (1003, .vec 3 ((([(Ab.mk 1 0 1), (Ab.mk 1 1 1), (Ab.mk 2 0 0), (Ab.mk 2 1 0)] : List Ab)).map Af))] rfl rfl)) (Aq ?_)
 exact ⟨⟨[_, _], ⟨.cellN _ _ _ _ _ _ _ rfl rfl Ch B5 rfl rfl (FM rfl), tm⟩, rfl⟩, ⟨rfl, rfl, rfl, rfl, tv⟩⟩
theorem Hc (N : Nat) (p0 : Int) (p1 : Int) (r : Bool) (h : DK N p0 p1 = some r) : Ar Tryz.prog 75 [iD p0, iD p1] [] (bD r) := by
 unfold DK at h
 refine cw (n := 12) (rs := [.tmp 4]) Tryz.func75 fun w0 S0 => ?_
 refine wq rfl (qe rfl ?_)
 refine AL h (fun v1 => mk [(4, bD v1)] []) (fun j1 h => ?_) (fun v1 h => ?_)
 ·refine Aj Ay rfl (qm rfl (EA rfl (qm rfl ?_)))
  refine Dm 7 h rfl (fun h => ?_) fun h => ?_
  ·refine qw 2 rfl (AV rfl (qp rfl (qe rfl ?_)))
   exact sn [] h
  ·refine qw 3 rfl (qp rfl (qe rfl ?_))
   exact sn [] h
 ·obtain rfl := sj h
  refine Ae (sm [] [(4, bD v1)] [] rfl rfl) (Aq ?_)
  exact ⟨⟨[_], tm, rfl⟩, tv⟩
theorem O9 (N : Nat) (p0 : Int) (p1 : Bool) (r : Bool) (h : Gv N p0 p1 = some r) : Ar Tryz.prog 95 [iD p0, bD p1] [] (bD r) := by
 unfold Gv at h
 refine cw (n := 23) (rs := [.tmp 4]) Tryz.func95 fun w0 S0 => ?_
 refine wq rfl (qe rfl ?_)
 refine AL h (fun v1 => mk [(4, bD v1)] []) (fun j1 h => ?_) (fun v1 h => ?_)
 ·refine Aj Ay rfl (qm rfl (Bp rfl (qm rfl ?_)))
  refine Dm 7 h rfl (fun h => ?_) fun h => ?_
  ·refine qw 2 rfl (qp rfl (qw 4 rfl (qu rfl (qu rfl (qw 2 rfl (qu rfl (qu rfl (qn rfl (qp rfl (qe rfl ?_))))))))))
   exact sn [] h
  ·refine qm rfl (Bp rfl (qp rfl (qm rfl ?_)))
   refine Dm 11 h rfl (fun h => ?_) fun h => ?_
   ·refine qw 3 rfl (qu rfl (qu rfl (qw 2 rfl (qu rfl (qu rfl (qn rfl (qp rfl (qe rfl ?_))))))))
    exact sn [] h
   ·refine qm rfl (Bp rfl (qm rfl ?_))
    refine Dm 14 h rfl (fun h => ?_) fun h => ?_
    ·refine qw 2 rfl (qp rfl (qw 2 rfl (BT rfl (qp rfl (qp rfl (qe rfl ?_))))))
     exact sn [] h
    ·refine qm rfl (Bp rfl (qp rfl (qm rfl ?_)))
     refine Dm 18 h rfl (fun h => ?_) fun h => ?_
     ·refine qm rfl (BT rfl (qp rfl (qp rfl (qe rfl ?_))))
      exact sn [] h
     ·refine qw 2 rfl (qp rfl (qp rfl (qe rfl ?_)))
      exact sn [] h
 ·obtain rfl := sj h
  refine Ae (sm [] [(4, bD v1)] [] rfl rfl) (Aq ?_)
  exact ⟨⟨[_], tm, rfl⟩, tv⟩
theorem LW (N : Nat) (p0 : List Bool) (p1 : Int) (r : Bool) (h : Dw N p0 p1 = some r) : Ar Tryz.prog 107 [pD (.sl (p0.map eB)), oD (.rop [.val (.int .i64 p1)])] [] (bD r) := by
 unfold Dw at h
 refine cw (n := 8) (rs := [.tmp 3]) Tryz.func107 fun w0 S0 => ?_
 refine wq rfl (qa rfl (Ad (wq rfl (qm rfl (AF GX rfl (qk BQ rfl (Bk rfl (qe rfl ?_))))))))
 obtain rfl := sj h
 refine Ae (sm [] [(3, bD (((p0.length : Int) != p1)))] [] rfl rfl) (Aq ?_)
 exact ⟨⟨[_], tm, rfl⟩, tv⟩
theorem HI (N : Nat) (p0 : List (List Bool)) (p1 : (List Bool) → Option Bool) (r : Int) (h : CZ N p0 p1 = some r) : Ar Tryz.prog 112 [pD (.sl (p0.map (EU eB))), oD (.clo (Nw (SD false (EU eB)) tB p1))] [] (iD r) := by
 unfold CZ at h
 refine cw (n := 19) (rs := [.tmp 4]) Tryz.func112 fun w0 S0 => ?_
 refine wq rfl (qa rfl (Ad (wp rfl (qm rfl (AF Gb rfl (qm rfl (Ad ?_)))))))
 refine AH (L := Bg N p0 p1) h (fun v1 => mk [(0, pD (.sl (p0.map (EU eB)))), (1, oD (.clo (Nw (SD false (EU eB)) tB p1))), (7, iD ((p0.length : Int))), (8, iD v1)] []) (fun v2 => mk [] []) (fun _ _ => rfl) (sm [] _ _ rfl rfl) (fun j1 n1 v1 h => ?_) (fun v2 s h hs => ?_)
 ·unfold Bg at h
  refine wq rfl (AV rfl (Ad (AN ?_)))
  refine A5 h (fun h => ?_) fun h => ?_
  ·refine Al (AN (AM (wq rfl (qm rfl (qa rfl (Ad (wq rfl (qw 3 rfl ?_))))))))
   refine BS h fun v4 a4 b4 h => qi Gb Ns a4 (Ah b4) rfl (qk OS rfl ?_)
   refine BH h fun v5 a5 h => RZ (ds0 := [_]) (ar := (SD false (EU eB)) v4) (.p rfl) rfl rfl ⟨rfl, tv⟩ rfl rfl rfl (RU (R1 _ _ (Xy Ya)) a5) ?_
   refine Ad ?_
   refine A5 h (fun h => ?_) fun h => ?_
   ·refine wq rfl (qm rfl (qe rfl ?_))
    obtain rfl := sj h
    refine Ae (sm [] [(4, iD v1)] [] rfl rfl) (Aq ?_)
    exact ⟨⟨[_], tm, rfl⟩, tv⟩
   ·refine Al (Aj Ay rfl (Be rfl (qm rfl (Ad ?_))))
    exact sn [] h
  ·refine AS ?_
   exact sn [] h
 ·refine Ae hs (wq rfl (qe rfl ?_))
  obtain rfl := sj h
  refine Ae (sm [] [(4, iD ((-1)))] [] rfl rfl) (Aq ?_)
  exact ⟨⟨[_], tm, rfl⟩, tv⟩
theorem Hh (N : Nat) (p0 : List (List Bool)) (p1 : (List Bool) → Option Bool) (r : Bool) (h : CA N p0 p1 = some r) : Ar Tryz.prog 106 [pD (.sl (p0.map (EU eB))), oD (.clo (Nw (SD false (EU eB)) tB p1))] [] (bD r) := by
 unfold CA at h
 refine cw (n := 9) (rs := [.tmp 4]) Tryz.func106 fun w0 S0 => ?_
 refine wq rfl (qa rfl (Ad (wq rfl (qw 2 rfl ?_))))
 refine BH h fun v1 a1 h => As [] (HI N p0 p1 v1 a1) Xw rfl (EA rfl (qe rfl ?_))
 obtain rfl := sj h
 refine Ae (sm [] [(4, bD ((decide (0 ≤ v1))))] [] rfl rfl) (Aq ?_)
 exact ⟨⟨[_], tm, rfl⟩, tv⟩
theorem J2 (N : Nat) (p0 : List (List Bool)) (p1 : Int) (p2 : Int) (r : Bool) (h : EI N p0 p1 p2 = some r) : Ar Tryz.prog 96 [pD (.sl (p0.map (EU eB))), iD p1, iD p2] [] (bD r) := by
 unfold EI at h
 refine cw (n := 17) (rs := [.tmp 6]) Tryz.func96 fun w0 S0 => ?_
 refine wq rfl (qb rfl (qe rfl ?_))
 refine AL h (fun v1 => mk [(6, bD v1)] []) (fun j1 h => ?_) (fun v1 h => ?_)
 ·refine Aj Ay rfl (qm rfl (AF Gb rfl (qm rfl (Bp rfl (qm rfl ?_)))))
  refine Dm 11 h rfl (fun h => ?_) fun h => ?_
  ·refine qm rfl (DJ (Ll 5 [.val (.int .i64 p2)] rfl rfl) ?_)
   refine Rm (capD := [_]) (Nw (SD false (EU eB)) tB ((fun (x : List Bool) => Dw N x p2))) (.g rfl rfl) Xs rfl ⟨rfl, tv⟩ rfl (fun ar t ht => by obtain ⟨x, r, rfl, hq, rfl⟩ := Oc ht; exact LW N x p2 r hq) ?_
   refine BH h fun v3 a3 h => As [] (Hh N p0 ((fun (x : List Bool) => Dw N x p2)) v3 a3) XI rfl (BT rfl (qp rfl (qe rfl ?_)))
   exact sn [] h
  ·refine qw 4 rfl (qp rfl (qe rfl ?_))
   exact sn [] h
 ·obtain rfl := sj h
  refine Ae (sm [] [(6, bD v1)] [] rfl rfl) (Aq ?_)
  exact ⟨⟨[_], tm, rfl⟩, tv⟩
theorem NP (N : Nat) (p0 : Aa) (p1 : Au) (r : Int) (h : FR N p0 p1 = some r) : Ar Tryz.prog 76 [.e (.agg (Ag p0)), .e (.agg (Bd p1))] [] (iD r) := by
 unfold FR at h
 refine cw (n := 87) (rs := [.tmp 4]) Tryz.func76 fun w0 S0 => ?_
 refine wq rfl (qb rfl (qb rfl (qa rfl (Ad (wp rfl (qf FF rfl (ql BQ rfl (qf IH rfl (ql RN rfl ?_)))))))))
 refine BH h fun v1 a1 h => As [] (O9 N p1.ff p1.fp v1 a1) YG rfl (BT rfl (Ad ?_))
 refine A5 h (fun h => ?_) fun h => ?_
 ·refine wq rfl (qe rfl ?_)
  obtain rfl := sj h
  refine Ae (sm [] [(4, iD 1)] [] rfl rfl) (Aq ?_)
  exact ⟨⟨[_], tm, rfl⟩, tv⟩
 ·refine Al (AN ?_)
  refine AL h (fun v3 => mk [(2, oD (.ptr 2 0)), (3, oD (.ptr 3 0)), (29, bD v3)] [(2, .box (Ag p0)), (3, .box (Bd p1))]) (fun j3 h => ?_) (fun v3 h => ?_)
  ·refine Aj Ay rfl (qf CN rfl (ql BQ rfl (qf Bq rfl (ql A0 rfl (AF Ax rfl ?_)))))
   refine BH h fun v4 a4 h => As [] (Hc N p1.fg ((p0.fb.length : Int)) v4 a4) U7 rfl (BT rfl (qm rfl ?_))
   refine Dm 21 h rfl (fun h => ?_) fun h => ?_
   ·refine qw 7 rfl (qp rfl (Ad ?_))
    exact sn [] h
   ·refine qf H1 rfl (ql BQ rfl (qf Bq rfl (ql A0 rfl (AF Ax rfl ?_))))
    refine BH h fun v6 a6 h => As [] (Hc N p1.fk ((p0.fb.length : Int)) v6 a6) U7 rfl (BT rfl (qp rfl (Ad ?_)))
    exact sn [] h
  ·refine A5 h (fun h => ?_) fun h => ?_
   ·refine wq rfl (qe rfl ?_)
    obtain rfl := sj h
    refine Ae (sm [] [(4, iD 4)] [] rfl rfl) (Aq ?_)
    exact ⟨⟨[_], tm, rfl⟩, tv⟩
   ·refine Al (wq rfl (qf Bq rfl (ql A0 rfl (qf CN rfl (ql BQ rfl ?_)))))
    refine BS h fun v8 a8 b8 h => qi Ax CU a8 (Ah b8) rfl (qk BQ rfl (qa rfl (Ad (wq rfl (qf FF rfl (ql BQ rfl (Bp rfl (qa rfl (Ad (AN ?_))))))))))
    refine AL h (fun v9 => mk [(3, oD (.ptr 3 0)), (70, bD v9)] [(3, .box (Bd p1))]) (fun j9 h => ?_) (fun v9 h => ?_)
    ·refine Aj Ay rfl (qf Jh rfl (ql JS rfl (qm rfl (qf Bq rfl (ql A0 rfl (qf H1 rfl (ql BQ rfl ?_)))))))
     refine BS h fun v10 a10 b10 h => qi Ax CU a10 (Ah b10) rfl (qk BQ rfl ?_)
     refine BH h fun v11 a11 h => As [] (J2 N p1.fq v8 v10 v11 a11) Xn rfl (BT rfl (qm rfl ?_))
     refine Dm 50 h rfl (fun h => ?_) fun h => ?_
     ·refine qw 2 rfl (qu rfl (qu rfl (qu rfl (qu rfl (qu rfl (qu rfl (qn rfl (qp rfl (qw 4 rfl (qu rfl (qu rfl (qu rfl (qu rfl (qn rfl (qp rfl (AI (by kernel_rfl) ?_))))))))))))))))
      exact sn [] h
     ·refine qw 2 rfl ?_
      refine Dm 52 h rfl (fun h => ?_) fun h => ?_
      ·refine qf GB rfl (ql JS rfl (qw 2 rfl ?_))
       refine BH h fun v14 a14 h => As [] (J2 N p1.fm v8 v8 v14 a14) Xn rfl (BT rfl (qp rfl (qp rfl (qm rfl ?_))))
       refine Dm 61 h rfl (fun h => ?_) fun h => ?_
       ·refine qw 3 rfl (qu rfl (qu rfl (qu rfl (qu rfl (qn rfl (qp rfl (AI (by kernel_rfl) ?_)))))))
        exact sn [] h
       ·refine qm rfl (BT rfl (qm rfl ?_))
        refine Dm 64 h rfl (fun h => ?_) fun h => ?_
        ·refine qf GB rfl (ql JS rfl (AF Gb rfl (Fe rfl (qp rfl (qp rfl (AI (by kernel_rfl) ?_))))))
         exact sn [] h
        ·refine qw 4 rfl (qp rfl (qp rfl (AI (by kernel_rfl) ?_)))
         exact sn [] h
      ·refine qw 6 rfl (qp rfl (qp rfl (qw 2 rfl (BT rfl (qm rfl ?_)))))
       refine Dm 64 h rfl (fun h => ?_) fun h => ?_
       ·refine qf GB rfl (ql JS rfl (AF Gb rfl (Fe rfl (qp rfl (qp rfl (AI (by kernel_rfl) ?_))))))
        exact sn [] h
       ·refine qw 4 rfl (qp rfl (qp rfl (AI (by kernel_rfl) ?_)))
        exact sn [] h
    ·refine A5 h (fun h => ?_) fun h => ?_
     ·refine wq rfl (qe rfl ?_)
      obtain rfl := sj h
      refine Ae (sm [] [(4, iD 6)] [] rfl rfl) (Aq ?_)
      exact ⟨⟨[_], tm, rfl⟩, tv⟩
     ·refine Al (wp rfl (qf GB rfl (ql JS rfl (AF Gb rfl (qm rfl (Ad ?_))))))
      refine AH (L := CL N p1) h (fun v19 => mk [(3, oD (.ptr 3 0)), (73, iD ((p1.fm.length : Int))), (74, iD v19)] [(3, .box (Bd p1))]) (fun v20 => mk [] []) (fun _ _ => rfl) (sm [] _ _ rfl rfl) (fun j19 n19 v19 h => ?_) (fun v20 s h hs => ?_)
      ·unfold CL at h
       refine wq rfl (AV rfl (Ad (AN ?_)))
       refine A5 h (fun h => ?_) fun h => ?_
       ·refine Al (AN (AM (wq rfl (qm rfl (qa rfl (Ad (wq rfl (qf GB rfl (ql JS rfl (qm rfl ?_))))))))))
        refine BS h fun v22 a22 b22 h => qi Gb Ns a22 (Ah b22) rfl (qk OS rfl (qm rfl ?_))
        refine BS h fun v23 a23 b23 h => qi GX Rk a23 (Ah b23) rfl (qk RN rfl (BT rfl (Ad ?_)))
        refine A5 h (fun h => ?_) fun h => ?_
        ·refine wq rfl (qe rfl ?_)
         obtain rfl := sj h
         refine Ae (sm [] [(4, iD 1)] [] rfl rfl) (Aq ?_)
         exact ⟨⟨[_], tm, rfl⟩, tv⟩
        ·refine Al (Aj Ay rfl (Be rfl (qm rfl (Ad ?_))))
         exact sn [] h
       ·refine AS ?_
        exact sn [] h
      ·refine Ae hs (wq rfl (qe rfl ?_))
       obtain rfl := sj h
       refine Ae (sm [] [(4, iD 0)] [] rfl rfl) (Aq ?_)
       exact ⟨⟨[_], tm, rfl⟩, tv⟩
theorem FW (N : Nat) (p0 : Aa) (r : Int) (h : Cy N p0 = some r) : Ar Tryz.prog 50 [.e (.agg (Ag p0))] [] (iD r) := by
 unfold Cy at h
 refine cw (n := 81) (rs := [.tmp 2]) Tryz.func50 fun w0 S0 => ?_
 refine wq rfl (qb rfl (qa rfl (Ad (wq rfl (qf Bq rfl (ql A0 rfl (AF Ax rfl (qa rfl (Ad (AN ?_))))))))))
 refine AL h (fun v1 => mk [(1, oD (.ptr 1 0)), (3, iD ((p0.fb.length : Int))), (19, bD v1)] [(1, .box (Ag p0))]) (fun j1 h => ?_) (fun v1 h => ?_)
 ·refine Aj Ay rfl (qm rfl (Fe rfl (qm rfl ?_)))
  refine Dm 14 h rfl (fun h => ?_) fun h => ?_
  ·refine qw 4 rfl (qp rfl (Ad ?_))
   exact sn [] h
  ·refine qf CJ rfl (ql Hs rfl (AF Ek rfl (Fe rfl (qp rfl (Ad ?_)))))
   exact sn [] h
 ·refine A5 h (fun h => ?_) fun h => ?_
  ·refine wq rfl (qe rfl ?_)
   obtain rfl := sj h
   refine Ae (sm [] [(2, iD 3)] [] rfl rfl) (Aq ?_)
   exact ⟨⟨[_], tm, rfl⟩, tv⟩
  ·refine Al (AN ?_)
   refine AL h (fun v4 => mk [(1, oD (.ptr 1 0)), (31, bD v4)] [(1, .box (Ag p0))]) (fun j4 h => ?_) (fun v4 h => ?_)
   ·refine Aj Ay rfl (qf Gx rfl (ql A0 rfl (AF Ax rfl (qm rfl (Bk rfl (qm rfl ?_))))))
    refine Dm 25 h rfl (fun h => ?_) fun h => ?_
    ·refine qw 5 rfl (qp rfl (Ad ?_))
     exact sn [] h
    ·refine qf HZ rfl (ql A0 rfl (AF Ax rfl (qm rfl (Bk rfl (qp rfl (Ad ?_))))))
     exact sn [] h
   ·refine A5 h (fun h => ?_) fun h => ?_
    ·refine wq rfl (qe rfl ?_)
     obtain rfl := sj h
     refine Ae (sm [] [(2, iD 6)] [] rfl rfl) (Aq ?_)
     exact ⟨⟨[_], tm, rfl⟩, tv⟩
    ·refine Al (wp rfl (qf Bq rfl (ql A0 rfl (AF Ax rfl (qm rfl (Ad ?_))))))
     refine AH (L := BD N p0) h (fun v7 => mk [(1, oD (.ptr 1 0)), (33, pD (.sl (p0.fb.map An))), (34, iD ((p0.fb.length : Int))), (35, iD v7)] [(1, .box (Ag p0))]) (fun v8 => mk [(1, oD (.ptr 1 0))] [(1, .box (Ag p0))]) (fun _ _ => rfl) (sm [] _ _ rfl rfl) (fun j7 n7 v7 h => ?_) (fun v8 s h hs => ?_)
     ·unfold BD at h
      refine wq rfl (AV rfl (Ad (AN ?_)))
      refine A5 h (fun h => ?_) fun h => ?_
      ·refine Al (AN (AM (wq rfl (qm rfl ?_))))
       refine BS h fun v10 a10 b10 h => qi Ax CU a10 (Ah b10) rfl (qk BQ rfl (qa rfl (qe rfl ?_)))
       refine AL h (fun v11 => mk [(1, oD (.ptr 1 0)), (33, pD (.sl (p0.fb.map An))), (34, iD ((p0.fb.length : Int))), (35, iD v7), (65, bD v11)] [(1, .box (Ag p0))]) (fun j11 h => ?_) (fun v11 h => ?_)
       ·refine Aj Ay rfl (qm rfl (AV rfl (qm rfl ?_)))
        refine Dm 42 h rfl (fun h => ?_) fun h => ?_
        ·refine qw 2 rfl (qp rfl (qw 9 rfl (qp rfl (qw 9 rfl (qp rfl (Ad ?_))))))
         exact sn [] h
        ·refine qm rfl (Fe rfl (qp rfl (qm rfl ?_)))
         refine Dm 46 h rfl (fun h => ?_) fun h => ?_
         ·refine qw 8 rfl (qp rfl (qw 9 rfl (qp rfl (Ad ?_))))
          exact sn [] h
         ·refine qf Gx rfl (ql A0 rfl (qm rfl ?_))
          refine BS h fun v14 a14 b14 h => qi Ax CU a14 (Ah b14) rfl (qk BQ rfl (qm rfl ?_))
          refine BH h fun v15 a15 h => As [] (Hc N v14 v10 v15 a15) U7 rfl (BT rfl (qp rfl (qm rfl ?_)))
          refine Dm 56 h rfl (fun h => ?_) fun h => ?_
          ·refine qw 8 rfl (qp rfl (Ad ?_))
           exact sn [] h
          ·refine qf HZ rfl (ql A0 rfl (qm rfl ?_))
           refine BS h fun v17 a17 b17 h => qi Ax CU a17 (Ah b17) rfl (qk BQ rfl (qm rfl ?_))
           refine BH h fun v18 a18 h => As [] (Hc N v17 v10 v18 a18) U7 rfl (BT rfl (qp rfl (Ad ?_)))
           exact sn [] h
       ·refine A5 h (fun h => ?_) fun h => ?_
        ·refine wq rfl (qe rfl ?_)
         obtain rfl := sj h
         refine Ae (sm [] [(2, iD 7)] [] rfl rfl) (Aq ?_)
         exact ⟨⟨[_], tm, rfl⟩, tv⟩
        ·refine Al (Aj Ay rfl (Be rfl (qm rfl (Ad ?_))))
         exact sn [] h
      ·refine AS ?_
       exact sn [] h
     ·refine Ae hs (wp rfl (qf CJ rfl (ql Hs rfl (AF Ek rfl (qm rfl (Ad ?_))))))
      refine AH (L := Bu N p0) h (fun v20 => mk [(1, oD (.ptr 1 0)), (68, pD (.sl (p0.fd.map AT))), (69, iD ((p0.fd.length : Int))), (70, iD v20)] [(1, .box (Ag p0))]) (fun v21 => mk [] []) (fun _ _ => rfl) (sm [] _ _ rfl rfl) (fun j20 n20 v20 h => ?_) (fun v21 s h hs => ?_)
      ·unfold Bu at h
       refine wq rfl (AV rfl (Ad (AN ?_)))
       refine A5 h (fun h => ?_) fun h => ?_
       ·refine Al (AN (AM (wq rfl ?_)))
        refine BS h fun v23 a23 b23 h => qi Ek Ef a23 (Ah b23) rfl (qK Hu Ef rfl (qz L1 rfl (qs Ef rfl (Ad (wq rfl (qL Ch B5 rfl (qL Hu Ef rfl ?_)))))))
        refine BH h fun v24 a24 h => As [] (NP N p0 v23 v24 a24) Yb rfl (qa rfl (Ad (wq rfl (qm rfl (Bk rfl (Ad ?_))))))
        refine A5 h (fun h => ?_) fun h => ?_
        ·refine wq rfl (qm rfl (qe rfl ?_))
         obtain rfl := sj h
         refine Ae (sm [] [(2, iD v24)] [] rfl rfl) (Aq ?_)
         exact ⟨⟨[_], tm, rfl⟩, tv⟩
        ·refine Al (Aj Ay rfl (Be rfl (qm rfl (Ad ?_))))
         exact sn [] h
       ·refine AS ?_
        exact sn [] h
      ·refine Ae hs (wq rfl (qe rfl ?_))
       obtain rfl := sj h
       refine Ae (sm [] [(2, iD 0)] [] rfl rfl) (Aq ?_)
       exact ⟨⟨[_], tm, rfl⟩, tv⟩
theorem Dv (N : Nat) (p0 : List Int) (r : (List Int)) (h : Br N p0 = some r) : Ar Tryz.prog 66 [pD (.sl (p0.map An))] [(1, r.map An)] (oD (.own 0)) := by
 unfold Br at h
 refine cw (n := 8) (rs := [.tmp 2]) Tryz.func66 fun w0 S0 => ?_
 refine wq rfl (qa rfl (Ad (wp rfl (qm rfl ?_))))
 refine Pc (.p rfl) rfl Ax ?_
 refine Ad ?_
 refine Pj rfl (fun c2 => ?_) ?_
 ·have c2 := List.map_eq_nil_iff.1 c2
  rw [c2] at h
  have h : (some (([] : List Int))) = some r := h
  refine wq rfl (qe rfl ?_)
  obtain rfl := sj h
  refine Ae ((Bt 2 2001 1 rfl rfl rfl).trans (sm [(1000, 2001)] [(2, oD (.own 1000))] [(1000, .vec 1 ((([] : List Int)).map An))] rfl rfl)) (Aq ?_)
  exact ⟨⟨[_], tm, rfl⟩, ⟨rfl, tv⟩⟩
 ·refine Al (wq rfl (Eu Ax CU J7 rfl (qm rfl ?_)))
  refine E1 h fun c1 h => Hq (f := An) Ax Ax CU KR J7 (fun _ => rfl) c1 rfl (qe rfl ?_)
  obtain rfl := sj h
  refine Ae (sm [(1000, 7)] [(2, oD (.own 1000))] [(1000, .vec 1 (((([] : List Int)) ++ p0).map An))] rfl rfl) (Aq ?_)
  exact ⟨⟨[_], tm, rfl⟩, ⟨rfl, tv⟩⟩
theorem Lz (N : Nat) (p0 : Int) (p1 : Int) (r : Int × Int) (h : GG N p0 p1 = some r) : Ar Tryz.prog 104 [pD (.val (.int .u32 p0)), pD (.val (.int .u32 p1))] [] (.tup [.one (.pure (.val (.int .u32 r.1))), .one (.pure (.val (.int .u32 r.2)))]) := by
 unfold GG at h
 refine cw (n := 17) (rs := [.tmp 4, .tmp 5]) Tryz.func104 fun w0 S0 => ?_
 refine wq rfl (qa rfl (qa rfl (Ad (wq rfl (qm rfl (Jx RO Vk rfl (qm rfl (Jx RO Vk rfl (K7 rfl (qa rfl (Ad (wq rfl (qm rfl (IX rfl (by decide) (Jx Vl RP rfl (qm rfl (Jx Vl RP rfl (qa rfl (qe rfl ?_)))))))))))))))))))
 obtain rfl := sj h
 refine Ae (sm [] [(4, pD (.val (.int .u32 ((wI .u32 ((Fi .u64 ((wI .u64 ((wI .u64 p0) * (wI .u64 p1)))) 32))))))), (5, pD (.val (.int .u32 ((wI .u32 ((wI .u64 ((wI .u64 p0) * (wI .u64 p1)))))))))] [] rfl rfl) (Aq ?_)
 exact ⟨⟨[_, _], ⟨.tmp _ _ rfl, tm⟩, rfl⟩, tv⟩
theorem K1 (N : Nat) (p0 : Int) (p1 : Int) (r : Int × Int) (h : GJ N p0 p1 = some r) : Ar Tryz.prog 105 [pD (.val (.int .u64 p0)), pD (.val (.int .u64 p1))] [] (.tup [.one (.pure (.val (.int .u64 r.1))), .one (.pure (.val (.int .u64 r.2)))]) := by
 unfold GJ at h
 refine cw (n := 51) (rs := [.tmp 4, .tmp 5]) Tryz.func105 fun w0 S0 => ?_
 refine wq rfl (qa rfl (qa rfl (Ad (wq rfl (qm rfl (Mi rfl (qa rfl (Ad (wq rfl (qm rfl (IX rfl (by decide) (qa rfl (Ad (wq rfl (qm rfl (Mi rfl (qa rfl (Ad (wq rfl (qm rfl (IX rfl (by decide) (qa rfl (Ad (wq rfl (qw 2 rfl (K7 rfl (qa rfl (Ad (wq rfl (qw 2 rfl ?_))))))))))))))))))))))))))))))
 refine K7 rfl (qm rfl (IX rfl (by decide) (Be rfl (qa rfl (Ad (wq rfl (qm rfl (Mi rfl (qa rfl (Ad (wq rfl (qm rfl (IX rfl (by decide) (qa rfl (Ad (wq rfl (qw 3 rfl (K7 rfl (Be rfl (qa rfl (Ad (wq rfl (qw 2 rfl (K7 rfl (qm rfl (Be rfl (qm rfl (IX rfl (by decide) (Be rfl (qa rfl (Ad (AN ?_))))))))))))))))))))))))))))))))
 refine Aj Ay rfl (qw 2 rfl (K7 rfl (qe rfl ?_)))
 obtain rfl := sj h
 refine Ae (sm [] [(4, pD (.val (.int .u64 ((wI .u64 ((wI .u64 ((wI .u64 ((Fi .u64 p0 32) * (Fi .u64 p1 32))) + (Fi .u64 ((wI .u64 ((wI .u64 ((Fi .u64 p0 32) * (F6 .u64 p1 4294967295))) + (Fi .u64 ((wI .u64 ((F6 .u64 p0 4294967295) * (F6 .u64 p1 4294967295)))) 32)))) 32))) + (Fi .u64 ((wI .u64 ((F6 .u64 ((wI .u64 ((wI .u64 ((Fi .u64 p0 32) * (F6 .u64 p1 4294967295))) + (Fi .u64 ((wI .u64 ((F6 .u64 p0 4294967295) * (F6 .u64 p1 4294967295)))) 32)))) 4294967295) + (wI .u64 ((F6 .u64 p0 4294967295) * (Fi .u64 p1 32)))))) 32))))))), (5, pD (.val (.int .u64 ((wI .u64 (p0 * p1))))))] [] rfl rfl) (Aq ?_)
 exact ⟨⟨[_, _], ⟨.tmp _ _ rfl, tm⟩, rfl⟩, tv⟩
theorem MD (N : Nat) (p0 : Int) (p1 : Int) (r : Int × Int) (h : Ht N p0 p1 = some r) : Ar Tryz.prog 91 [pD (.val (.int .u64 p0)), pD (.val (.int .u64 p1))] [] (.tup [.one (.pure (.val (.int .u64 r.1))), .one (.pure (.val (.int .u64 r.2)))]) := by
 unfold Ht at h
 refine cw (n := 30) (rs := [.tmp 4, .tmp 5]) Tryz.func91 fun w0 S0 => ?_
 refine wq rfl (qa rfl (qa rfl (Ad (AN ?_))))
 refine A5 h (fun h => ?_) fun h => ?_
 ·refine wq rfl (qm rfl (Jx Ty RP rfl (qm rfl (Jx Ty RP rfl ?_))))
  refine BH h fun v2 a2 h => As [] (Lz N ((wI .u32 p0)) ((wI .u32 p1)) v2 a2) W5 rfl (qm rfl (qx rfl (qx rfl (qa rfl (qa rfl (Ad (wq rfl (qm rfl (Jx RO RQ rfl (qm rfl (Jx RO RQ rfl (qa rfl (qe rfl ?_)))))))))))))
  obtain rfl := sj h
  refine Ae (sm [] [(4, pD (.val (.int .u64 ((wI .u64 v2.1))))), (5, pD (.val (.int .u64 ((wI .u64 v2.2)))))] [] rfl rfl) (Aq ?_)
  exact ⟨⟨[_, _], ⟨.tmp _ _ rfl, tm⟩, rfl⟩, tv⟩
 ·refine Al (wq rfl (qw 2 rfl ?_))
  refine BH h fun v3 a3 h => As [] (K1 N p0 p1 v3 a3) XH rfl (qm rfl (qx rfl (qx rfl (qa rfl (qa rfl (Ad (wq rfl (qw 2 rfl (qa rfl (qe rfl ?_))))))))))
  obtain rfl := sj h
  refine Ae (sm [] [(4, pD (.val (.int .u64 v3.1))), (5, pD (.val (.int .u64 v3.2)))] [] rfl rfl) (Aq ?_)
  exact ⟨⟨[_, _], ⟨.tmp _ _ rfl, tm⟩, rfl⟩, tv⟩
theorem I6 (N : Nat) (p0 : List Int) (p1 : Int) (r : (List Int)) (h : D3 N p0 p1 = some r) : Ar Tryz.prog 67 [pD (.sl (p0.map An)), iD p1] [(1, r.map An)] (oD (.own 0)) := by
 unfold D3 at h
 refine cw (n := 48) (rs := [.tmp 4]) Tryz.func67 fun w0 S0 => ?_
 refine wq rfl (qe rfl ?_)
 refine AL h (fun v1 => mk [(0, pD (.sl (p0.map An))), (1, iD p1)] []) (fun j1 h => ?_) (fun v1 h => ?_)
 ·refine wq rfl (qm rfl (AV rfl (Ad ?_)))
  refine A5 h (fun h => ?_) fun h => ?_
  ·refine Aj Ay rfl ?_
   cases h
  ·refine Al ?_
   exact sn [] h
 ·refine wq rfl (qm rfl (AF Ax rfl (Jx YX RQ rfl (qm rfl (Jx YX RQ rfl ?_)))))
  refine BH h fun v3 a3 h => As [] (MD N ((wI .u64 ((p0.length : Int)))) ((wI .u64 p1)) v3 a3) Yy rfl (qm rfl (qx rfl (qx rfl (qa rfl (qe rfl ?_)))))
  refine AL h (fun v4 => mk [(0, pD (.sl (p0.map An))), (6, pD (.val (.int .u64 v3.2)))] []) (fun j4 h => ?_) (fun v4 h => ?_)
  ·refine AL h (fun v5 => mk [(0, pD (.sl (p0.map An))), (6, pD (.val (.int .u64 v3.2))), (26, bD v5)] []) (fun j5 h => ?_) (fun v5 h => ?_)
   ·refine Aj Ay rfl (qm rfl (Fe rfl (qm rfl ?_)))
    refine Dm 23 h rfl (fun h => ?_) fun h => ?_
    ·refine qw 2 rfl (qp rfl (Ad ?_))
     exact sn [] h
    ·refine qm rfl (Fe rfl (qp rfl (Ad ?_)))
     exact sn [] h
   ·refine A5 h (fun h => ?_) fun h => ?_
    ·refine Aj Ay rfl ?_
     cases h
    ·refine Al ?_
     exact sn [] h
  ·refine wq rfl (qm rfl (Jx Ty Vs rfl ?_))
   refine E1 h fun c8 h => Mv (.p rfl) rfl rfl rfl Ax CU KR (Jb rfl) J7 rfl rfl rfl c8.1 c8.2.1 c8.2.2 (Rz An _ ((0 : Int))) ?_
   refine qa rfl (Ad (wq rfl (qw 2 rfl ?_)))
   refine RF An (List.replicate ((wI .i64 v3.2)).toNat ((0 : Int))) p0 (.p rfl) rfl (JU An _ _ (List.replicate ((wI .i64 v3.2)).toNat ((0 : Int)))) rfl rfl (UR An _ _ (fun _ => rfl)) tv Ax CU ?_
   refine qa rfl (Ad (AN ?_))
   refine AH (L := Dk N) h (fun v9 => mk [(7, oD (.own 2001)), (8, iD v9.2)] [(2001, .vec 1 (v9.1.map An))]) (fun v10 => mk [(7, oD (.own 2002))] [(2002, .vec 1 (v10.map An))]) (fun _ _ => rfl) (sm [(2001, 30)] _ _ rfl rfl) (fun j9 n9 v9 h => ?_) (fun v10 s h hs => ?_)
   ·unfold Dk at h
    refine wp rfl (qw 2 rfl (Fr Ax rfl (AV rfl (Ad ?_))))
    refine A5 h (fun h => ?_) fun h => ?_
    ·refine Al (AM (Aj Ay rfl (qw 3 rfl ?_)))
     obtain ⟨c12, h⟩ := G9 h
     have w13 : ((v9.2).toNat) + ((v9.1.length - (v9.2).toNat)) ≤ v9.1.length := by have := c12.2.1; have := c12.2.2; omega
     refine J1 An v9.1 (.p rfl) rfl (JU An _ _ v9.1) rfl Ax CU (.some _ _ _ _ c12.1) (.none _) ⟨rfl, tv⟩ tv c12.2.1 (by rw [Nat.zero_add]; exact c12.2.2) (Nat.zero_add _) rfl ?_
     refine qw 2 rfl ?_
     obtain ⟨c14, h⟩ := G9 h
     have w15 : 0 + ((v9.2).toNat) ≤ v9.1.length := by have := c14.2.1; have := c14.2.2; omega
     refine J1 An v9.1 (.p rfl) rfl (JU An _ _ v9.1) rfl Ax CU (.none _) (.some _ _ _ _ c14.1) tv ⟨rfl, tv⟩ c14.2.1 (by rw [Nat.zero_add]; exact c14.2.2) (Nat.zero_add _) rfl ?_
     refine RF An v9.1 (((v9.1.drop 0).take ((v9.2).toNat))) (.p rfl) rfl (J9 An _ _ ((v9.2).toNat) ((v9.1.length - (v9.2).toNat)) v9.1 w13) rfl rfl (Ou An _ _ 0 ((v9.2).toNat) v9.1 w15) ⟨rfl, tv⟩ Ax CU ?_
     refine Be rfl (qa rfl (AI (by kernel_rfl) ?_))
     exact sn [] h
    ·refine AS ?_
     exact sn [(2002, 2001)] h
   ·refine Ae hs (wq rfl (qm rfl (qe rfl ?_)))
    obtain rfl := sj h
    refine Ae (sm [(1000, 2002)] [(4, oD (.own 1000))] [(1000, .vec 1 (v10.map An))] rfl rfl) (Aq ?_)
    exact ⟨⟨[_], tm, rfl⟩, ⟨rfl, tv⟩⟩
theorem Jc (N : Nat) (p0 : Au) (r : Bool) (h : EY N p0 = some r) : Ar Tryz.prog 51 [.e (.agg (Bd p0))] [] (bD r) := by
 unfold EY at h
 refine cw (n := 11) (rs := [.tmp 2]) Tryz.func51 fun w0 S0 => ?_
 refine wq rfl (qb rfl (qe rfl ?_))
 refine AL h (fun v1 => mk [(2, bD v1)] []) (fun j1 h => ?_) (fun v1 h => ?_)
 ·refine Aj Ay rfl (qf FF rfl (ql BQ rfl (Bp rfl (qm rfl ?_))))
  refine Dm 6 h rfl (fun h => ?_) fun h => ?_
  ·refine qw 3 rfl (qp rfl (qe rfl ?_))
   exact sn [] h
  ·refine qf FF rfl (ql BQ rfl (Bp rfl (qp rfl (qe rfl ?_))))
   exact sn [] h
 ·obtain rfl := sj h
  refine Ae (sm [] [(2, bD v1)] [] rfl rfl) (Aq ?_)
  exact ⟨⟨[_], tm, rfl⟩, tv⟩
theorem JG (N : Nat) (p0 : Aa) (r : Ac × Int) (h : Fl N p0 = some r) : Ar Tryz.prog 44 [.e (.agg (Ag p0))] [(1, r.1.fe.map An), (1, r.1.fa.map An), (1, r.1.fc.map Cb)] (.tup [.agg [.own 0, .own 1, .own 2], .one (iC r.2)]) := by
 unfold Fl at h
 refine cw (n := 50) (rs := [.cell 2 38, .tmp 3]) Tryz.func44 fun w0 S0 => ?_
 refine wq rfl (qb rfl (qz BU rfl (qa rfl (Ad (wp rfl (qL Ch B5 rfl ?_))))))
 refine BH h fun v1 a1 h => As [] (FW N p0 v1 a1) Wq rfl (qa rfl (Ad (wq rfl (qm rfl (Bk rfl (Ad ?_))))))
 refine A5 h (fun h => ?_) fun h => ?_
 ·refine wq rfl (AU BU FD rfl (qm rfl (qs AE rfl (qe rfl ?_))))
  obtain rfl := sj h
  refine Ae ((Az 2 0 2001 1 _ rfl rfl rfl rfl).trans ((Az 2 1 2002 1 _ rfl rfl rfl rfl).trans ((Az 2 2 2003 1 _ rfl rfl rfl rfl).trans (sm [(1000, 2001), (1001, 2002), (1002, 2003)] [(2, oD (.ptr 2 0)), (3, iD v1)] [(2, .box [.own 1000, .own 1001, .own 1002]), (1000, .vec 1 ((([] : List Int)).map An)), (1001, .vec 1 ((([] : List Int)).map An)), (1002, .vec 1 ((([] : List Int)).map Cb))] rfl rfl)))) (Aq ?_)
  exact ⟨⟨[_, _], ⟨.cellN _ _ _ _ _ _ _ rfl rfl AW AE rfl rfl (FM rfl), tm⟩, rfl⟩, ⟨rfl, rfl, rfl, tv⟩⟩
 ·refine Al (wq rfl (qf Gx rfl (ql A0 rfl ?_)))
  refine BH h fun v3 a3 h => As [2004] (Dv N p0.fi v3 a3) TO rfl (Eu Ax CU J7 rfl (qf Gx rfl (ql A0 rfl (AF Ax rfl ?_))))
  refine BH h fun v4 a4 h => GD [2005] [17] (I6 N (([(-1)] : List Int)) ((p0.fi.length : Int)) v4 a4) YE (Rg (fun _ => rfl) EJ) rfl (qf CJ rfl (ql Hs rfl (AF Ek rfl ?_)))
  refine E1 h fun c5 h => Mv (.p rfl) rfl rfl rfl C0 FB Qx (Jb rfl) PA rfl rfl rfl c5.1 c5.2.1 c5.2.2 (Rz Cb _ ((0 : Int))) ?_
  refine AU BU FD rfl (qz BU rfl (qs AE rfl (AI (by kernel_rfl) (wp rfl (qf CJ rfl (ql Hs rfl (AF Ek rfl (qm rfl (Ad ?_)))))))))
  refine AH (L := DL N p0) h (fun v6 => mk [(1, oD (.ptr 1 0)), (2, oD (.ptr 2 0)), (5, oD (.ptr 5 0)), (28, pD (.sl (p0.fd.map AT))), (29, iD ((p0.fd.length : Int))), (30, iD v6.2)] [(1, .box (Ag p0)), (2, .box [.pure (.nil0), .pure (.nil0), .pure (.nil0)]), (5, .box [.own 2006, .own 2007, .own 2008]), (2006, .vec 1 (v3.map An)), (2007, .vec 1 (v4.map An)), (2008, .vec 1 (v6.1.map Cb))]) (fun v7 => mk [(2, oD (.ptr 2 0)), (5, oD (.ptr 5 0))] [(2, .box [.pure (.nil0), .pure (.nil0), .pure (.nil0)]), (5, .box [.own 2009, .own 2010, .own 2011]), (2009, .vec 1 (v3.map An)), (2010, .vec 1 (v4.map An)), (2011, .vec 1 (v7.map Cb))]) (fun _ _ => rfl) (sm [(2006, 2004), (2007, 2005), (2008, 25)] _ _ rfl rfl) (fun j6 n6 v6 h => ?_) (fun v7 s h hs => ?_)
  ·unfold DL at h
   refine wq rfl (AV rfl (Ad (AN ?_)))
   refine A5 h (fun h => ?_) fun h => ?_
   ·refine Al ?_
    refine AL h (fun v9 => mk [(1, oD (.ptr 1 0)), (2, oD (.ptr 2 0)), (5, oD (.ptr 5 0)), (28, pD (.sl (p0.fd.map AT))), (29, iD ((p0.fd.length : Int))), (30, iD v6.2)] [(1, .box (Ag p0)), (2, .box [.pure (.nil0), .pure (.nil0), .pure (.nil0)]), (5, .box [.own 2012, .own 2013, .own 2014]), (2012, .vec 1 (v3.map An)), (2013, .vec 1 (v4.map An)), (2014, .vec 1 (v9.map Cb))]) (fun j9 h => ?_) (fun v9 h => ?_)
    ·refine AM (wq rfl (qm rfl ?_))
     refine BS h fun v10 a10 b10 h => qi Ek Ef a10 (Ah b10) rfl (qK Hu Ef rfl (qz L1 rfl (qa rfl (qs Ef rfl (Ad (wq rfl (qL Hu Ef rfl ?_)))))))
     refine BH h fun v11 a11 h => As [] (Jc N v10 v11 a11) VQ rfl (Ad ?_)
     refine A5 h (fun h => ?_) fun h => ?_
     ·refine Aj Ay rfl (qf Cn rfl (ql GS rfl (qm rfl (qf Gx rfl (ql A0 rfl (qf CN rfl (ql BQ rfl ?_)))))))
      refine BS h fun v13 a13 b13 h => qi Ax CU a13 (Ah b13) rfl (qk BQ rfl ?_)
      refine E1 h fun c14 h => IE rfl c14 ?_
      refine BS h fun v15 a15 b15 h => qI C0 FB a15 (Ah b15) rfl ?_
      refine EN rfl rfl rfl rfl (Ah b15) rfl FB rfl (Jb rfl) (EK Cb v6.1 _ ((Dp .u8 1 v13))) ?_
      refine AI (by kernel_rfl) ?_
      exact sn [(2012, 2006), (2013, 2007), (2014, 2008)] h
     ·refine Al ?_
      exact sn [(2012, 2006), (2013, 2007), (2014, 2008)] h
    ·refine Aj Ay rfl (Be rfl (qm rfl (Ad ?_)))
     exact sn [(2006, 2012), (2007, 2013), (2008, 2014)] h
   ·refine AS ?_
    exact sn [(2009, 2006), (2010, 2007), (2011, 2008)] h
  ·refine Ae hs (wq rfl (qL AW AE rfl (qs AE rfl (qe rfl ?_))))
   obtain rfl := sj h
   refine Ae (sm [(1000, 2009), (1001, 2010), (1002, 2011)] [(2, oD (.ptr 2 0)), (3, iD 0)] [(2, .box [.own 1000, .own 1001, .own 1002]), (1000, .vec 1 (v3.map An)), (1001, .vec 1 (v4.map An)), (1002, .vec 1 (v7.map Cb))] rfl rfl) (Aq ?_)
   exact ⟨⟨[_, _], ⟨.cellN _ _ _ _ _ _ _ rfl rfl AW AE rfl rfl (FM rfl), tm⟩, rfl⟩, ⟨rfl, rfl, rfl, tv⟩⟩
theorem IS (N : Nat) (p0 : Ac) (p1 : Int) (r : Int) (h : EC N p0 p1 = some r) : Ar Tryz.prog 52 [.e (.agg (Av p0)), iD p1] [] (pD (.val (.int .u8 r))) := by
 unfold EC at h
 refine cw (n := 27) (rs := [.tmp 4]) Tryz.func52 fun w0 S0 => ?_
 refine wq rfl (qb rfl (qa rfl (Ad (wq rfl (qf Ct rfl (ql A0 rfl (qm rfl ?_)))))))
 refine BS h fun v1 a1 b1 h => qi Ax CU a1 (Ah b1) rfl (qk BQ rfl ?_)
 refine E1 h fun c2 h => IE rfl c2 (qe rfl ?_)
 refine AL h (fun v3 => mk [(5, pD (.val (.int .u8 v3)))] []) (fun j3 h => ?_) (fun v3 h => ?_)
 ·refine wq rfl (qf Bl rfl (ql A0 rfl (qm rfl ?_)))
  refine BS h fun v4 a4 b4 h => qi Ax CU a4 (Ah b4) rfl (qk BQ rfl (EA rfl (Ad ?_)))
  refine A5 h (fun h => ?_) fun h => ?_
  ·refine Aj Ay rfl (qm rfl (qf Bl rfl (ql A0 rfl (qm rfl ?_))))
   refine BS h fun v6 a6 b6 h => qi Ax CU a6 (Ah b6) rfl (qk BQ rfl ?_)
   refine E1 h fun c7 h => IE rfl c7 (TW rfl (qe rfl ?_))
   exact sn [] h
  ·refine Al ?_
   exact sn [] h
 ·refine wq rfl (qm rfl (qe rfl ?_))
  obtain rfl := sj h
  refine Ae (sm [] [(4, pD (.val (.int .u8 v3)))] [] rfl rfl) (Aq ?_)
  exact ⟨⟨[_], tm, rfl⟩, tv⟩
theorem IB (N : Nat) (p0 : Aa) (p1 : Ac) (r : Int) (h : ER N p0 p1 = some r) : Ar Tryz.prog 29 [.e (.agg (Ag p0)), .e (.agg (Av p1))] [] (iD r) := by
 unfold ER at h
 refine cw (n := 135) (rs := [.tmp 4]) Tryz.func29 fun w0 S0 => ?_
 refine wq rfl (qb rfl (qb rfl (qa rfl (Ad (wp rfl (qL Ch B5 rfl ?_))))))
 refine BH h fun v1 a1 h => As [] (FW N p0 v1 a1) Wq rfl (qa rfl (Ad (wq rfl (qm rfl (Bk rfl (Ad ?_))))))
 refine A5 h (fun h => ?_) fun h => ?_
 ·refine wq rfl (qm rfl (qe rfl ?_))
  obtain rfl := sj h
  refine Ae (sm [] [(4, iD v1)] [] rfl rfl) (Aq ?_)
  exact ⟨⟨[_], tm, rfl⟩, tv⟩
 ·refine Al (AN ?_)
  refine AL h (fun v3 => mk [(2, oD (.ptr 2 0)), (3, oD (.ptr 3 0)), (41, bD v3)] [(2, .box (Ag p0)), (3, .box (Av p1))]) (fun j3 h => ?_) (fun v3 h => ?_)
  ·refine Aj Ay rfl (qf Ct rfl (ql A0 rfl (AF Ax rfl (qf Bq rfl (ql A0 rfl (AF Ax rfl (Bk rfl (qm rfl ?_))))))))
   refine Dm 24 h rfl (fun h => ?_) fun h => ?_
   ·refine qw 7 rfl (qp rfl (qw 8 rfl (qp rfl (Ad ?_))))
    exact sn [] h
   ·refine qf Bl rfl (ql A0 rfl (AF Ax rfl (qf Bq rfl (ql A0 rfl (AF Ax rfl (Bk rfl (qp rfl (qm rfl ?_))))))))
    refine Dm 33 h rfl (fun h => ?_) fun h => ?_
    ·refine qw 7 rfl (qp rfl (Ad ?_))
     exact sn [] h
    ·refine qf Cn rfl (ql GS rfl (AF C0 rfl (qf CJ rfl (ql Hs rfl (AF Ek rfl (Bk rfl (qp rfl (Ad ?_))))))))
     exact sn [] h
  ·refine A5 h (fun h => ?_) fun h => ?_
   ·refine wq rfl (qe rfl ?_)
    obtain rfl := sj h
    refine Ae (sm [] [(4, iD 6)] [] rfl rfl) (Aq ?_)
    exact ⟨⟨[_], tm, rfl⟩, tv⟩
   ·refine Al (wp rfl (qf Bq rfl (ql A0 rfl (AF Ax rfl (qm rfl (Ad ?_))))))
    refine AH (L := DI N p0 p1) h (fun v7 => mk [(2, oD (.ptr 2 0)), (3, oD (.ptr 3 0)), (43, pD (.sl (p0.fb.map An))), (44, iD ((p0.fb.length : Int))), (45, iD v7)] [(2, .box (Ag p0)), (3, .box (Av p1))]) (fun v8 => mk [(2, oD (.ptr 2 0)), (3, oD (.ptr 3 0))] [(2, .box (Ag p0)), (3, .box (Av p1))]) (fun _ _ => rfl) (sm [] _ _ rfl rfl) (fun j7 n7 v7 h => ?_) (fun v8 s h hs => ?_)
    ·unfold DI at h
     refine wq rfl (AV rfl (Ad (AN ?_)))
     refine A5 h (fun h => ?_) fun h => ?_
     ·refine Al (AN (AM (wq rfl (qm rfl ?_))))
      refine BS h fun v10 a10 b10 h => qi Ax CU a10 (Ah b10) rfl (qk BQ rfl (qa rfl (qa rfl (Ad (AN ?_)))))
      refine AL h (fun v11 => mk [(2, oD (.ptr 2 0)), (3, oD (.ptr 3 0)), (6, iD v7), (43, pD (.sl (p0.fb.map An))), (44, iD ((p0.fb.length : Int))), (45, iD v7), (81, bD v11)] [(2, .box (Ag p0)), (3, .box (Av p1))]) (fun j11 h => ?_) (fun v11 h => ?_)
      ·refine Aj Ay rfl (qf Ct rfl (ql A0 rfl (qm rfl ?_)))
       refine BS h fun v12 a12 b12 h => qi Ax CU a12 (Ah b12) rfl (qk BQ rfl (AV rfl (qm rfl ?_)))
       refine Dm 56 h rfl (fun h => ?_) fun h => ?_
       ·refine qw 7 rfl (qp rfl (qw 7 rfl (qp rfl (qw 8 rfl (qp rfl (Ad ?_))))))
        exact sn [] h
       ·refine qf Ct rfl (ql A0 rfl (qm rfl ?_))
        refine BS h fun v14 a14 b14 h => qi Ax CU a14 (Ah b14) rfl (qk BQ rfl (qm rfl (EA rfl (qp rfl (qm rfl ?_)))))
        refine Dm 65 h rfl (fun h => ?_) fun h => ?_
        ·refine qw 6 rfl (qp rfl (qw 8 rfl (qp rfl (Ad ?_))))
         exact sn [] h
        ·refine qf Bl rfl (ql A0 rfl (qm rfl ?_))
         refine BS h fun v16 a16 b16 h => qi Ax CU a16 (Ah b16) rfl (qk BQ rfl (AV rfl (qp rfl (qm rfl ?_))))
         refine Dm 73 h rfl (fun h => ?_) fun h => ?_
         ·refine qw 7 rfl (qp rfl (Ad ?_))
          exact sn [] h
         ·refine qf Bl rfl (ql A0 rfl (qm rfl ?_))
          refine BS h fun v18 a18 b18 h => qi Ax CU a18 (Ah b18) rfl (qk BQ rfl (qm rfl (EA rfl (qp rfl (Ad ?_)))))
          exact sn [] h
      ·refine A5 h (fun h => ?_) fun h => ?_
       ·refine wq rfl (qe rfl ?_)
        obtain rfl := sj h
        refine Ae (sm [] [(4, iD 7)] [] rfl rfl) (Aq ?_)
        exact ⟨⟨[_], tm, rfl⟩, tv⟩
       ·refine Al (wq rfl (qf Ct rfl (ql A0 rfl (qm rfl ?_))))
        refine BS h fun v20 a20 b20 h => qi Ax CU a20 (Ah b20) rfl (qk BQ rfl (qf Bl rfl (ql A0 rfl (qm rfl ?_))))
        refine BS h fun v21 a21 b21 h => qi Ax CU a21 (Ah b21) rfl (qk BQ rfl (Bp rfl (AI (by kernel_rfl) ?_)))
        refine A5 h (fun h => ?_) fun h => ?_
        ·refine wq rfl (qe rfl ?_)
         obtain rfl := sj h
         refine Ae (sm [] [(4, iD 1)] [] rfl rfl) (Aq ?_)
         exact ⟨⟨[_], tm, rfl⟩, tv⟩
        ·refine Al (Aj Ay rfl (Be rfl (qm rfl (Ad ?_))))
         exact sn [] h
     ·refine AS ?_
      exact sn [] h
    ·refine Ae hs (wp rfl (qf CJ rfl (ql Hs rfl (AF Ek rfl (qm rfl (Ad ?_))))))
     refine AH (L := Da N p0 p1) h (fun v23 => mk [(2, oD (.ptr 2 0)), (3, oD (.ptr 3 0)), (95, pD (.sl (p0.fd.map AT))), (96, iD ((p0.fd.length : Int))), (97, iD v23)] [(2, .box (Ag p0)), (3, .box (Av p1))]) (fun v24 => mk [] []) (fun _ _ => rfl) (sm [] _ _ rfl rfl) (fun j23 n23 v23 h => ?_) (fun v24 s h hs => ?_)
     ·unfold Da at h
      refine wq rfl (AV rfl (Ad (AN ?_)))
      refine A5 h (fun h => ?_) fun h => ?_
      ·refine Al (AN (AM (wq rfl (qm rfl ?_))))
       refine BS h fun v26 a26 b26 h => qi Ek Ef a26 (Ah b26) rfl (qK Hu Ef rfl (qz L1 rfl (qa rfl (qs Ef rfl (Ad (wq rfl (qa rfl (qe rfl ?_))))))))
       refine AL h (fun v27 => mk [(2, oD (.ptr 2 0)), (3, oD (.ptr 3 0)), (8, iD v23), (10, pD (.val (.int .u8 v27.1))), (11, pD (.val (.int .u8 v27.2))), (95, pD (.sl (p0.fd.map AT))), (96, iD ((p0.fd.length : Int))), (97, iD v23)] [(2, .box (Ag p0)), (3, .box (Av p1))]) (fun j27 h => ?_) (fun v27 h => ?_)
       ·refine wq rfl (qL Hu Ef rfl ?_)
        refine BH h fun v28 a28 h => As [] (Jc N v26 v28 a28) VQ rfl (Ad ?_)
        refine A5 h (fun h => ?_) fun h => ?_
        ·refine Aj Ay rfl (qL AW AE rfl (qf CN rfl (ql BQ rfl ?_)))
         refine BH h fun v30 a30 h => As [] (IS N p1 v26.fg v30 a30) VY rfl (qf Bq rfl (ql A0 rfl (qf CN rfl (ql BQ rfl ?_))))
         refine BS h fun v31 a31 b31 h => qi Ax CU a31 (Ah b31) rfl (qk BQ rfl ?_)
         refine E1 h fun c32 h => IE rfl c32 (QN rfl (qa rfl (qa rfl (AI (by kernel_rfl) ?_))))
         exact sn [] h
        ·refine Al ?_
         exact sn [] h
       ·refine AL h (fun v33 => mk [(2, oD (.ptr 2 0)), (3, oD (.ptr 3 0)), (95, pD (.sl (p0.fd.map AT))), (96, iD ((p0.fd.length : Int))), (97, iD v23), (133, bD v33)] [(2, .box (Ag p0)), (3, .box (Av p1))]) (fun j33 h => ?_) (fun v33 h => ?_)
        ·refine Aj Ay rfl (qm rfl (qf Cn rfl (ql GS rfl (qm rfl ?_))))
         refine BS h fun v34 a34 b34 h => qi C0 FB a34 (Ah b34) rfl (qk JD rfl (Ie rfl (Bk rfl (qm rfl ?_))))
         refine Dm 124 h rfl (fun h => ?_) fun h => ?_
         ·refine qw 8 rfl (qp rfl (Ad ?_))
          exact sn [] h
         ·refine qf Cn rfl (ql GS rfl (qm rfl ?_))
          refine BS h fun v36 a36 b36 h => qi C0 FB a36 (Ah b36) rfl (qk JD rfl (qm rfl (Ie rfl (Bk rfl (qp rfl (Ad ?_))))))
          exact sn [] h
        ·refine A5 h (fun h => ?_) fun h => ?_
         ·refine wq rfl (qe rfl ?_)
          obtain rfl := sj h
          refine Ae (sm [] [(4, iD 1)] [] rfl rfl) (Aq ?_)
          exact ⟨⟨[_], tm, rfl⟩, tv⟩
         ·refine Al (Aj Ay rfl (Be rfl (qm rfl (Ad ?_))))
          exact sn [] h
      ·refine AS ?_
       exact sn [] h
     ·refine Ae hs (wq rfl (qe rfl ?_))
      obtain rfl := sj h
      refine Ae (sm [] [(4, iD 0)] [] rfl rfl) (Aq ?_)
      exact ⟨⟨[_], tm, rfl⟩, tv⟩
theorem E6 (N : Nat) (p0 : List Int) (r : (List Int)) (h : Bx N p0 = some r) : Ar Tryz.prog 97 [pD (.sl (p0.map Cb))] [(1, r.map Cb)] (oD (.own 0)) := by
 unfold Bx at h
 refine cw (n := 8) (rs := [.tmp 2]) Tryz.func97 fun w0 S0 => ?_
 refine wq rfl (qa rfl (Ad (wp rfl (qm rfl ?_))))
 refine Pc (.p rfl) rfl C0 ?_
 refine Ad ?_
 refine Pj rfl (fun c2 => ?_) ?_
 ·have c2 := List.map_eq_nil_iff.1 c2
  rw [c2] at h
  have h : (some (([] : List Int))) = some r := h
  refine wq rfl (qe rfl ?_)
  obtain rfl := sj h
  refine Ae ((Bt 2 2001 1 rfl rfl rfl).trans (sm [(1000, 2001)] [(2, oD (.own 1000))] [(1000, .vec 1 ((([] : List Int)).map Cb))] rfl rfl)) (Aq ?_)
  exact ⟨⟨[_], tm, rfl⟩, ⟨rfl, tv⟩⟩
 ·refine Al (wq rfl (Eu C0 FB PA rfl (qm rfl ?_)))
  refine E1 h fun c1 h => Hq (f := Cb) C0 C0 FB Qx PA (fun _ => rfl) c1 rfl (qe rfl ?_)
  obtain rfl := sj h
  refine Ae (sm [(1000, 7)] [(2, oD (.own 1000))] [(1000, .vec 1 (((([] : List Int)) ++ p0).map Cb))] rfl rfl) (Aq ?_)
  exact ⟨⟨[_], tm, rfl⟩, ⟨rfl, tv⟩⟩
theorem OV (N : Nat) (p0 : Aa) (p1 : Ac) (r : (List Ac) × Int) (h : Gf N p0 p1 = some r) : Ar Tryz.prog 77 [.e (.agg (Ag p0)), .e (.agg (Av p1))] [(3, r.1.map Ca)] (.tup [.one (.own 0), .one (iC r.2)]) := by
 unfold Gf at h
 refine cw (n := 75) (rs := [.tmp 4, .tmp 5]) Tryz.func77 fun w0 S0 => ?_
 refine wq rfl (qb rfl (qb rfl (qa rfl (qa rfl (Ad (wp rfl (qL Ch B5 rfl (qL AW AE rfl ?_))))))))
 refine BH h fun v1 a1 h => As [] (IB N p0 p1 v1 a1) Uq rfl (qa rfl (Ad (wq rfl (qm rfl (Bk rfl (Ad ?_))))))
 refine A5 h (fun h => ?_) fun h => ?_
 ·refine wq rfl (qm rfl (qa rfl (qe rfl ?_)))
  obtain rfl := sj h
  refine Ae ((Bt 4 2001 3 rfl rfl rfl).trans (sm [(1000, 2001)] [(4, oD (.own 1000)), (5, iD v1)] [(1000, .vec 3 ((([] : List Ac)).map Ca))] rfl rfl)) (Aq ?_)
  exact ⟨⟨[_, _], ⟨.tmp _ _ rfl, tm⟩, rfl⟩, ⟨rfl, tv⟩⟩
 ·refine Al (wq rfl (qa rfl (Ad (wp rfl (qf Bl rfl (ql A0 rfl (AF Ax rfl (qm rfl (Ad ?_)))))))))
  refine AH (L := Db N p1) h (fun v3 => mk [(3, oD (.ptr 3 0)), (7, oD (.own 2002)), (22, pD (.sl (p1.fa.map An))), (23, iD ((p1.fa.length : Int))), (24, iD v3.2)] [(3, .box (Av p1)), (2002, .vec 1 (v3.1.map An))]) (fun v4 => mk [(3, oD (.ptr 3 0)), (7, oD (.own 2003))] [(3, .box (Av p1)), (2003, .vec 1 (v4.map An))]) (fun _ _ => rfl) ((Bt 7 2005 1 rfl rfl rfl).trans (sm [(2002, 2005)] _ _ rfl rfl)) (fun j3 n3 v3 h => ?_) (fun v4 s h hs => ?_)
  ·unfold Db at h
   refine wq rfl (AV rfl (Ad (AN ?_)))
   refine A5 h (fun h => ?_) fun h => ?_
   ·refine Al ?_
    refine AL h (fun v6 => mk [(3, oD (.ptr 3 0)), (7, oD (.own 2004)), (22, pD (.sl (p1.fa.map An))), (23, iD ((p1.fa.length : Int))), (24, iD v3.2)] [(3, .box (Av p1)), (2004, .vec 1 (v6.map An))]) (fun j6 h => ?_) (fun v6 h => ?_)
    ·refine AM (wq rfl (qm rfl ?_))
     refine BS h fun v7 a7 b7 h => qi Ax CU a7 (Ah b7) rfl (qk BQ rfl (qa rfl (qa rfl (Ad (wq rfl (qm rfl (EA rfl (Ad ?_))))))))
     refine A5 h (fun h => ?_) fun h => ?_
     ·refine Aj Ay rfl (qw 2 rfl (Eu Ax CU J7 rfl ?_))
      refine E1 h fun c9 h => El (f := An) Ax Ax CU KR J7 c9 rfl (qe rfl ?_)
      exact sn [(2004, 34)] h
     ·refine Al ?_
      exact sn [(2004, 2002)] h
    ·refine Aj Ay rfl (Be rfl (qm rfl (Ad ?_)))
     exact sn [(2002, 2004)] h
   ·refine AS ?_
    exact sn [(2003, 2002)] h
  ·refine Ae hs (wq rfl (qa rfl (Ad (wp rfl (qm rfl (Fr Ax rfl ?_))))))
   refine E1 h fun c10 h => IE rfl c10 (qm rfl (Ad ?_))
   refine AH (L := CD N p1 v4) h (fun v11 => mk [(3, oD (.ptr 3 0)), (7, oD (.own 2006)), (10, oD (.own 2007)), (38, iD ((Dp .i64 1 ((v4.length : Int))))), (39, iD v11.2)] [(3, .box (Av p1)), (2006, .vec 1 (v4.map An)), (2007, .vec 3 (v11.1.map Ca))]) (fun v12 => mk [(10, oD (.own 2008))] [(2008, .vec 3 (v12.map Ca))]) (fun _ _ => rfl) ((Bt 10 2027 3 rfl rfl rfl).trans (sm [(2006, 2003), (2007, 2027)] _ _ rfl rfl)) (fun j11 n11 v11 h => ?_) (fun v12 s h hs => ?_)
   ·unfold CD at h
    refine wq rfl (AV rfl (Ad (AN ?_)))
    refine A5 h (fun h => ?_) fun h => ?_
    ·refine Al (AN (AM (wq rfl (qm rfl (qa rfl (Ad (wq rfl (qf Ct rfl (ql A0 rfl ?_)))))))))
     refine BH h fun v14 a14 h => As [2009] (Dv N p1.fe v14 a14) TO rfl (qf Bl rfl (ql A0 rfl ?_))
     refine BH h fun v15 a15 h => As [2010] (Dv N p1.fa v15 a15) TO rfl (qf Cn rfl (ql GS rfl ?_))
     refine BH h fun v16 a16 h => As [2011] (E6 N p1.fc v16 a16) WL rfl (AU BU FD rfl (qz BU rfl (qs AE rfl (AI (by kernel_rfl) (wp rfl (qm rfl (Fr Ax rfl (qm rfl (Ad ?_)))))))))
     refine AH (L := CB N v4 v11) h (fun v17 => mk [(3, oD (.ptr 3 0)), (7, oD (.own 2015)), (10, oD (.own 2016)), (11, iD v11.2), (12, oD (.ptr 12 0)), (38, iD ((Dp .i64 1 ((v4.length : Int))))), (39, iD v11.2), (52, oD (.own 2015)), (53, iD ((v4.length : Int))), (54, iD v17.2)] [(3, .box (Av p1)), (12, .box [.own 2012, .own 2013, .own 2014]), (2012, .vec 1 (v14.map An)), (2013, .vec 1 (v17.1.map An)), (2014, .vec 1 (v16.map Cb)), (2015, .vec 1 (v4.map An)), (2016, .vec 3 (v11.1.map Ca))]) (fun v18 => mk [(3, oD (.ptr 3 0)), (7, oD (.own 2020)), (10, oD (.own 2021)), (12, oD (.ptr 12 0)), (38, iD ((Dp .i64 1 ((v4.length : Int))))), (39, iD v11.2)] [(3, .box (Av p1)), (12, .box [.own 2017, .own 2018, .own 2019]), (2017, .vec 1 (v14.map An)), (2018, .vec 1 (v18.map An)), (2019, .vec 1 (v16.map Cb)), (2020, .vec 1 (v4.map An)), (2021, .vec 3 (v11.1.map Ca))]) (fun _ _ => rfl) (sm [(2012, 2009), (2013, 2010), (2014, 2011), (2015, 2006), (2016, 2007)] _ _ rfl rfl) (fun j17 n17 v17 h => ?_) (fun v18 s h hs => ?_)
     ·unfold CB at h
      refine wq rfl (AV rfl (Ad (AN ?_)))
      refine A5 h (fun h => ?_) fun h => ?_
      ·refine Al ?_
       refine AL h (fun v20 => mk [(3, oD (.ptr 3 0)), (7, oD (.own 2025)), (10, oD (.own 2026)), (11, iD v11.2), (12, oD (.ptr 12 0)), (38, iD ((Dp .i64 1 ((v4.length : Int))))), (39, iD v11.2), (52, oD (.own 2025)), (53, iD ((v4.length : Int))), (54, iD v17.2)] [(3, .box (Av p1)), (12, .box [.own 2022, .own 2023, .own 2024]), (2022, .vec 1 (v14.map An)), (2023, .vec 1 (v20.map An)), (2024, .vec 1 (v16.map Cb)), (2025, .vec 1 (v4.map An)), (2026, .vec 3 (v11.1.map Ca))]) (fun j20 h => ?_) (fun v20 h => ?_)
       ·refine AM (wq rfl (qm rfl ?_))
        refine BS h fun v21 a21 b21 h => qI Ax CU a21 (Ah b21) rfl (qj BQ (Ah b21) rfl (qa rfl (qa rfl (Ad (wq rfl (qw 2 rfl ?_))))))
        refine E1 h fun c22 h => IX rfl c22 (Mi rfl (Bp rfl (Ad ?_)))
        refine A5 h (fun h => ?_) fun h => ?_
        ·refine Aj Ay rfl (qf Bl rfl (ql A0 rfl (qm rfl ?_)))
         refine BS h fun v24 a24 b24 h => qI Ax CU a24 (Ah b24) rfl ?_
         refine EN rfl rfl rfl rfl (Ah b24) rfl CU rfl (Jb rfl) (EK An v17.1 _ ((-1))) ?_
         refine Ad ?_
         exact sn [(2022, 2012), (2023, 2013), (2024, 2014), (2025, 2015), (2026, 2016)] h
        ·refine Al ?_
         exact sn [(2022, 2012), (2023, 2013), (2024, 2014), (2025, 2015), (2026, 2016)] h
       ·refine Aj Ay rfl (Be rfl (qm rfl (Ad ?_)))
        exact sn [(2012, 2022), (2013, 2023), (2014, 2024), (2015, 2025), (2016, 2026)] h
      ·refine AS ?_
       exact sn [(2017, 2012), (2018, 2013), (2019, 2014), (2020, 2015), (2021, 2016)] h
     ·refine Ae hs (Aj Ay rfl (qm rfl (qL AW AE rfl (DJ (AQ 2017 _ _ rfl rfl) (DJ (AQ 2018 _ _ rfl rfl) (DJ (AQ 2019 _ _ rfl rfl) (Eu Gg AE BU rfl ?_)))))))
      refine E1 h fun c25 h => El (f := Ca) Gg Gg AE SK BU c25 rfl (qa rfl (Ad (Aj Ay rfl (Be rfl (qm rfl (Ad ?_))))))
      exact sn [(2006, 2020), (2007, 72)] h
    ·refine AS ?_
     exact sn [(2008, 2007)] h
   ·refine Ae hs (wq rfl (qm rfl (qa rfl (qe rfl ?_))))
    obtain rfl := sj h
    refine Ae (sm [(1000, 2008)] [(4, oD (.own 1000)), (5, iD 0)] [(1000, .vec 3 (v12.map Ca))] rfl rfl) (Aq ?_)
    exact ⟨⟨[_, _], ⟨.tmp _ _ rfl, tm⟩, rfl⟩, ⟨rfl, tv⟩⟩
theorem MC (N : Nat) (p0 : Aa) (p1 : Ac) (r : (List Ai)) (h : E4 N p0 p1 = some r) : Ar Tryz.prog 78 [.e (.agg (Ag p0)), .e (.agg (Av p1))] [(3, r.map AP)] (oD (.own 0)) := by
 unfold E4 at h
 refine cw (n := 98) (rs := [.tmp 4]) Tryz.func78 fun w0 S0 => ?_
 refine wq rfl (qb rfl (qb rfl (qa rfl (Ad (wq rfl (qa rfl (Ad (wp rfl (qf CJ rfl (ql Hs rfl (AF Ek rfl (qm rfl (Ad ?_)))))))))))))
 refine AH (L := CY N p0 p1) h (fun v1 => mk [(3, oD (.ptr 3 0)), (5, oD (.own 2001)), (15, pD (.sl (p0.fd.map AT))), (16, iD ((p0.fd.length : Int))), (17, iD v1.2)] [(3, .box (Av p1)), (2001, .vec 3 (v1.1.map AP))]) (fun v2 => mk [(5, oD (.own 2002))] [(2002, .vec 3 (v2.map AP))]) (fun _ _ => rfl) ((Bt 5 2013 3 rfl rfl rfl).trans (sm [(2001, 2013)] _ _ rfl rfl)) (fun j1 n1 v1 h => ?_) (fun v2 s h hs => ?_)
 ·unfold CY at h
  refine wq rfl (AV rfl (Ad (AN ?_)))
  refine A5 h (fun h => ?_) fun h => ?_
  ·refine Al (AN (AM (wq rfl (qm rfl ?_))))
   refine BS h fun v4 a4 b4 h => qi Ek Ef a4 (Ah b4) rfl (qK Hu Ef rfl (qz L1 rfl (qa rfl (qs Ef rfl (Ad (wq rfl (qL AW AE rfl (qf CN rfl (ql BQ rfl ?_)))))))))
   refine BH h fun v5 a5 h => As [] (IS N p1 v4.fg v5 a5) VY rfl (qL AW AE rfl (qf H1 rfl (ql BQ rfl ?_)))
   refine BH h fun v6 a6 h => As [] (IS N p1 v4.fk v6 a6) VY rfl (qa rfl (qa rfl (AI (by kernel_rfl) ?_)))
   refine AL h (fun v7 => mk [(3, oD (.ptr 3 0)), (5, oD (.own 2003)), (6, iD v1.2), (7, oD (.ptr 7 0)), (8, pD (.val (.int .u8 v7))), (9, pD (.val (.int .u8 v6))), (15, pD (.sl (p0.fd.map AT))), (16, iD ((p0.fd.length : Int))), (17, iD v1.2)] [(3, .box (Av p1)), (7, .box (Bd v4)), (2003, .vec 3 (v1.1.map AP))]) (fun j7 h => ?_) (fun v7 h => ?_)
   ·refine wq rfl (qL Hu Ef rfl ?_)
    refine BH h fun v8 a8 h => As [] (Jc N v4 v8 a8) VQ rfl (Ad ?_)
    refine A5 h (fun h => ?_) fun h => ?_
    ·refine Aj Ay rfl (qf Cn rfl (ql GS rfl (qm rfl ?_)))
     refine BS h fun v10 a10 b10 h => qi C0 FB a10 (Ah b10) rfl (qk JD rfl (qe rfl ?_))
     exact sn [(2003, 2001)] h
    ·refine Al ?_
     exact sn [(2003, 2001)] h
   ·refine wq rfl (qf Jh rfl (ql JS rfl (AF Gb rfl (qm rfl (Ad ?_)))))
    refine AH (L := B0 N v1 v4 v6 v7) h (fun v11 => mk [(3, oD (.ptr 3 0)), (5, oD (.own 2004)), (6, iD v1.2), (7, oD (.ptr 7 0)), (8, pD (.val (.int .u8 v7))), (9, pD (.val (.int .u8 v6))), (15, pD (.sl (p0.fd.map AT))), (16, iD ((p0.fd.length : Int))), (17, iD v1.2), (39, iD ((v4.fq.length : Int))), (40, iD v11.2)] [(3, .box (Av p1)), (7, .box (Bd v4)), (2004, .vec 3 (v11.1.map AP))]) (fun v12 => mk [(3, oD (.ptr 3 0)), (5, oD (.own 2005)), (15, pD (.sl (p0.fd.map AT))), (16, iD ((p0.fd.length : Int))), (17, iD v1.2)] [(3, .box (Av p1)), (2005, .vec 3 (v12.map AP))]) (fun _ _ => rfl) (sm [(2004, 2003)] _ _ rfl rfl) (fun j11 n11 v11 h => ?_) (fun v12 s h hs => ?_)
    ·unfold B0 at h
     refine wq rfl (AV rfl (Ad (AN ?_)))
     refine A5 h (fun h => ?_) fun h => ?_
     ·refine Al ?_
      refine AL h (fun v14 => mk [(3, oD (.ptr 3 0)), (5, oD (.own 2006)), (6, iD v1.2), (7, oD (.ptr 7 0)), (8, pD (.val (.int .u8 v7))), (9, pD (.val (.int .u8 v6))), (15, pD (.sl (p0.fd.map AT))), (16, iD ((p0.fd.length : Int))), (17, iD v1.2), (39, iD ((v4.fq.length : Int))), (40, iD v11.2)] [(3, .box (Av p1)), (7, .box (Bd v4)), (2006, .vec 3 (v14.map AP))]) (fun j14 h => ?_) (fun v14 h => ?_)
      ·refine AM (wq rfl (qm rfl (qa rfl (Ad (wp rfl (qw 2 rfl ?_))))))
       refine E1 h fun c15 h => IX rfl c15 (Mi rfl (Bp rfl (Ad ?_)))
       refine A5 h (fun h => ?_) fun h => ?_
       ·refine AS ?_
        exact sn [(2006, 2004)] h
       ·refine Al (wq rfl (qa rfl (Ad (wp rfl (qf Jh rfl (ql JS rfl (qm rfl ?_)))))))
        refine BS h fun v17 a17 b17 h => qi Gb Ns a17 (Ah b17) rfl (qk OS rfl (AF GX rfl (qm rfl (Ad ?_))))
        refine AH (L := BE N v1 v4 v6 v11 v17) h (fun v18 => mk [(3, oD (.ptr 3 0)), (5, oD (.own 2007)), (6, iD v1.2), (7, oD (.ptr 7 0)), (8, pD (.val (.int .u8 v7))), (9, pD (.val (.int .u8 v6))), (10, iD v11.2), (11, bD v18.2.1), (15, pD (.sl (p0.fd.map AT))), (16, iD ((p0.fd.length : Int))), (17, iD v1.2), (39, iD ((v4.fq.length : Int))), (40, iD v11.2), (52, pD (.sl (v17.map eB))), (53, iD ((v17.length : Int))), (54, iD v18.2.2)] [(3, .box (Av p1)), (7, .box (Bd v4)), (2007, .vec 3 (v18.1.map AP))]) (fun v19 => mk [(3, oD (.ptr 3 0)), (5, oD (.own 2008)), (6, iD v1.2), (7, oD (.ptr 7 0)), (8, pD (.val (.int .u8 v7))), (9, pD (.val (.int .u8 v6))), (10, iD v11.2), (11, bD v19.2), (15, pD (.sl (p0.fd.map AT))), (16, iD ((p0.fd.length : Int))), (17, iD v1.2), (39, iD ((v4.fq.length : Int))), (40, iD v11.2)] [(3, .box (Av p1)), (7, .box (Bd v4)), (2008, .vec 3 (v19.1.map AP))]) (fun _ _ => rfl) (sm [(2007, 2004)] _ _ rfl rfl) (fun j18 n18 v18 h => ?_) (fun v19 s h hs => ?_)
        ·unfold BE at h
         refine wq rfl (AV rfl (Ad (AN ?_)))
         refine A5 h (fun h => ?_) fun h => ?_
         ·refine Al ?_
          refine AL h (fun v21 => mk [(3, oD (.ptr 3 0)), (5, oD (.own 2009)), (6, iD v1.2), (7, oD (.ptr 7 0)), (8, pD (.val (.int .u8 v7))), (9, pD (.val (.int .u8 v6))), (10, iD v11.2), (11, bD v21.2), (15, pD (.sl (p0.fd.map AT))), (16, iD ((p0.fd.length : Int))), (17, iD v1.2), (39, iD ((v4.fq.length : Int))), (40, iD v11.2), (52, pD (.sl (v17.map eB))), (53, iD ((v17.length : Int))), (54, iD v18.2.2)] [(3, .box (Av p1)), (7, .box (Bd v4)), (2009, .vec 3 (v21.1.map AP))]) (fun j21 h => ?_) (fun v21 h => ?_)
          ·refine AM (wq rfl (qm rfl ?_))
           refine BS h fun v22 a22 b22 h => qi GX Rk a22 (Ah b22) rfl (qk RN rfl (qa rfl (qa rfl (Ad (wp rfl (qw 2 rfl ?_))))))
           refine E1 h fun c23 h => IX rfl c23 (Mi rfl (Bp rfl (Ad ?_)))
           refine A5 h (fun h => ?_) fun h => ?_
           ·refine AS ?_
            exact sn [(2009, 2007)] h
           ·refine Al ?_
            refine AL h (fun v25 => mk [(3, oD (.ptr 3 0)), (5, oD (.own 2010)), (6, iD v1.2), (7, oD (.ptr 7 0)), (8, pD (.val (.int .u8 v7))), (9, pD (.val (.int .u8 v6))), (10, iD v11.2), (11, bD v25), (12, iD v18.2.2), (13, bD v22), (15, pD (.sl (p0.fd.map AT))), (16, iD ((p0.fd.length : Int))), (17, iD v1.2), (39, iD ((v4.fq.length : Int))), (40, iD v11.2), (52, pD (.sl (v17.map eB))), (53, iD ((v17.length : Int))), (54, iD v18.2.2)] [(3, .box (Av p1)), (7, .box (Bd v4)), (2010, .vec 3 (v18.1.map AP))]) (fun j25 h => ?_) (fun v25 h => ?_)
            ·refine Aj Ay rfl (qw 2 rfl ?_)
             refine Dm 65 h rfl (fun h => ?_) fun h => ?_
             ·refine qn rfl (qp rfl (qe rfl ?_))
              exact sn [(2010, 2007)] h
             ·refine qm rfl (qp rfl (qe rfl ?_))
              exact sn [(2010, 2007)] h
            ·refine AL h (fun v27 => mk [(3, oD (.ptr 3 0)), (5, oD (.own 2011)), (6, iD v1.2), (7, oD (.ptr 7 0)), (8, pD (.val (.int .u8 v7))), (9, pD (.val (.int .u8 v6))), (10, iD v11.2), (11, bD v25), (12, iD v18.2.2), (15, pD (.sl (p0.fd.map AT))), (16, iD ((p0.fd.length : Int))), (17, iD v1.2), (39, iD ((v4.fq.length : Int))), (40, iD v11.2), (52, pD (.sl (v17.map eB))), (53, iD ((v17.length : Int))), (54, iD v18.2.2), (74, bD v27)] [(3, .box (Av p1)), (7, .box (Bd v4)), (2011, .vec 3 (v18.1.map AP))]) (fun j27 h => ?_) (fun v27 h => ?_)
             ·refine Aj Ay rfl (qm rfl (BT rfl (qm rfl ?_)))
              refine Dm 70 h rfl (fun h => ?_) fun h => ?_
              ·refine qf IH rfl (ql RN rfl (BT rfl (qp rfl (Ad ?_))))
               exact sn [(2011, 2010)] h
              ·refine qw 3 rfl (qp rfl (Ad ?_))
               exact sn [(2011, 2010)] h
             ·refine A5 h (fun h => ?_) fun h => ?_
              ·refine Aj Ay rfl (qw 4 rfl (AU F3 Kg rfl (Eu FX DV F3 rfl ?_)))
               refine E1 h fun c30 h => El (f := AP) FX FX DV Ry F3 c30 rfl (qe rfl ?_)
               exact sn [(2009, 81)] h
              ·refine Al ?_
               exact sn [(2009, 2011)] h
          ·refine Aj Ay rfl (Be rfl (qm rfl (Ad ?_)))
           exact sn [(2007, 2009)] h
         ·refine AS ?_
          exact sn [(2008, 2007)] h
        ·refine Ae hs ?_
         refine AL h (fun v31 => mk [(3, oD (.ptr 3 0)), (5, oD (.own 2012)), (6, iD v1.2), (7, oD (.ptr 7 0)), (8, pD (.val (.int .u8 v7))), (9, pD (.val (.int .u8 v6))), (10, iD v11.2), (15, pD (.sl (p0.fd.map AT))), (16, iD ((p0.fd.length : Int))), (17, iD v1.2), (39, iD ((v4.fq.length : Int))), (40, iD v11.2), (88, bD v31)] [(3, .box (Av p1)), (7, .box (Bd v4)), (2012, .vec 3 (v19.1.map AP))]) (fun j31 h => ?_) (fun v31 h => ?_)
         ·refine Aj Ay rfl (qf IH rfl (ql RN rfl (qm rfl ?_)))
          refine Dm 85 h rfl (fun h => ?_) fun h => ?_
          ·refine qm rfl (BT rfl (qp rfl (Ad ?_)))
           exact sn [(2012, 2008)] h
          ·refine qw 2 rfl (qp rfl (Ad ?_))
           exact sn [(2012, 2008)] h
         ·refine A5 h (fun h => ?_) fun h => ?_
          ·refine Aj Ay rfl (qw 3 rfl (AU F3 Kg rfl (Eu FX DV F3 rfl ?_)))
           refine E1 h fun c34 h => El (f := AP) FX FX DV Ry F3 c34 rfl (qe rfl ?_)
           exact sn [(2006, 94)] h
          ·refine Al ?_
           exact sn [(2006, 2012)] h
      ·refine Aj Ay rfl (Be rfl (qm rfl (Ad ?_)))
       exact sn [(2004, 2006)] h
     ·refine AS ?_
      exact sn [(2005, 2004)] h
    ·refine Ae hs (Aj Ay rfl (Be rfl (qm rfl (Ad ?_))))
     exact sn [(2001, 2005)] h
  ·refine AS ?_
   exact sn [(2002, 2001)] h
 ·refine Ae hs (wq rfl (qm rfl (qe rfl ?_)))
  obtain rfl := sj h
  refine Ae (sm [(1000, 2002)] [(4, oD (.own 1000))] [(1000, .vec 3 (v2.map AP))] rfl rfl) (Aq ?_)
  exact ⟨⟨[_], tm, rfl⟩, ⟨rfl, tv⟩⟩
theorem JP (N : Nat) (p0 : Aa) (p1 : Ac) (r : Ac × Ai × Int) (h : Fs N p0 p1 = some r) : Ar Tryz.prog 53 [.e (.agg (Ag p0)), .e (.agg (Av p1))] [] (.tup [.agg (Av r.1), .agg (Ev r.2.1), .one (iC r.2.2)]) := by
 unfold Fs at h
 refine cw (n := 42) (rs := [.cell 4 38, .cell 5 93, .tmp 6]) Tryz.func53 fun w0 S0 => ?_
 refine wq rfl (qb rfl (qb rfl (qz BU rfl (qz F3 rfl (qa rfl (Ad (wq rfl (qL Ch B5 rfl (qL AW AE rfl ?_)))))))))
 refine BH h fun v1 a1 h => As [2001] (OV N p0 p1 v1 a1) Yq rfl (qm rfl (qx rfl (qx rfl (qa rfl (qa rfl (Ad (wp rfl (qm rfl (Bk rfl (Ad ?_))))))))))
 refine A5 h (fun h => ?_) fun h => ?_
 ·refine wq rfl (AU BU FD rfl (AU F3 Kg rfl (qm rfl (qs AE rfl (qs DV rfl (qe rfl ?_))))))
  obtain rfl := sj h
  refine Ae ((DC 4 _ rfl).trans (sm [] [(4, oD (.ptr 4 0)), (5, oD (.ptr 5 0)), (6, iD v1.2)] [(4, .box [sC ((([] : List Int)).map An), sC ((([] : List Int)).map An), sC ((([] : List Int)).map Cb)]), (5, .box [iC 0, iC 0, iC 0])] rfl rfl)) (Aq ?_)
  exact ⟨⟨[_, _, _], ⟨.cellN _ _ _ _ _ _ _ rfl rfl AW AE rfl rfl (FM rfl), ⟨.cellN _ _ _ _ _ _ _ rfl rfl Ix DV rfl rfl (FM rfl), tm⟩⟩, rfl⟩, tv⟩
 ·refine Al (wp rfl (qm rfl (Fr Gg rfl (qm rfl (Ad ?_)))))
  refine AH (L := Em N p0 v1) h (fun v3 => mk [(2, oD (.ptr 2 0)), (4, oD (.ptr 4 0)), (5, oD (.ptr 5 0)), (23, oD (.own 2002)), (24, iD ((v1.1.length : Int))), (25, iD v3)] [(2, .box (Ag p0)), (4, .box [.pure (.nil0), .pure (.nil0), .pure (.nil0)]), (5, .box [iC 0, iC 0, iC 0]), (2002, .vec 3 (v1.1.map Ca))]) (fun v4 => mk [(4, oD (.ptr 4 0)), (5, oD (.ptr 5 0))] [(4, .box [.pure (.nil0), .pure (.nil0), .pure (.nil0)]), (5, .box [iC 0, iC 0, iC 0])]) (fun _ _ => rfl) (sm [(2002, 2001)] _ _ rfl rfl) (fun j3 n3 v3 h => ?_) (fun v4 s h hs => ?_)
  ·unfold Em at h
   refine wq rfl (AV rfl (Ad (AN ?_)))
   refine A5 h (fun h => ?_) fun h => ?_
   ·refine Al (AN (AM (wq rfl ?_)))
    refine BS h fun v6 a6 b6 h => qI Gg AE a6 (Ah b6) rfl (qJ AW AE (Ah b6) rfl (qz BU rfl (qs AE rfl (Ad (wq rfl (qL Ch B5 rfl (qL AW AE rfl ?_)))))))
    refine BH h fun v7 a7 h => As [2003] (MC N p0 v6 v7 a7) X9 rfl (qa rfl (Ad (wq rfl (qm rfl (Fr FX rfl (Fe rfl (Ad ?_)))))))
    refine A5 h (fun h => ?_) fun h => ?_
    ·refine wq rfl (qL AW AE rfl (qm rfl ?_))
     refine BS h fun v9 a9 b9 h => qI FX DV a9 (Ah b9) rfl (qJ Ix DV (Ah b9) rfl (qs AE rfl (qs DV rfl (qa rfl (AI (by kernel_rfl) ?_)))))
     obtain rfl := sj h
     refine Ae (sm [] [(4, oD (.ptr 4 0)), (5, oD (.ptr 5 0)), (6, iD 0)] [(4, .box (Av v6)), (5, .box (Ev v9))] rfl rfl) (Aq ?_)
     exact ⟨⟨[_, _, _], ⟨.cellN _ _ _ _ _ _ _ rfl rfl AW AE rfl rfl (FM rfl), ⟨.cellN _ _ _ _ _ _ _ rfl rfl Ix DV rfl rfl (FM rfl), tm⟩⟩, rfl⟩, tv⟩
    ·refine Al (Aj Ay rfl (Be rfl (qm rfl (Ad ?_))))
     exact sn [] h
   ·refine AS ?_
    exact sn [] h
  ·refine Ae hs (wq rfl (AU BU FD rfl (AU F3 Kg rfl (qs AE rfl (qs DV rfl (qe rfl ?_))))))
   obtain rfl := sj h
   refine Ae ((DC 4 _ rfl).trans (sm [] [(4, oD (.ptr 4 0)), (5, oD (.ptr 5 0)), (6, iD 15)] [(4, .box [sC ((([] : List Int)).map An), sC ((([] : List Int)).map An), sC ((([] : List Int)).map Cb)]), (5, .box [iC 0, iC 0, iC 0])] rfl rfl)) (Aq ?_)
   exact ⟨⟨[_, _, _], ⟨.cellN _ _ _ _ _ _ _ rfl rfl AW AE rfl rfl (FM rfl), ⟨.cellN _ _ _ _ _ _ _ rfl rfl Ix DV rfl rfl (FM rfl), tm⟩⟩, rfl⟩, tv⟩
theorem Lc (N : Nat) (p0 : Ab) (r : Bool) (h : Fy N p0 = some r) : Ar Tryz.prog 79 [.e (.agg (Cs p0))] [] (bD r) := by
 unfold Fy at h
 refine cw (n := 27) (rs := [.tmp 2]) Tryz.func79 fun w0 S0 => ?_
 refine wq rfl (qb rfl (qa rfl (Ad (AN ?_))))
 refine AL h (fun v1 => mk [(1, oD (.ptr 1 0)), (18, bD v1)] [(1, .box (Cs p0))]) (fun j1 h => ?_) (fun v1 h => ?_)
 ·refine Aj Ay rfl (qf Ew rfl (ql BQ rfl (qf F4 rfl (ql BQ rfl ?_))))
  refine RJ (.p rfl) rfl rfl ?_
  refine AV rfl (qm rfl ?_)
  refine Dm 9 h rfl (fun h => ?_) fun h => ?_
  ·refine qw 3 rfl (qp rfl (qw 4 rfl (qp rfl (Ad ?_))))
   exact sn [] h
  ·refine qf D7 rfl (ql BQ rfl (AV rfl (qp rfl (qm rfl ?_))))
   refine Dm 14 h rfl (fun h => ?_) fun h => ?_
   ·refine qw 3 rfl (qp rfl (Ad ?_))
    exact sn [] h
   ·refine qf D7 rfl (ql BQ rfl (Fe rfl (qp rfl (Ad ?_))))
    exact sn [] h
 ·refine A5 h (fun h => ?_) fun h => ?_
  ·refine wq rfl (qe rfl ?_)
   obtain rfl := sj h
   refine Ae (sm [] [(2, bD false)] [] rfl rfl) (Aq ?_)
   exact ⟨⟨[_], tm, rfl⟩, tv⟩
  ·refine Al ?_
   refine AL h (fun v5 => mk [(2, bD v5)] []) (fun j5 h => ?_) (fun v5 h => ?_)
   ·refine Aj Ay rfl (qf D7 rfl (ql BQ rfl (Bp rfl (qm rfl ?_))))
    refine Dm 22 h rfl (fun h => ?_) fun h => ?_
    ·refine qw 3 rfl (qp rfl (qe rfl ?_))
     exact sn [] h
    ·refine qf F4 rfl (ql BQ rfl (Bp rfl (qp rfl (qe rfl ?_))))
     exact sn [] h
   ·obtain rfl := sj h
    refine Ae (sm [] [(2, bD v5)] [] rfl rfl) (Aq ?_)
    exact ⟨⟨[_], tm, rfl⟩, tv⟩
theorem NR (N : Nat) (p0 : Aa) (p1 : Ab) (r : Bool) (h : FP N p0 p1 = some r) : Ar Tryz.prog 99 [.e (.agg (Ag p0)), .e (.agg (Cs p1))] [] (bD r) := by
 unfold FP at h
 refine cw (n := 36) (rs := [.tmp 4]) Tryz.func99 fun w0 S0 => ?_
 refine wq rfl (qb rfl (qb rfl (qa rfl (Ad (wp rfl (qf D7 rfl (ql BQ rfl (Bp rfl (Ad ?_)))))))))
 refine A5 h (fun h => ?_) fun h => ?_
 ·refine wq rfl (qf Ew rfl (ql BQ rfl (qf CJ rfl (ql Hs rfl (AF Ek rfl (AV rfl (qe rfl ?_)))))))
  obtain rfl := sj h
  refine Ae (sm [] [(4, bD ((decide (p1.fh < (p0.fd.length : Int)))))] [] rfl rfl) (Aq ?_)
  exact ⟨⟨[_], tm, rfl⟩, tv⟩
 ·refine Al ?_
  refine AL h (fun v2 => mk [(4, bD v2)] []) (fun j2 h => ?_) (fun v2 h => ?_)
  ·refine Aj Ay rfl (qf Ew rfl (ql BQ rfl (qf Bq rfl (ql A0 rfl (AF Ax rfl (AV rfl (qm rfl ?_)))))))
   refine Dm 20 h rfl (fun h => ?_) fun h => ?_
   ·refine qf D7 rfl (ql BQ rfl (Bk rfl (qm rfl ?_)))
    refine Dm 24 h rfl (fun h => ?_) fun h => ?_
    ·refine qw 9 rfl (qp rfl (qp rfl (qa rfl (AI (by kernel_rfl) ?_))))
     exact sn [] h
    ·refine qf F4 rfl (ql BQ rfl (qf Bq rfl (ql A0 rfl (qf Ew rfl (ql BQ rfl ?_)))))
     refine BS h fun v5 a5 b5 h => qi Ax CU a5 (Ah b5) rfl (qk BQ rfl (AV rfl (qp rfl (qp rfl (qa rfl (AI (by kernel_rfl) ?_))))))
     exact sn [] h
   ·refine qw 4 rfl (qu rfl (qu rfl (qu rfl (qu rfl (qu rfl (qu rfl (qu rfl (qu rfl (qu rfl (qn rfl (qp rfl (qa rfl (AI (by kernel_rfl) ?_)))))))))))))
    exact sn [] h
  ·obtain rfl := sj h
   refine Ae (sm [] [(4, bD v2)] [] rfl rfl) (Aq ?_)
   exact ⟨⟨[_], tm, rfl⟩, tv⟩
theorem N4 (N : Nat) (p0 : Ac) (r : Ac) (h : F0 N p0 = some r) : Ar Tryz.prog 109 [.e (.agg (Av p0))] [(1, r.fe.map An), (1, r.fa.map An), (1, r.fc.map Cb)] (.e (.agg [.own 0, .own 1, .own 2])) := by
 unfold F0 at h
 refine cw (n := 13) (rs := [.cell 2 38]) Tryz.func109 fun w0 S0 => ?_
 refine wq rfl (qb rfl (qz BU rfl (Ad (wq rfl (qf Ct rfl (ql A0 rfl ?_))))))
 refine BH h fun v1 a1 h => As [2001] (Dv N p0.fe v1 a1) TO rfl (qf Bl rfl (ql A0 rfl ?_))
 refine BH h fun v2 a2 h => As [2002] (Dv N p0.fa v2 a2) TO rfl (qf Cn rfl (ql GS rfl ?_))
 refine BH h fun v3 a3 h => As [2003] (E6 N p0.fc v3 a3) WL rfl (AU BU FD rfl (qs AE rfl (AI (by kernel_rfl) ?_)))
 obtain rfl := sj h
 refine Ae (sm [(1000, 2001), (1001, 2002), (1002, 2003)] [(2, oD (.ptr 2 0))] [(2, .box [.own 1000, .own 1001, .own 1002]), (1000, .vec 1 (v1.map An)), (1001, .vec 1 (v2.map An)), (1002, .vec 1 (v3.map Cb))] rfl rfl) (Aq ?_)
 exact ⟨⟨[_], ⟨.cellN _ _ _ _ _ _ _ rfl rfl AW AE rfl rfl (FM rfl), tv⟩, rfl⟩, ⟨rfl, rfl, rfl, tv⟩⟩
theorem Kv (N : Nat) (p0 : Au) (r : Bool) (h : Fg N p0 = some r) : Ar Tryz.prog 117 [.e (.agg (Bd p0))] [] (bD r) := by
 unfold Fg at h
 refine cw (n := 11) (rs := [.tmp 2]) Tryz.func117 fun w0 S0 => ?_
 refine wq rfl (qb rfl (qe rfl ?_))
 refine AL h (fun v1 => mk [(2, bD v1)] []) (fun j1 h => ?_) (fun v1 h => ?_)
 ·refine Aj Ay rfl (qf FF rfl (ql BQ rfl (Bp rfl (qm rfl ?_))))
  refine Dm 6 h rfl (fun h => ?_) fun h => ?_
  ·refine qw 3 rfl (qp rfl (qe rfl ?_))
   exact sn [] h
  ·refine qf FF rfl (ql BQ rfl (Bp rfl (qp rfl (qe rfl ?_))))
   exact sn [] h
 ·obtain rfl := sj h
  refine Ae (sm [] [(2, bD v1)] [] rfl rfl) (Aq ?_)
  exact ⟨⟨[_], tm, rfl⟩, tv⟩
theorem Pi (N : Nat) (p0 : Aa) (p1 : Ac) (p2 : Ab) (r : Bool × (List Int) × (List Int)) (h : Hw N p0 p1 p2 = some r) : DG Tryz.prog 110 [.e (.agg (Ag p0)), oD (.ptr 90000 0), .e (.agg (Cs p2))] [(.box [.own 90001, .own 90002, .own 90003], .box [.own 90001, .own 90002, .own 90003]), (.vec 1 (p1.fe.map An), .vec 1 (p1.fe.map An)), (.vec 1 (p1.fa.map An), .vec 1 (r.2.1.map An)), (.vec 1 (p1.fc.map Cb), .vec 1 (r.2.2.map Cb))] [] (bD r.1) := by
 unfold Hw at h
 refine FU (n := 70) (rs := [.tmp 6]) Tryz.func110 rfl rfl rfl (Jb rfl) (Jb rfl) rfl rfl (Jb rfl) rfl (Jb rfl) fun w0 S0 GL => ?_
 refine Ae (sm [] [(0, .e (.agg (Ag p0))), (1, oD (.ptr 90000 0)), (2, .e (.agg (Cs p2)))] [(90000, .box [.own 90001, .own 90002, .own 90003]), (90001, .vec 1 (p1.fe.map An)), (90002, .vec 1 (p1.fa.map An)), (90003, .vec 1 (p1.fc.map Cb))] rfl rfl) (wq rfl (qb rfl (qb rfl (qa rfl (Ad (AN ?_))))))
 refine AL h (fun v1 => mk [(1, oD (.ptr 90000 0)), (3, oD (.ptr 3 0)), (5, oD (.ptr 5 0)), (30, bD v1)] [(3, .box (Ag p0)), (5, .box (Cs p2)), (90000, .box [.own 90001, .own 90002, .own 90003]), (90001, .vec 1 (p1.fe.map An)), (90002, .vec 1 (p1.fa.map An)), (90003, .vec 1 (p1.fc.map Cb))]) (fun j1 h => ?_) (fun v1 h => ?_)
 ·refine Aj Ay rfl (qm rfl (UQ rfl (qf Bl rfl (ql A0 rfl (qf Ew rfl (ql BQ rfl ?_))))))
  refine BS h fun v2 a2 b2 h => qI Ax CU a2 (Ah b2) rfl (qj BQ (Ah b2) rfl (EA rfl (qm rfl ?_)))
  refine Dm 18 h rfl (fun h => ?_) fun h => ?_
  ·refine qw 11 rfl (qp rfl (AI (by kernel_rfl) ?_))
   exact sn [] h
  ·refine qm rfl (UQ rfl (qf Ct rfl (ql A0 rfl (qf Ew rfl (ql BQ rfl ?_)))))
   refine BS h fun v4 a4 b4 h => qI Ax CU a4 (Ah b4) rfl (qj BQ (Ah b4) rfl (qf F4 rfl (ql BQ rfl (Bp rfl (qp rfl (AI (by kernel_rfl) ?_))))))
   exact sn [] h
 ·refine A5 h (fun h => ?_) fun h => ?_
  ·refine wq rfl (qe rfl ?_)
   obtain rfl := sj h
   refine Ae (sm [] [(6, bD false)] [(90000, .box [.own 90001, .own 90002, .own 90003]), (90001, .vec 1 (p1.fe.map An)), (90002, .vec 1 (p1.fa.map An)), (90003, .vec 1 (p1.fc.map Cb))] rfl rfl) (Aq ?_)
   exact ⟨⟨[_], tm, rfl⟩, ⟨rfl, rfl, rfl, rfl, tv⟩, tv⟩
  ·refine Al (wq rfl (qm rfl (UQ rfl (qf Bl rfl (ql A0 rfl (qf Ew rfl (ql BQ rfl (qf F4 rfl (ql BQ rfl ?_)))))))))
   refine BS h fun v6 a6 b6 h => qI Ax CU a6 (Ah b6) rfl ?_
   refine EN rfl rfl rfl rfl (Ah b6) rfl CU rfl (Jb rfl) (EK An p1.fa _ p2.fj) ?_
   refine AI (by kernel_rfl) (wp rfl (qf CJ rfl (ql Hs rfl (AF Ek rfl (qm rfl (Ad ?_))))))
   refine AH (L := Dc N p0 p2) h (fun v7 => mk [(1, oD (.ptr 90000 0)), (5, oD (.ptr 5 0)), (41, pD (.sl (p0.fd.map AT))), (42, iD ((p0.fd.length : Int))), (43, iD v7.2)] [(5, .box (Cs p2)), (90000, .box [.own 90001, .own 90002, .own 90003]), (90001, .vec 1 (p1.fe.map An)), (90002, .vec 1 ((p1.fa.set ((p2.fh).toNat) p2.fj).map An)), (90003, .vec 1 (v7.1.map Cb))]) (fun v8 => mk [] [(90000, .box [.own 90001, .own 90002, .own 90003]), (90001, .vec 1 (p1.fe.map An)), (90002, .vec 1 ((p1.fa.set ((p2.fh).toNat) p2.fj).map An)), (90003, .vec 1 (v8.map Cb))]) (fun _ _ => rfl) (sm [] _ _ rfl rfl) (fun j7 n7 v7 h => ?_) (fun v8 s h hs => ?_)
   ·unfold Dc at h
    refine wq rfl (AV rfl (Ad (AN ?_)))
    refine A5 h (fun h => ?_) fun h => ?_
    ·refine Al ?_
     refine AL h (fun v10 => mk [(1, oD (.ptr 90000 0)), (5, oD (.ptr 5 0)), (41, pD (.sl (p0.fd.map AT))), (42, iD ((p0.fd.length : Int))), (43, iD v7.2)] [(5, .box (Cs p2)), (90000, .box [.own 90001, .own 90002, .own 90003]), (90001, .vec 1 (p1.fe.map An)), (90002, .vec 1 ((p1.fa.set ((p2.fh).toNat) p2.fj).map An)), (90003, .vec 1 (v10.map Cb))]) (fun j10 h => ?_) (fun v10 h => ?_)
     ·refine AM (wq rfl (qm rfl ?_))
      refine BS h fun v11 a11 b11 h => qi Ek Ef a11 (Ah b11) rfl (qK Hu Ef rfl (qz L1 rfl (qa rfl (qs Ef rfl (Ad ?_)))))
      refine AL h (fun v12 => mk [(1, oD (.ptr 90000 0)), (5, oD (.ptr 5 0)), (7, iD v7.2), (41, pD (.sl (p0.fd.map AT))), (42, iD ((p0.fd.length : Int))), (43, iD v7.2), (56, bD v12)] [(5, .box (Cs p2)), (90000, .box [.own 90001, .own 90002, .own 90003]), (90001, .vec 1 (p1.fe.map An)), (90002, .vec 1 ((p1.fa.set ((p2.fh).toNat) p2.fj).map An)), (90003, .vec 1 (v7.1.map Cb))]) (fun j12 h => ?_) (fun v12 h => ?_)
      ·refine Aj Ay rfl (qf CN rfl (ql BQ rfl (qf Ew rfl (ql BQ rfl (Bp rfl (qm rfl ?_))))))
       refine Dm 53 h rfl (fun h => ?_) fun h => ?_
       ·refine qL Hu Ef rfl ?_
        refine BH h fun v14 a14 h => As [] (Kv N v11 v14 a14) VE rfl (qp rfl (Ad ?_))
        exact sn [] h
       ·refine qw 2 rfl (qp rfl (Ad ?_))
        exact sn [] h
      ·refine A5 h (fun h => ?_) fun h => ?_
       ·refine Aj Ay rfl (qm rfl (UQ rfl (qf Cn rfl (ql GS rfl (qm rfl ?_)))))
        refine BS h fun v16 a16 b16 h => qI C0 FB a16 (Ah b16) rfl (qj JD (Ah b16) rfl (qf F4 rfl (ql BQ rfl ?_)))
        refine E1 h fun c17 h => IE rfl c17 (TW rfl ?_)
        refine BS h fun v18 a18 b18 h => qI C0 FB a18 (Ah b18) rfl ?_
        refine EN rfl rfl rfl rfl (Ah b18) rfl FB rfl (Jb rfl) (EK Cb v7.1 _ ((NI .u8 v16 ((Dp .u8 1 p2.fj))))) ?_
        refine AI (by kernel_rfl) ?_
        exact sn [] h
       ·refine Al ?_
        exact sn [] h
     ·refine Aj Ay rfl (Be rfl (qm rfl (Ad ?_)))
      exact sn [] h
    ·refine AS ?_
     exact sn [] h
   ·refine Ae hs (wq rfl (qe rfl ?_))
    obtain rfl := sj h
    refine Ae (sm [] [(6, bD true)] [(90000, .box [.own 90001, .own 90002, .own 90003]), (90001, .vec 1 (p1.fe.map An)), (90002, .vec 1 ((p1.fa.set ((p2.fh).toNat) p2.fj).map An)), (90003, .vec 1 (v8.map Cb))] rfl rfl) (Aq ?_)
    exact ⟨⟨[_], tm, rfl⟩, ⟨rfl, rfl, rfl, rfl, tv⟩, tv⟩
theorem M2 (N : Nat) (p0 : Ac) (p1 : Int) (r : Int) (h : Fu N p0 p1 = some r) : Ar Tryz.prog 118 [.e (.agg (Av p0)), iD p1] [] (pD (.val (.int .u8 r))) := by
 unfold Fu at h
 refine cw (n := 27) (rs := [.tmp 4]) Tryz.func118 fun w0 S0 => ?_
 refine wq rfl (qb rfl (qa rfl (Ad (wq rfl (qf Ct rfl (ql A0 rfl (qm rfl ?_)))))))
 refine BS h fun v1 a1 b1 h => qi Ax CU a1 (Ah b1) rfl (qk BQ rfl ?_)
 refine E1 h fun c2 h => IE rfl c2 (qe rfl ?_)
 refine AL h (fun v3 => mk [(5, pD (.val (.int .u8 v3)))] []) (fun j3 h => ?_) (fun v3 h => ?_)
 ·refine wq rfl (qf Bl rfl (ql A0 rfl (qm rfl ?_)))
  refine BS h fun v4 a4 b4 h => qi Ax CU a4 (Ah b4) rfl (qk BQ rfl (EA rfl (Ad ?_)))
  refine A5 h (fun h => ?_) fun h => ?_
  ·refine Aj Ay rfl (qm rfl (qf Bl rfl (ql A0 rfl (qm rfl ?_))))
   refine BS h fun v6 a6 b6 h => qi Ax CU a6 (Ah b6) rfl (qk BQ rfl ?_)
   refine E1 h fun c7 h => IE rfl c7 (TW rfl (qe rfl ?_))
   exact sn [] h
  ·refine Al ?_
   exact sn [] h
 ·refine wq rfl (qm rfl (qe rfl ?_))
  obtain rfl := sj h
  refine Ae (sm [] [(4, pD (.val (.int .u8 v3)))] [] rfl rfl) (Aq ?_)
  exact ⟨⟨[_], tm, rfl⟩, tv⟩
theorem Ip (N : Nat) (p0 : Int) (r : Int) (h : CE N p0 = some r) : Ar Tryz.prog 125 [pD (.val (.int .u8 p0))] [] (iD r) := by
 unfold CE at h
 refine cw (n := 6) (rs := [.tmp 2]) Tryz.func125 fun w0 S0 => ?_
 refine wq rfl (qa rfl (Ad (wq rfl (qm rfl ?_))))
 refine BH h fun v1 a1 h => Sx (.p rfl) rfl rfl X7 a1 ?_
 refine Jx WC Vs rfl (qe rfl ?_)
 obtain rfl := sj h
 refine Ae (sm [] [(2, iD ((wI .i64 v1)))] [] rfl rfl) (Aq ?_)
 exact ⟨⟨[_], tm, rfl⟩, tv⟩
theorem K2 (N : Nat) (p0 : Au) (p1 : Int) (p2 : Int) (r : Bool) (h : Fo N p0 p1 p2 = some r) : Ar Tryz.prog 119 [.e (.agg (Bd p0)), pD (.val (.int .u8 p1)), iD p2] [] (bD r) := by
 unfold Fo at h
 refine cw (n := 25) (rs := [.tmp 6]) Tryz.func119 fun w0 S0 => ?_
 refine wq rfl (qb rfl (qa rfl (Ad (wp rfl (qm rfl (qe rfl ?_))))))
 refine AH (L := C1 N p0 p2) h (fun v1 => mk [(2, iD p2), (3, oD (.ptr 3 0)), (7, pD (.val (.int .u8 v1)))] [(3, .box (Bd p0))]) (fun v2 => mk [] []) (fun _ _ => rfl) (sm [] _ _ rfl rfl) (fun j1 n1 v1 h => ?_) (fun v2 s h hs => ?_)
 ·unfold C1 at h
  refine wp rfl (qm rfl (Bk rfl (Ad ?_)))
  refine A5 h (fun h => ?_) fun h => ?_
  ·refine Al (AN (AM (wq rfl (qf GB rfl (ql JS rfl (qm rfl ?_))))))
   refine BH h fun v4 a4 h => As [] (Ip N v1 v4 a4) W4 rfl ?_
   refine BS h fun v5 a5 b5 h => qi Gb Ns a5 (Ah b5) rfl (qk OS rfl (qm rfl ?_))
   refine BS h fun v6 a6 b6 h => qi GX Rk a6 (Ah b6) rfl (qk RN rfl (BT rfl (AI (by kernel_rfl) ?_)))
   refine A5 h (fun h => ?_) fun h => ?_
   ·refine wq rfl (qe rfl ?_)
    obtain rfl := sj h
    refine Ae (sm [] [(6, bD false)] [] rfl rfl) (Aq ?_)
    exact ⟨⟨[_], tm, rfl⟩, tv⟩
   ·refine Al (Aj Ay rfl (qw 2 rfl (QN rfl (Mi rfl (qe rfl ?_)))))
    exact sn [] h
  ·refine AS ?_
   exact sn [] h
 ·refine Ae hs (wq rfl (qe rfl ?_))
  obtain rfl := sj h
  refine Ae (sm [] [(6, bD true)] [] rfl rfl) (Aq ?_)
  exact ⟨⟨[_], tm, rfl⟩, tv⟩
theorem OU (N : Nat) (p0 : Aa) (p1 : Ac) (p2 : Int) (r : Bool × (List Int)) (h : Gw N p0 p1 p2 = some r) : DG Tryz.prog 111 [.e (.agg (Ag p0)), oD (.ptr 90000 0), iD p2] [(.box [.own 90001, .own 90002, .own 90003], .box [.own 90001, .own 90002, .own 90003]), (.vec 1 (p1.fe.map An), .vec 1 (p1.fe.map An)), (.vec 1 (p1.fa.map An), .vec 1 (p1.fa.map An)), (.vec 1 (p1.fc.map Cb), .vec 1 (r.2.map Cb))] [] (bD r.1) := by
 unfold Gw at h
 refine FU (n := 68) (rs := [.tmp 6]) Tryz.func111 rfl rfl rfl (Jb rfl) (Jb rfl) rfl rfl (Jb rfl) rfl (Jb rfl) fun w0 S0 GL => ?_
 refine Ae (sm [] [(0, .e (.agg (Ag p0))), (1, oD (.ptr 90000 0)), (2, iD p2)] [(90000, .box [.own 90001, .own 90002, .own 90003]), (90001, .vec 1 (p1.fe.map An)), (90002, .vec 1 (p1.fa.map An)), (90003, .vec 1 (p1.fc.map Cb))] rfl rfl) (wq rfl (qb rfl (qa rfl (Ad (wq rfl (qf CJ rfl (ql Hs rfl (qm rfl ?_))))))))
 refine BS h fun v1 a1 b1 h => qi Ek Ef a1 (Ah b1) rfl (qK Hu Ef rfl (qz L1 rfl (qs Ef rfl (Ad (wp rfl (qL Hu Ef rfl ?_))))))
 refine BH h fun v2 a2 h => As [] (Kv N v1 v2 a2) VE rfl (BT rfl (Ad ?_))
 refine A5 h (fun h => ?_) fun h => ?_
 ·refine wq rfl (qe rfl ?_)
  obtain rfl := sj h
  refine Ae (sm [] [(6, bD false)] [(90000, .box [.own 90001, .own 90002, .own 90003]), (90001, .vec 1 (p1.fe.map An)), (90002, .vec 1 (p1.fa.map An)), (90003, .vec 1 (p1.fc.map Cb))] rfl rfl) (Aq ?_)
  exact ⟨⟨[_], tm, rfl⟩, ⟨rfl, rfl, rfl, rfl, tv⟩, tv⟩
 ·refine Al (wq rfl (qm rfl (UQ rfl (qL AW AE rfl (qf CN rfl (ql BQ rfl ?_))))))
  refine BH h fun v4 a4 h => GD [] [90001, 90002, 90003] (M2 N p1 v1.fg v4 a4) WP EJ rfl (qa rfl (AI (by kernel_rfl) (wq rfl (qm rfl (UQ rfl (qf Cn rfl (ql GS rfl (qm rfl ?_))))))))
  refine BS h fun v5 a5 b5 h => qI C0 FB a5 (Ah b5) rfl (qj JD (Ah b5) rfl (qm rfl (Ie rfl (qa rfl (Ad (AN ?_))))))
  refine AL h (fun v6 => mk [(1, oD (.ptr 90000 0)), (2, iD p2), (8, pD (.val (.int .u8 v4))), (60, bD v6)] [(90000, .box [.own 90001, .own 90002, .own 90003]), (90001, .vec 1 (p1.fe.map An)), (90002, .vec 1 (p1.fa.map An)), (90003, .vec 1 (p1.fc.map Cb))]) (fun j6 h => ?_) (fun v6 h => ?_)
  ·refine Aj Ay rfl (qm rfl (UQ rfl (qf Cn rfl (ql GS rfl (qm rfl ?_)))))
   refine BS h fun v7 a7 b7 h => qI C0 FB a7 (Ah b7) rfl (qj JD (Ah b7) rfl (qm rfl (Bp rfl (qm rfl ?_))))
   refine Dm 42 h rfl (fun h => ?_) fun h => ?_
   ·refine qw 4 rfl (qu rfl (qu rfl (qu rfl (qu rfl (qu rfl (qu rfl (qu rfl (qu rfl (qu rfl (qu rfl (qu rfl (qu rfl (qn rfl (qp rfl (AI (by kernel_rfl) ?_)))))))))))))))
    exact sn [] h
   ·refine qf FF rfl (ql BQ rfl (Bp rfl (qm rfl ?_)))
    refine Dm 46 h rfl (fun h => ?_) fun h => ?_
    ·refine qL Hu Ef rfl (qw 2 rfl (UQ rfl (qf Ct rfl (ql A0 rfl (qf CN rfl (ql BQ rfl ?_))))))
     refine BS h fun v10 a10 b10 h => qI Ax CU a10 (Ah b10) rfl (qj BQ (Ah b10) rfl ?_)
     refine BH h fun v11 a11 h => As [] (K2 N v1 ((CR .u8 v5 v4)) v10 v11 a11) WZ rfl (BT rfl (qp rfl (qp rfl (AI (by kernel_rfl) ?_))))
     exact sn [] h
    ·refine qw 12 rfl (qp rfl (qp rfl (AI (by kernel_rfl) ?_)))
     exact sn [] h
  ·refine A5 h (fun h => ?_) fun h => ?_
   ·refine wq rfl (qe rfl ?_)
    obtain rfl := sj h
    refine Ae (sm [] [(6, bD false)] [(90000, .box [.own 90001, .own 90002, .own 90003]), (90001, .vec 1 (p1.fe.map An)), (90002, .vec 1 (p1.fa.map An)), (90003, .vec 1 (p1.fc.map Cb))] rfl rfl) (Aq ?_)
    exact ⟨⟨[_], tm, rfl⟩, ⟨rfl, rfl, rfl, rfl, tv⟩, tv⟩
   ·refine Al (wq rfl (qm rfl (UQ rfl (qf Cn rfl (ql GS rfl (qw 2 rfl ?_))))))
    refine BS h fun v13 a13 b13 h => qI C0 FB a13 (Ah b13) rfl ?_
    refine EN rfl rfl rfl rfl (Ah b13) rfl FB rfl (Jb rfl) (EK Cb p1.fc _ v4) ?_
    refine Ad (wq rfl (qe rfl ?_))
    obtain rfl := sj h
    refine Ae (sm [] [(6, bD true)] [(90000, .box [.own 90001, .own 90002, .own 90003]), (90001, .vec 1 (p1.fe.map An)), (90002, .vec 1 (p1.fa.map An)), (90003, .vec 1 ((p1.fc.set ((p2).toNat) v4).map Cb))] rfl rfl) (Aq ?_)
    exact ⟨⟨[_], tm, rfl⟩, ⟨rfl, rfl, rfl, rfl, tv⟩, tv⟩
theorem Pa (N : Nat) (p0 : Aa) (p1 : Ac) (p2 : Ab) (r : Ac × Bool) (h : Gq N p0 p1 p2 = some r) : Ar Tryz.prog 100 [.e (.agg (Ag p0)), .e (.agg (Av p1)), .e (.agg (Cs p2))] [(1, r.1.fe.map An), (1, r.1.fa.map An), (1, r.1.fc.map Cb)] (.tup [.agg [.own 0, .own 1, .own 2], .one (.pure (.val (.bool r.2)))]) := by
 unfold Gq at h
 refine cw (n := 51) (rs := [.cell 6 38, .tmp 7]) Tryz.func100 fun w0 S0 => ?_
 refine wq rfl (qb rfl (qb rfl (qb rfl (qz BU rfl (qa rfl (Ad (wq rfl (qL AW AE rfl ?_))))))))
 refine BH h fun v1 a1 h => As [2001, 2002, 2003] (N4 N p1 v1 a1) XL rfl (qz BU rfl (qs AE rfl (Ad (wp rfl (qf D7 rfl (ql BQ rfl (Ad (AM (wq rfl (Bp rfl (qe rfl ?_)))))))))))
 refine A5 h (fun h => ?_) fun h => ?_
 ·refine wq rfl (qL AW AE rfl (qL Ch B5 rfl (qL Gr B8 rfl ?_)))
  refine BH h fun v3 a3 h => MK (ds0 := [_, _, _]) [8, 2001, 2002, 2003] [] [false, false, true, true] (Pi N p0 v1 p2 v3 a3) (.p rfl) XD rfl ⟨rfl, rfl, rfl, tv⟩ rfl rfl (by decide) ⟨rfl, rfl, rfl, rfl, tv⟩ rfl (Hz rfl) tv ⟨(fun _ => rfl), (fun _ => rfl), (fun h => by cases h), (fun h => by cases h), tv⟩ rfl rfl rfl ?_
  refine qs AE rfl (qa rfl (AI (by kernel_rfl) ?_))
  obtain rfl := sj h
  refine Ae (sm [(1000, 2001), (1001, 2002), (1002, 2003)] [(6, oD (.ptr 6 0)), (7, bD v3.1)] [(6, .box [.own 1000, .own 1001, .own 1002]), (1000, .vec 1 (v1.fe.map An)), (1001, .vec 1 (v3.2.1.map An)), (1002, .vec 1 (v3.2.2.map Cb))] rfl rfl) (Aq ?_)
  exact ⟨⟨[_, _], ⟨.cellN _ _ _ _ _ _ _ rfl rfl AW AE rfl rfl (FM rfl), tm⟩, rfl⟩, ⟨rfl, rfl, rfl, tv⟩⟩
 ·refine wq rfl (Bp rfl (qe rfl ?_))
  refine A5 h (fun h => ?_) fun h => ?_
  ·refine wq rfl (qL AW AE rfl (qL Ch B5 rfl (qf Ew rfl (ql BQ rfl ?_))))
   refine BH h fun v5 a5 h => MK (ds0 := [_, _, _]) [8, 2001, 2002, 2003] [] [false, false, false, true] (OU N p0 v1 p2.fh v5 a5) (.p rfl) W6 rfl ⟨rfl, rfl, rfl, tv⟩ rfl rfl (by decide) ⟨rfl, rfl, rfl, rfl, tv⟩ rfl (Hz rfl) tv ⟨(fun _ => rfl), (fun _ => rfl), (fun _ => rfl), (fun h => by cases h), tv⟩ rfl rfl rfl ?_
   refine qs AE rfl (qa rfl (AI (by kernel_rfl) ?_))
   obtain rfl := sj h
   refine Ae (sm [(1000, 2001), (1001, 2002), (1002, 2003)] [(6, oD (.ptr 6 0)), (7, bD v5.1)] [(6, .box [.own 1000, .own 1001, .own 1002]), (1000, .vec 1 (v1.fe.map An)), (1001, .vec 1 (v1.fa.map An)), (1002, .vec 1 (v5.2.map Cb))] rfl rfl) (Aq ?_)
   exact ⟨⟨[_, _], ⟨.cellN _ _ _ _ _ _ _ rfl rfl AW AE rfl rfl (FM rfl), tm⟩, rfl⟩, ⟨rfl, rfl, rfl, tv⟩⟩
  ·refine Al (wq rfl (qf Bl rfl (ql A0 rfl (qf Ew rfl (ql BQ rfl ?_)))))
   refine BS h fun v6 a6 b6 h => qI Ax CU a6 (Ah b6) rfl (qj BQ (Ah b6) rfl (qa rfl (Ad (wp rfl (qm rfl (AV rfl (Ad ?_)))))))
   refine A5 h (fun h => ?_) fun h => ?_
   ·refine wq rfl (qL AW AE rfl (qs AE rfl (qe rfl ?_)))
    obtain rfl := sj h
    refine Ae (sm [(1000, 2001), (1001, 2002), (1002, 2003)] [(6, oD (.ptr 6 0)), (7, bD false)] [(6, .box [.own 1000, .own 1001, .own 1002]), (1000, .vec 1 (v1.fe.map An)), (1001, .vec 1 (v1.fa.map An)), (1002, .vec 1 (v1.fc.map Cb))] rfl rfl) (Aq ?_)
    exact ⟨⟨[_, _], ⟨.cellN _ _ _ _ _ _ _ rfl rfl AW AE rfl rfl (FM rfl), tm⟩, rfl⟩, ⟨rfl, rfl, rfl, tv⟩⟩
   ·refine Al (wq rfl (qf Bl rfl (ql A0 rfl (qf Ew rfl (ql BQ rfl ?_)))))
    refine BS h fun v8 a8 b8 h => qI Ax CU a8 (Ah b8) rfl ?_
    refine EN rfl rfl rfl rfl (Ah b8) rfl CU rfl (Jb rfl) (EK An v1.fa _ ((-1))) ?_
    refine Ad ?_
    refine AL h (fun v9 => mk [(6, oD (.ptr 6 0)), (8, oD (.ptr 8 0))] [(6, .box [.pure (.nil0), .pure (.nil0), .pure (.nil0)]), (8, .box [.own 2004, .own 2005, .own 2006]), (2004, .vec 1 (v9.map An)), (2005, .vec 1 ((v1.fa.set ((p2.fh).toNat) ((-1))).map An)), (2006, .vec 1 (v1.fc.map Cb))]) (fun j9 h => ?_) (fun v9 h => ?_)
    ·refine wq rfl (qf D7 rfl (ql BQ rfl (Bp rfl (Ad ?_))))
     refine A5 h (fun h => ?_) fun h => ?_
     ·refine Aj Ay rfl (qf Ct rfl (ql A0 rfl (qf Ew rfl (ql BQ rfl (qm rfl ?_)))))
      refine BS h fun v11 a11 b11 h => qI Ax CU a11 (Ah b11) rfl ?_
      refine EN rfl rfl rfl rfl (Ah b11) rfl CU rfl (Jb rfl) (EK An v1.fe _ v6) ?_
      refine Ad ?_
      exact sn [(2004, 2001), (2005, 2002), (2006, 2003)] h
     ·refine Al ?_
      exact sn [(2004, 2001), (2005, 2002), (2006, 2003)] h
    ·refine wq rfl (qL AW AE rfl (qs AE rfl (qe rfl ?_)))
     obtain rfl := sj h
     refine Ae (sm [(1000, 2004), (1001, 2005), (1002, 2006)] [(6, oD (.ptr 6 0)), (7, bD true)] [(6, .box [.own 1000, .own 1001, .own 1002]), (1000, .vec 1 (v9.map An)), (1001, .vec 1 ((v1.fa.set ((p2.fh).toNat) ((-1))).map An)), (1002, .vec 1 (v1.fc.map Cb))] rfl rfl) (Aq ?_)
     exact ⟨⟨[_, _], ⟨.cellN _ _ _ _ _ _ _ rfl rfl AW AE rfl rfl (FM rfl), tm⟩, rfl⟩, ⟨rfl, rfl, rfl, tv⟩⟩
theorem Pq (N : Nat) (p0 : Aa) (p1 : Ac) (p2 : Ab) (r : Ac × Int) (h : Gd N p0 p1 p2 = some r) : Ar Tryz.prog 83 [.e (.agg (Ag p0)), .e (.agg (Av p1)), .e (.agg (Cs p2))] [(1, r.1.fe.map An), (1, r.1.fa.map An), (1, r.1.fc.map Cb)] (.tup [.agg [.own 0, .own 1, .own 2], .one (iC r.2)]) := by
 unfold Gd at h
 refine cw (n := 32) (rs := [.cell 6 38, .tmp 7]) Tryz.func83 fun w0 S0 => ?_
 refine wq rfl (qb rfl (qb rfl (qb rfl (qz BU rfl (qa rfl (Ad (AN (AM (wq rfl (qL Gr B8 rfl ?_))))))))))
 refine BH h fun v1 a1 h => As [] (Lc N p2 v1 a1) Xg rfl (BT rfl (qe rfl ?_))
 refine A5 h (fun h => ?_) fun h => ?_
 ·refine wq rfl (AU BU FD rfl (qs AE rfl (qe rfl ?_)))
  obtain rfl := sj h
  refine Ae ((Az 6 0 2001 1 _ rfl rfl rfl rfl).trans ((Az 6 1 2002 1 _ rfl rfl rfl rfl).trans ((Az 6 2 2003 1 _ rfl rfl rfl rfl).trans (sm [(1000, 2001), (1001, 2002), (1002, 2003)] [(6, oD (.ptr 6 0)), (7, iD 1)] [(6, .box [.own 1000, .own 1001, .own 1002]), (1000, .vec 1 ((([] : List Int)).map An)), (1001, .vec 1 ((([] : List Int)).map An)), (1002, .vec 1 ((([] : List Int)).map Cb))] rfl rfl)))) (Aq ?_)
  exact ⟨⟨[_, _], ⟨.cellN _ _ _ _ _ _ _ rfl rfl AW AE rfl rfl (FM rfl), tm⟩, rfl⟩, ⟨rfl, rfl, rfl, tv⟩⟩
 ·refine wq rfl (qL Ch B5 rfl (qL Gr B8 rfl ?_))
  refine BH h fun v3 a3 h => As [] (NR N p0 p2 v3 a3) Ye rfl (BT rfl (qe rfl ?_))
  refine A5 h (fun h => ?_) fun h => ?_
  ·refine wq rfl (AU BU FD rfl (qs AE rfl (qe rfl ?_)))
   obtain rfl := sj h
   refine Ae ((Az 6 0 2004 1 _ rfl rfl rfl rfl).trans ((Az 6 1 2005 1 _ rfl rfl rfl rfl).trans ((Az 6 2 2006 1 _ rfl rfl rfl rfl).trans (sm [(1000, 2004), (1001, 2005), (1002, 2006)] [(6, oD (.ptr 6 0)), (7, iD 4)] [(6, .box [.own 1000, .own 1001, .own 1002]), (1000, .vec 1 ((([] : List Int)).map An)), (1001, .vec 1 ((([] : List Int)).map An)), (1002, .vec 1 ((([] : List Int)).map Cb))] rfl rfl)))) (Aq ?_)
   exact ⟨⟨[_, _], ⟨.cellN _ _ _ _ _ _ _ rfl rfl AW AE rfl rfl (FM rfl), tm⟩, rfl⟩, ⟨rfl, rfl, rfl, tv⟩⟩
  ·refine Al (wq rfl (qL Ch B5 rfl (qL AW AE rfl (qL Gr B8 rfl ?_))))
   refine BH h fun v5 a5 h => As [2007, 2008, 2009] (Pa N p0 p1 p2 v5 a5) W8 rfl (qm rfl (qx rfl (qx rfl (qz BU rfl (qs AE rfl (qa rfl (Ad (wp rfl (qm rfl (BT rfl (Ad ?_)))))))))))
   refine A5 h (fun h => ?_) fun h => ?_
   ·refine wq rfl (AU BU FD rfl (qs AE rfl (qe rfl ?_)))
    obtain rfl := sj h
    refine Ae ((Az 6 0 2010 1 _ rfl rfl rfl rfl).trans ((Az 6 1 2011 1 _ rfl rfl rfl rfl).trans ((Az 6 2 2012 1 _ rfl rfl rfl rfl).trans (sm [(1000, 2010), (1001, 2011), (1002, 2012)] [(6, oD (.ptr 6 0)), (7, iD 11)] [(6, .box [.own 1000, .own 1001, .own 1002]), (1000, .vec 1 ((([] : List Int)).map An)), (1001, .vec 1 ((([] : List Int)).map An)), (1002, .vec 1 ((([] : List Int)).map Cb))] rfl rfl)))) (Aq ?_)
    exact ⟨⟨[_, _], ⟨.cellN _ _ _ _ _ _ _ rfl rfl AW AE rfl rfl (FM rfl), tm⟩, rfl⟩, ⟨rfl, rfl, rfl, tv⟩⟩
   ·refine Al (wq rfl (qL AW AE rfl (qs AE rfl (qe rfl ?_))))
    obtain rfl := sj h
    refine Ae (sm [(1000, 2007), (1001, 2008), (1002, 2009)] [(6, oD (.ptr 6 0)), (7, iD 0)] [(6, .box [.own 1000, .own 1001, .own 1002]), (1000, .vec 1 (v5.1.fe.map An)), (1001, .vec 1 (v5.1.fa.map An)), (1002, .vec 1 (v5.1.fc.map Cb))] rfl rfl) (Aq ?_)
    exact ⟨⟨[_, _], ⟨.cellN _ _ _ _ _ _ _ rfl rfl AW AE rfl rfl (FM rfl), tm⟩, rfl⟩, ⟨rfl, rfl, rfl, tv⟩⟩
theorem Lx (N : Nat) (p0 : Aa) (p1 : Ac) (p2 : Ab) (r : Ac × Int) (h : Fx N p0 p1 p2 = some r) : Ar Tryz.prog 56 [.e (.agg (Ag p0)), .e (.agg (Av p1)), .e (.agg (Cs p2))] [(1, r.1.fe.map An), (1, r.1.fa.map An), (1, r.1.fc.map Cb)] (.tup [.agg [.own 0, .own 1, .own 2], .one (iC r.2)]) := by
 unfold Fx at h
 refine cw (n := 22) (rs := [.cell 6 38, .tmp 7]) Tryz.func56 fun w0 S0 => ?_
 refine wq rfl (qb rfl (qb rfl (qb rfl (qz BU rfl (qa rfl (Ad (wp rfl (qL Ch B5 rfl (qL AW AE rfl ?_)))))))))
 refine BH h fun v1 a1 h => As [] (IB N p0 p1 v1 a1) Uq rfl (qa rfl (Ad (wq rfl (qm rfl (Bk rfl (Ad ?_))))))
 refine A5 h (fun h => ?_) fun h => ?_
 ·refine wq rfl (AU BU FD rfl (qm rfl (qs AE rfl (qe rfl ?_))))
  obtain rfl := sj h
  refine Ae ((Az 6 0 2001 1 _ rfl rfl rfl rfl).trans ((Az 6 1 2002 1 _ rfl rfl rfl rfl).trans ((Az 6 2 2003 1 _ rfl rfl rfl rfl).trans (sm [(1000, 2001), (1001, 2002), (1002, 2003)] [(6, oD (.ptr 6 0)), (7, iD v1)] [(6, .box [.own 1000, .own 1001, .own 1002]), (1000, .vec 1 ((([] : List Int)).map An)), (1001, .vec 1 ((([] : List Int)).map An)), (1002, .vec 1 ((([] : List Int)).map Cb))] rfl rfl)))) (Aq ?_)
  exact ⟨⟨[_, _], ⟨.cellN _ _ _ _ _ _ _ rfl rfl AW AE rfl rfl (FM rfl), tm⟩, rfl⟩, ⟨rfl, rfl, rfl, tv⟩⟩
 ·refine Al (wq rfl (qL Ch B5 rfl (qL AW AE rfl (qL Gr B8 rfl ?_))))
  refine BH h fun v3 a3 h => As [2004, 2005, 2006] (Pq N p0 p1 p2 v3 a3) YD rfl (qx rfl (qx rfl (qs AE rfl (qe rfl ?_))))
  obtain rfl := sj h
  refine Ae (sm [(1000, 2004), (1001, 2005), (1002, 2006)] [(6, oD (.ptr 6 0)), (7, iD v3.2)] [(6, .box [.own 1000, .own 1001, .own 1002]), (1000, .vec 1 (v3.1.fe.map An)), (1001, .vec 1 (v3.1.fa.map An)), (1002, .vec 1 (v3.1.fc.map Cb))] rfl rfl) (Aq ?_)
  exact ⟨⟨[_, _], ⟨.cellN _ _ _ _ _ _ _ rfl rfl AW AE rfl rfl (FM rfl), tm⟩, rfl⟩, ⟨rfl, rfl, rfl, tv⟩⟩
theorem Jp (N : Nat) (p0 : List Int) (p1 : List Int) (r : Bool) (h : Dd N p0 p1 = some r) : Ar Tryz.prog 70 [pD (.sl (p0.map An)), pD (.sl (p1.map An))] [] (bD r) := by
 unfold Dd at h
 refine cw (n := 26) (rs := [.tmp 4]) Tryz.func70 fun w0 S0 => ?_
 refine wq rfl (qa rfl (Ad (wp rfl (qm rfl (AF Ax rfl (qm rfl (AF Ax rfl (Bk rfl (Ad ?_)))))))))
 refine A5 h (fun h => ?_) fun h => ?_
 ·refine wq rfl (qe rfl ?_)
  obtain rfl := sj h
  refine Ae (sm [] [(4, bD false)] [] rfl rfl) (Aq ?_)
  exact ⟨⟨[_], tm, rfl⟩, tv⟩
 ·refine Al (wp rfl (qm rfl (AF Ax rfl (qm rfl (Ad ?_)))))
  refine AH (L := BK N p0 p1) h (fun v2 => mk [(0, pD (.sl (p0.map An))), (1, pD (.sl (p1.map An))), (12, iD ((p0.length : Int))), (13, iD v2)] []) (fun v3 => mk [] []) (fun _ _ => rfl) (sm [] _ _ rfl rfl) (fun j2 n2 v2 h => ?_) (fun v3 s h hs => ?_)
  ·unfold BK at h
   refine wq rfl (AV rfl (Ad (AN ?_)))
   refine A5 h (fun h => ?_) fun h => ?_
   ·refine Al (AN (AM (wq rfl (qm rfl (qa rfl (Ad (wq rfl (qw 2 rfl ?_))))))))
    refine BS h fun v5 a5 b5 h => qi Ax CU a5 (Ah b5) rfl (qk BQ rfl (qw 2 rfl ?_))
    refine BS h fun v6 a6 b6 h => qi Ax CU a6 (Ah b6) rfl (qk BQ rfl (Bk rfl (AI (by kernel_rfl) ?_)))
    refine A5 h (fun h => ?_) fun h => ?_
    ·refine wq rfl (qe rfl ?_)
     obtain rfl := sj h
     refine Ae (sm [] [(4, bD false)] [] rfl rfl) (Aq ?_)
     exact ⟨⟨[_], tm, rfl⟩, tv⟩
    ·refine Al (Aj Ay rfl (Be rfl (qm rfl (Ad ?_))))
     exact sn [] h
   ·refine AS ?_
    exact sn [] h
  ·refine Ae hs (wq rfl (qe rfl ?_))
   obtain rfl := sj h
   refine Ae (sm [] [(4, bD true)] [] rfl rfl) (Aq ?_)
   exact ⟨⟨[_], tm, rfl⟩, tv⟩
theorem Io (N : Nat) (p0 : List Int) (p1 : Int → Option Bool) (r : Int) (h : Dj N p0 p1 = some r) : Ar Tryz.prog 93 [pD (.sl (p0.map An)), oD (.clo (Nw (SD false An) tB p1))] [] (iD r) := by
 unfold Dj at h
 refine cw (n := 19) (rs := [.tmp 4]) Tryz.func93 fun w0 S0 => ?_
 refine wq rfl (qa rfl (Ad (wp rfl (qm rfl (AF Ax rfl (qm rfl (Ad ?_)))))))
 refine AH (L := A9 N p0 p1) h (fun v1 => mk [(0, pD (.sl (p0.map An))), (1, oD (.clo (Nw (SD false An) tB p1))), (7, iD ((p0.length : Int))), (8, iD v1)] []) (fun v2 => mk [] []) (fun _ _ => rfl) (sm [] _ _ rfl rfl) (fun j1 n1 v1 h => ?_) (fun v2 s h hs => ?_)
 ·unfold A9 at h
  refine wq rfl (AV rfl (Ad (AN ?_)))
  refine A5 h (fun h => ?_) fun h => ?_
  ·refine Al (AN (AM (wq rfl (qm rfl (qa rfl (Ad (wq rfl (qw 3 rfl ?_))))))))
   refine BS h fun v4 a4 b4 h => qi Ax CU a4 (Ah b4) rfl (qk BQ rfl ?_)
   refine BH h fun v5 a5 h => RZ (ds0 := [_]) (ar := (SD false An) v4) (.p rfl) rfl rfl ⟨rfl, tv⟩ rfl rfl rfl (RU (R1 _ _ Wc) a5) ?_
   refine Ad ?_
   refine A5 h (fun h => ?_) fun h => ?_
   ·refine wq rfl (qm rfl (qe rfl ?_))
    obtain rfl := sj h
    refine Ae (sm [] [(4, iD v1)] [] rfl rfl) (Aq ?_)
    exact ⟨⟨[_], tm, rfl⟩, tv⟩
   ·refine Al (Aj Ay rfl (Be rfl (qm rfl (Ad ?_))))
    exact sn [] h
  ·refine AS ?_
   exact sn [] h
 ·refine Ae hs (wq rfl (qe rfl ?_))
  obtain rfl := sj h
  refine Ae (sm [] [(4, iD ((-1)))] [] rfl rfl) (Aq ?_)
  exact ⟨⟨[_], tm, rfl⟩, tv⟩
theorem HB (N : Nat) (p0 : List Int) (p1 : Int → Option Bool) (r : Bool) (h : Cc N p0 p1 = some r) : Ar Tryz.prog 71 [pD (.sl (p0.map An)), oD (.clo (Nw (SD false An) tB p1))] [] (bD r) := by
 unfold Cc at h
 refine cw (n := 9) (rs := [.tmp 4]) Tryz.func71 fun w0 S0 => ?_
 refine wq rfl (qa rfl (Ad (wq rfl (qw 2 rfl ?_))))
 refine BH h fun v1 a1 h => As [] (Io N p0 p1 v1 a1) Yn rfl (EA rfl (qe rfl ?_))
 obtain rfl := sj h
 refine Ae (sm [] [(4, bD ((decide (0 ≤ v1))))] [] rfl rfl) (Aq ?_)
 exact ⟨⟨[_], tm, rfl⟩, tv⟩
theorem O6 (N : Nat) (p0 : Int) (r : Bool) (h : Gj N p0 = some r) : Ar Tryz.prog 72 [iD p0] [] (bD r) := by
 unfold Gj at h
 refine cw (n := 5) (rs := [.tmp 2]) Tryz.func72 fun w0 S0 => ?_
 refine wq rfl (qa rfl (Ad (wq rfl (qm rfl (EA rfl (qe rfl ?_))))))
 obtain rfl := sj h
 refine Ae (sm [] [(2, bD ((decide (0 ≤ p0))))] [] rfl rfl) (Aq ?_)
 exact ⟨⟨[_], tm, rfl⟩, tv⟩
theorem MR (N : Nat) (p0 : Aa) (p1 : Ac) (r : Bool) (h : zFS N p0 p1 = some r) : Ar Tryz.prog 48 [.e (.agg (Ag p0)), .e (.agg (Av p1))] [] (bD r) := by
 unfold zFS at h
 refine cw (n := 22) (rs := [.tmp 4]) Tryz.func48 fun w0 S0 => ?_
 refine wq rfl (qb rfl (qb rfl (qe rfl ?_)))
 refine AL h (fun v1 => mk [(4, bD v1)] []) (fun j1 h => ?_) (fun v1 h => ?_)
 ·refine Aj Ay rfl (qL Ch B5 rfl (qL AW AE rfl ?_))
  refine BH h fun v2 a2 h => As [] (IB N p0 p1 v2 a2) Uq rfl (Bp rfl (qm rfl ?_))
  refine Dm 9 h rfl (fun h => ?_) fun h => ?_
  ·refine qf Ct rfl (ql A0 rfl (qf HZ rfl (ql A0 rfl ?_)))
   refine BH h fun v4 a4 h => As [] (Jp N p1.fe p0.fo v4 a4) YH rfl (qp rfl (qm rfl ?_))
   refine Dm 16 h rfl (fun h => ?_) fun h => ?_
   ·refine qf Bl rfl (ql A0 rfl ?_)
    refine BH h fun v6 a6 h => As [] (Ar.weak (ds' := [pD (.sl (p1.fa.map An)), oD (.fnc 72)]) (HB N p1.fa ((fun (x : Int) => Gj N x)) v6 a6) ⟨(fun _ _ _ hh => hh), (fun _ _ _ hh => U6 Ys (fun ar t ht => by obtain ⟨x, r, rfl, hq, rfl⟩ := Oc ht; exact O6 N x r hq) hh), tv⟩) Yh rfl ?_
    refine BT rfl (qp rfl (qe rfl ?_))
    exact sn [] h
   ·refine qw 4 rfl (qp rfl (qe rfl ?_))
    exact sn [] h
  ·refine qw 5 rfl (qp rfl (qw 5 rfl (qp rfl (qe rfl ?_))))
   exact sn [] h
 ·obtain rfl := sj h
  refine Ae (sm [] [(4, bD v1)] [] rfl rfl) (Aq ?_)
  exact ⟨⟨[_], tm, rfl⟩, tv⟩
theorem MU (N : Nat) (p0 : Aa) (p1 : List Ab) (r : Int × Ac × Ai × Int) (h : Fw N p0 p1 = some r) : Ar Tryz.prog 68 [.e (.agg (Ag p0)), pD (.sl (p1.map Af))] [] (.tup [.one (iC r.1), .agg (Av r.2.1), .agg (Ev r.2.2.1), .one (iC r.2.2.2)]) := by
 unfold Fw at h
 refine cw (n := 89) (rs := [.tmp 4, .cell 5 38, .cell 6 93, .tmp 7]) Tryz.func68 fun w0 S0 => ?_
 refine wq rfl (qb rfl (qa rfl (qz BU rfl (qz F3 rfl (qa rfl (Ad (wq rfl (qL Ch B5 rfl ?_))))))))
 refine BH h fun v1 a1 h => As [2001, 2002, 2003] (JG N p0 v1 a1) VT rfl (qm rfl (qx rfl (qx rfl (qz BU rfl (qs AE rfl (qa rfl (Ad (wp rfl (qm rfl (Bk rfl (Ad ?_)))))))))))
 refine A5 h (fun h => ?_) fun h => ?_
 ·refine wq rfl (AU BU FD rfl (AU F3 Kg rfl (qm rfl (qa rfl (qs AE rfl (qs DV rfl (qe rfl ?_)))))))
  obtain rfl := sj h
  refine Ae ((DC 5 _ rfl).trans (sm [] [(4, iD 0), (5, oD (.ptr 5 0)), (6, oD (.ptr 6 0)), (7, iD v1.2)] [(5, .box [sC ((([] : List Int)).map An), sC ((([] : List Int)).map An), sC ((([] : List Int)).map Cb)]), (6, .box [iC 0, iC 0, iC 0])] rfl rfl)) (Aq ?_)
  exact ⟨⟨[_, _, _, _], ⟨.tmp _ _ rfl, ⟨.cellN _ _ _ _ _ _ _ rfl rfl AW AE rfl rfl (FM rfl), ⟨.cellN _ _ _ _ _ _ _ rfl rfl Ix DV rfl rfl (FM rfl), tm⟩⟩⟩, rfl⟩, tv⟩
 ·refine Al (wp rfl (qL Ch B5 rfl (qL AW AE rfl (DJ (AQ 2001 _ _ rfl rfl) (DJ (AQ 2002 _ _ rfl rfl) (DJ (AQ 2003 _ _ rfl rfl) ?_))))))
  refine BH h fun v3 a3 h => As [] (JP N p0 v1.1 v3 a3) VJ rfl (qm rfl (qx rfl (qx rfl (qx rfl (qz BU rfl (qz F3 rfl (qs AE rfl (qs DV rfl (qa rfl (Ad (wq rfl (qm rfl (Bp rfl (Ad ?_))))))))))))))
  refine A5 h (fun h => ?_) fun h => ?_
  ·refine wq rfl (qL AW AE rfl (qL Ix DV rfl (qa rfl (qs AE rfl (qs DV rfl (qa rfl (AI (by kernel_rfl) ?_)))))))
   obtain rfl := sj h
   refine Ae (sm [] [(4, iD ((-1))), (5, oD (.ptr 5 0)), (6, oD (.ptr 6 0)), (7, iD 0)] [(5, .box (Av v3.1)), (6, .box (Ev v3.2.1))] rfl rfl) (Aq ?_)
   exact ⟨⟨[_, _, _, _], ⟨.tmp _ _ rfl, ⟨.cellN _ _ _ _ _ _ _ rfl rfl AW AE rfl rfl (FM rfl), ⟨.cellN _ _ _ _ _ _ _ rfl rfl Ix DV rfl rfl (FM rfl), tm⟩⟩⟩, rfl⟩, tv⟩
  ·refine Al (wp rfl (qm rfl (AF A3 rfl (qm rfl (Ad ?_)))))
   refine AH (L := D2 N p0 p1) h (fun v5 => mk [(1, pD (.sl (p1.map Af))), (2, oD (.ptr 2 0)), (5, oD (.ptr 5 0)), (6, oD (.ptr 6 0)), (8, oD (.ptr 8 0)), (41, pD (.sl (p1.map Af))), (42, iD ((p1.length : Int))), (43, iD v5.2)] [(2, .box (Ag p0)), (5, .box [.pure (.nil0), .pure (.nil0), .pure (.nil0)]), (6, .box [iC 0, iC 0, iC 0]), (8, .box (Av v5.1))]) (fun v6 => mk [(1, pD (.sl (p1.map Af))), (2, oD (.ptr 2 0)), (5, oD (.ptr 5 0)), (6, oD (.ptr 6 0)), (8, oD (.ptr 8 0))] [(2, .box (Ag p0)), (5, .box [.pure (.nil0), .pure (.nil0), .pure (.nil0)]), (6, .box [iC 0, iC 0, iC 0]), (8, .box (Av v6))]) (fun _ _ => rfl) (sm [] _ _ rfl rfl) (fun j5 n5 v5 h => ?_) (fun v6 s h hs => ?_)
   ·unfold D2 at h
    refine wq rfl (AV rfl (Ad (AN ?_)))
    refine A5 h (fun h => ?_) fun h => ?_
    ·refine Al (AN (AM (wq rfl (qm rfl ?_))))
     refine BS h fun v8 a8 b8 h => qi A3 B8 a8 (Ah b8) rfl (qK Gr B8 rfl (qz Iw rfl (qa rfl (qs B8 rfl (Ad (wq rfl (qL Ch B5 rfl (qL AW AE rfl (qL Gr B8 rfl ?_)))))))))
     refine BH h fun v9 a9 h => As [2004, 2005, 2006] (Lx N p0 v5.1 v8 v9 a9) Xf rfl (qm rfl (qx rfl (qx rfl (qz BU rfl (qs AE rfl (qa rfl (Ad (AN ?_))))))))
     refine AL h (fun v10 => mk [(1, pD (.sl (p1.map Af))), (2, oD (.ptr 2 0)), (5, oD (.ptr 5 0)), (6, oD (.ptr 6 0)), (8, oD (.ptr 8 0)), (13, iD v5.2), (15, oD (.ptr 15 0)), (41, pD (.sl (p1.map Af))), (42, iD ((p1.length : Int))), (43, iD v5.2), (61, bD v10)] [(2, .box (Ag p0)), (5, .box [.pure (.nil0), .pure (.nil0), .pure (.nil0)]), (6, .box [iC 0, iC 0, iC 0]), (8, .box (Av v5.1)), (15, .box [.own 2007, .own 2008, .own 2009]), (2007, .vec 1 (v9.1.fe.map An)), (2008, .vec 1 (v9.1.fa.map An)), (2009, .vec 1 (v9.1.fc.map Cb))]) (fun j10 h => ?_) (fun v10 h => ?_)
     ·refine Aj Ay rfl (qm rfl (Bk rfl (qm rfl ?_)))
      refine Dm 57 h rfl (fun h => ?_) fun h => ?_
      ·refine qw 3 rfl (qp rfl (Ad ?_))
       exact sn [(2007, 2004), (2008, 2005), (2009, 2006)] h
      ·refine qf D7 rfl (ql BQ rfl (Bp rfl (qp rfl (Ad ?_))))
       exact sn [(2007, 2004), (2008, 2005), (2009, 2006)] h
     ·refine A5 h (fun h => ?_) fun h => ?_
      ·refine wq rfl (qm rfl (AU BU FD rfl (AU F3 Kg rfl (qa rfl (qs AE rfl (qs DV rfl (qe rfl ?_)))))))
       obtain rfl := sj h
       refine Ae ((DC 5 _ rfl).trans (sm [] [(4, iD v5.2), (5, oD (.ptr 5 0)), (6, oD (.ptr 6 0)), (7, iD 0)] [(5, .box [sC ((([] : List Int)).map An), sC ((([] : List Int)).map An), sC ((([] : List Int)).map Cb)]), (6, .box [iC 0, iC 0, iC 0])] rfl rfl)) (Aq ?_)
       exact ⟨⟨[_, _, _, _], ⟨.tmp _ _ rfl, ⟨.cellN _ _ _ _ _ _ _ rfl rfl AW AE rfl rfl (FM rfl), ⟨.cellN _ _ _ _ _ _ _ rfl rfl Ix DV rfl rfl (FM rfl), tm⟩⟩⟩, rfl⟩, tv⟩
      ·refine Al (wp rfl (qL Ch B5 rfl (qL AW AE rfl (DJ (AQ 2007 _ _ rfl rfl) (DJ (AQ 2008 _ _ rfl rfl) (DJ (AQ 2009 _ _ rfl rfl) ?_))))))
       refine BH h fun v13 a13 h => As [] (JP N p0 v9.1 v13 a13) VJ rfl (qm rfl (qx rfl (qx rfl (qx rfl (qz BU rfl (qz F3 rfl (qs AE rfl (qs DV rfl (qa rfl (Ad (wq rfl (qm rfl (Bp rfl (Ad ?_))))))))))))))
       refine A5 h (fun h => ?_) fun h => ?_
       ·refine wq rfl (qm rfl (qL AW AE rfl (qL Ix DV rfl (qa rfl (qs AE rfl (qs DV rfl (qa rfl (AI (by kernel_rfl) ?_))))))))
        obtain rfl := sj h
        refine Ae (sm [] [(4, iD v5.2), (5, oD (.ptr 5 0)), (6, oD (.ptr 6 0)), (7, iD 0)] [(5, .box (Av v13.1)), (6, .box (Ev v13.2.1))] rfl rfl) (Aq ?_)
        exact ⟨⟨[_, _, _, _], ⟨.tmp _ _ rfl, ⟨.cellN _ _ _ _ _ _ _ rfl rfl AW AE rfl rfl (FM rfl), ⟨.cellN _ _ _ _ _ _ _ rfl rfl Ix DV rfl rfl (FM rfl), tm⟩⟩⟩, rfl⟩, tv⟩
       ·refine Al (Aj Ay rfl (qL AW AE rfl (qs AE rfl (Ad (Aj Ay rfl (Be rfl (qm rfl (Ad ?_))))))))
        exact sn [] h
    ·refine AS ?_
     exact sn [] h
   ·refine Ae hs (wp rfl (qL Ch B5 rfl (qL AW AE rfl ?_)))
    refine BH h fun v15 a15 h => As [] (MR N p0 v6 v15 a15) Xr rfl (BT rfl (Ad ?_))
    refine A5 h (fun h => ?_) fun h => ?_
    ·refine wq rfl (qm rfl (AF A3 rfl (AU BU FD rfl (AU F3 Kg rfl (qa rfl (qs AE rfl (qs DV rfl (qe rfl ?_))))))))
     obtain rfl := sj h
     refine Ae ((DC 5 _ rfl).trans (sm [] [(4, iD ((p1.length : Int))), (5, oD (.ptr 5 0)), (6, oD (.ptr 6 0)), (7, iD 14)] [(5, .box [sC ((([] : List Int)).map An), sC ((([] : List Int)).map An), sC ((([] : List Int)).map Cb)]), (6, .box [iC 0, iC 0, iC 0])] rfl rfl)) (Aq ?_)
     exact ⟨⟨[_, _, _, _], ⟨.tmp _ _ rfl, ⟨.cellN _ _ _ _ _ _ _ rfl rfl AW AE rfl rfl (FM rfl), ⟨.cellN _ _ _ _ _ _ _ rfl rfl Ix DV rfl rfl (FM rfl), tm⟩⟩⟩, rfl⟩, tv⟩
    ·refine Al (wq rfl (AU BU FD rfl (AU F3 Kg rfl (qa rfl (qs AE rfl (qs DV rfl (qe rfl ?_)))))))
     obtain rfl := sj h
     refine Ae ((DC 5 _ rfl).trans (sm [] [(4, iD 0), (5, oD (.ptr 5 0)), (6, oD (.ptr 6 0)), (7, iD 15)] [(5, .box [sC ((([] : List Int)).map An), sC ((([] : List Int)).map An), sC ((([] : List Int)).map Cb)]), (6, .box [iC 0, iC 0, iC 0])] rfl rfl)) (Aq ?_)
     exact ⟨⟨[_, _, _, _], ⟨.tmp _ _ rfl, ⟨.cellN _ _ _ _ _ _ _ rfl rfl AW AE rfl rfl (FM rfl), ⟨.cellN _ _ _ _ _ _ _ rfl rfl Ix DV rfl rfl (FM rfl), tm⟩⟩⟩, rfl⟩, tv⟩
theorem OW (N : Nat) (p0 : Aa) (p1 : List Ab) (r : Bool) (h : Gi N p0 p1 = some r) : Ar Tryz.prog 45 [.e (.agg (Ag p0)), pD (.sl (p1.map Af))] [] (bD r) := by
 unfold Gi at h
 refine cw (n := 19) (rs := [.tmp 4]) Tryz.func45 fun w0 S0 => ?_
 refine wq rfl (qb rfl (qa rfl (Ad (wq rfl (qL Ch B5 rfl (qm rfl ?_))))))
 refine BH h fun v1 a1 h => As [] (MU N p0 p1 v1 a1) Yf rfl (qm rfl (qx rfl (qx rfl (qx rfl (qx rfl (qz BU rfl (qz F3 rfl (qa rfl (qs AE rfl (qs DV rfl (qa rfl (Ad (wq rfl (qm rfl (Bp rfl (qe rfl ?_))))))))))))))))
 obtain rfl := sj h
 refine Ae (sm [] [(4, bD ((v1.2.2.2 == 15)))] [] rfl rfl) (Aq ?_)
 exact ⟨⟨[_], tm, rfl⟩, tv⟩
theorem Jn (N : Nat) (p0 : Aa) (p1 : Ac) (r : Bool × Int) (h : EX N p0 p1 = some r) : Ar Tryz.prog 31 [.e (.agg (Ag p0)), .e (.agg (Av p1))] [] (.tup [.one (.pure (.val (.bool r.1))), .one (iC r.2)]) := by
 unfold EX at h
 refine cw (n := 22) (rs := [.tmp 4, .tmp 5]) Tryz.func31 fun w0 S0 => ?_
 refine wq rfl (qb rfl (qb rfl (qa rfl (qa rfl (Ad (wq rfl (qL Ch B5 rfl (qL AW AE rfl ?_))))))))
 refine BH h fun v1 a1 h => As [] (JP N p0 p1 v1 a1) VJ rfl (qm rfl (qx rfl (qx rfl (qx rfl (qz BU rfl (qz F3 rfl (qs AE rfl (qs DV rfl (qa rfl (Ad (wq rfl (qm rfl (Ad (AM (wq rfl (Bp rfl (qe rfl ?_)))))))))))))))))
 refine A5 h (fun h => ?_) fun h => ?_
 ·refine wq rfl (qa rfl (qe rfl ?_))
  obtain rfl := sj h
  refine Ae (sm [] [(4, bD false), (5, iD 0)] [] rfl rfl) (Aq ?_)
  exact ⟨⟨[_, _], ⟨.tmp _ _ rfl, tm⟩, rfl⟩, tv⟩
 ·refine wq rfl (Bp rfl (qe rfl ?_))
  refine A5 h (fun h => ?_) fun h => ?_
  ·refine wq rfl (qa rfl (qe rfl ?_))
   obtain rfl := sj h
   refine Ae (sm [] [(4, bD true), (5, iD 0)] [] rfl rfl) (Aq ?_)
   exact ⟨⟨[_, _], ⟨.tmp _ _ rfl, tm⟩, rfl⟩, tv⟩
  ·refine wq rfl (qm rfl (qa rfl (qe rfl ?_)))
   obtain rfl := sj h
   refine Ae (sm [] [(4, bD false), (5, iD v1.2.2)] [] rfl rfl) (Aq ?_)
   exact ⟨⟨[_, _], ⟨.tmp _ _ rfl, tm⟩, rfl⟩, tv⟩
theorem Qj (N : Nat) (p0 : Int) (r : ByteArray) (h : EM N p0 = some r) : Ar Tryz.prog 80 [iD p0] [] (pD (.val (.string r))) := by
 unfold EM at h
 refine cw (n := 7) (rs := [.tmp 2]) Tryz.func80 fun w0 S0 => ?_
 refine wq rfl (qa rfl (Ad (wq rfl (Eu TK YZ Y4 rfl (qm rfl ?_)))))
 refine BS h fun v1 a1 b1 h => PP (.p rfl) rfl rfl rfl TK YZ a1 (Ah (f := eS) b1) ?_
 refine Qd (.p rfl) rfl Y3 rfl (Ah (f := eS) b1) rfl ?_
 refine qa rfl (Ad ?_)
 obtain rfl := sj h
 refine Ae (sm [] [(2, pD (.val (.string v1)))] [] rfl rfl) (Aq ?_)
 exact ⟨⟨[_], tm, rfl⟩, tv⟩
def SR : Go.Shelf.Ren := ⟨fun | 129 => 121 | 171 => 81 | 243 => 98 | 246 => 108 | 283 => 113 | 284 => 114 | 285 => 115 | 286 => 116 | 317 => 120 | 318 => 122 | 319 => 123 | 320 => 124 | 337 => 126 | 338 => 127 | n => n, fun | 0 => 0 | 2 => 2 | 3 => 3 | 4 => 4 | 5 => 5 | 9 => 9 | 20 => 20 | 37 => 22 | 46 => 126 | 51 => 137 | 53 => 140 | 171 => 150 | 173 => 153 | 212 => 158 | 213 => 159 | 232 => 163 | 233 => 164 | n => n, fun | 17 => 0 | 18 => 1 | 19 => 2 | n => n⟩
theorem Wn : LaysM.n171 Tryz.prog SR := { mixed := Ay, f129 := Tryz.func121.trans (congrArg some (by kernel_rfl)), f171 := Tryz.func81.trans (congrArg some (by kernel_rfl)), f243 := Tryz.func98.trans (congrArg some (by kernel_rfl)), f246 := Tryz.func108.trans (congrArg some (by kernel_rfl)), f283 := Tryz.func113.trans (congrArg some (by kernel_rfl)), f284 := Tryz.func114.trans (congrArg some (by kernel_rfl)), f285 := Tryz.func115.trans (congrArg some (by kernel_rfl)), f286 := Tryz.func116.trans (congrArg some (by kernel_rfl)), f317 := Tryz.func120.trans (congrArg some (by kernel_rfl)), f318 := Tryz.func122.trans (congrArg some (by kernel_rfl)), f319 := Tryz.func123.trans (congrArg some (by kernel_rfl)), f320 := Tryz.func124.trans (congrArg some (by kernel_rfl)), f337 := Tryz.func126.trans (congrArg some (by kernel_rfl)), f338 := Tryz.func127.trans (congrArg some (by kernel_rfl)), t0 := Tryz.underlying0, a0 := Tryz.isAgg0, z0 := Tryz.sizeOf0, v0 := Tryz.zeroValue0, t2 := Tryz.underlying2, a2 := Tryz.isAgg2, z2 := Tryz.sizeOf2, v2 := Tryz.zeroValue2, t3 := Tryz.underlying3, a3 := Tryz.isAgg3, z3 := Tryz.sizeOf3, v3 := Tryz.zeroValue3, t4 := Tryz.underlying4, a4 := Tryz.isAgg4, z4 := Tryz.sizeOf4, v4 := Tryz.zeroValue4, t5 := Tryz.underlying5, a5 := Tryz.isAgg5, z5 := Tryz.sizeOf5, v5 := Tryz.zeroValue5, t9 := Tryz.underlying9, a9 := Tryz.isAgg9, z9 := Tryz.sizeOf9, v9 := Tryz.zeroValue9, t20 := Tryz.underlying20, a20 := Tryz.isAgg20, z20 := Tryz.sizeOf20, v20 := Tryz.zeroValue20, t37 := Tryz.underlying22, a37 := Tryz.isAgg22, z37 := Tryz.sizeOf22, v37 := Tryz.zeroValue22, t46 := Tryz.underlying126, a46 := Tryz.isAgg126, z46 := Tryz.sizeOf126, v46 := Tryz.zeroValue126, t51 := Tryz.underlying137, a51 := Tryz.isAgg137, z51 := Tryz.sizeOf137, v51 := Tryz.zeroValue137, t53 := Tryz.underlying140, a53 := Tryz.isAgg140, z53 := Tryz.sizeOf140, v53 := Tryz.zeroValue140, t171 := Tryz.underlying150, a171 := Tryz.isAgg150, z171 := Tryz.sizeOf150, v171 := Tryz.zeroValue150, t173 := Tryz.underlying153, a173 := Tryz.isAgg153, z173 := Tryz.sizeOf153, v173 := Tryz.zeroValue153, t212 := Tryz.underlying158, a212 := Tryz.isAgg158, z212 := Tryz.sizeOf158, v212 := Tryz.zeroValue158, t213 := Tryz.underlying159, a213 := Tryz.isAgg159, z213 := Tryz.sizeOf159, t232 := Tryz.underlying163, a232 := Tryz.isAgg163, z232 := Tryz.sizeOf163, v232 := Tryz.zeroValue163, t233 := Tryz.underlying164, a233 := Tryz.isAgg164, z233 := Tryz.sizeOf164, v233 := Tryz.zeroValue164, g17 := by kernel_rfl, g18 := by kernel_rfl, g19 := by kernel_rfl, i0 := by kernel_rfl, i2 := by kernel_rfl, i3 := by kernel_rfl, i4 := by kernel_rfl, i5 := by kernel_rfl, i9 := by kernel_rfl, i20 := by kernel_rfl, i37 := by kernel_rfl, i46 := by kernel_rfl, i51 := by kernel_rfl, i53 := by kernel_rfl, i171 := by kernel_rfl, i173 := by kernel_rfl, i212 := by kernel_rfl, i232 := by kernel_rfl, i233 := by kernel_rfl, m17 := by kernel_rfl, m18 := by kernel_rfl, m19 := by kernel_rfl }
theorem JV (N : Nat) (p0 : Int) (r : ByteArray) (h : Gy N p0 = some r) : Ar Tryz.prog 81 [iD p0] [] (pD (.val (.string r))) := Wl Wn (g := SR.g 17) (by kernel_rfl) h
theorem NQ (N : Nat) (p0 : Ab) (r : ByteArray × Int) (h : FQ N p0 = some r) : Ar Tryz.prog 54 [.e (.agg (Cs p0))] [] (.tup [.one (.pure (.val (.string r.1))), .one (iC r.2)]) := by
 unfold FQ at h
 refine cw (n := 26) (rs := [.tmp 2, .tmp 3]) Tryz.func54 fun w0 S0 => ?_
 refine wq rfl (qb rfl (qa rfl (qa rfl (Ad (wp rfl (qL Gr B8 rfl ?_))))))
 refine BH h fun v1 a1 h => As [] (Lc N p0 v1 a1) Xg rfl (BT rfl (Ad ?_))
 refine A5 h (fun h => ?_) fun h => ?_
 ·refine wq rfl (qa rfl (qe rfl ?_))
  obtain rfl := sj h
  refine Ae (sm [] [(2, pD (.val (.string ((⟨#[]⟩ : ByteArray))))), (3, iD 1)] [] rfl rfl) (Aq ?_)
  exact ⟨⟨[_, _], ⟨.tmp _ _ rfl, tm⟩, rfl⟩, tv⟩
 ·refine Al (wq rfl (qf D7 rfl (ql BQ rfl ?_)))
  refine BH h fun v3 a3 h => As [] (Qj N p0.ff v3 a3) Yi rfl ?_
  refine E1 h fun c4 h => G7 (.p rfl) rfl rfl (KY _ _ _ _ c4) rfl ?_
  refine qf Ew rfl (ql BQ rfl ?_)
  refine BH h fun v5 a5 h => As [] (JV N p0.fh v5 a5) W0 rfl ?_
  refine E1 h fun c6 h => G7 (.p rfl) rfl rfl (KY _ _ _ _ c6) rfl ?_
  refine qa rfl (AI (by kernel_rfl) ?_)
  refine AL h (fun v7 => mk [(4, pD (.val (.string v7)))] []) (fun j7 h => ?_) (fun v7 h => ?_)
  ·refine wq rfl (qf D7 rfl (ql BQ rfl (Bp rfl (Ad ?_))))
   refine A5 h (fun h => ?_) fun h => ?_
   ·refine Aj Ay rfl (qm rfl (qf F4 rfl (ql BQ rfl ?_)))
    refine BH h fun v9 a9 h => As [] (JV N p0.fj v9 a9) W0 rfl ?_
    refine E1 h fun c10 h => G7 (.p rfl) rfl rfl (KY _ _ _ _ c10) rfl ?_
    refine E1 h fun c11 h => G7 (.p rfl) rfl rfl (KY _ _ _ _ c11) rfl ?_
    refine qa rfl (Ad ?_)
    exact sn [] h
   ·refine Al ?_
    exact sn [] h
  ·refine wq rfl (qm rfl (qa rfl (qe rfl ?_)))
   obtain rfl := sj h
   refine Ae (sm [] [(2, pD (.val (.string v7))), (3, iD 0)] [] rfl rfl) (Aq ?_)
   exact ⟨⟨[_, _], ⟨.tmp _ _ rfl, tm⟩, rfl⟩, tv⟩
theorem Ha (N : Nat) (p0 : List Ab) (p1 : Ab) (r : Int) (h : BO N p0 p1 = some r) : Ar Tryz.prog 82 [pD (.sl (p0.map Af)), .e (.agg (Cs p1))] [] (iD r) := by
 unfold BO at h
 refine cw (n := 19) (rs := [.tmp 4]) Tryz.func82 fun w0 S0 => ?_
 refine wq rfl (qb rfl (qa rfl (Ad (wp rfl (qm rfl (AF A3 rfl (qm rfl (Ad ?_))))))))
 refine AH (L := A1 N p0 p1) h (fun v1 => mk [(0, pD (.sl (p0.map Af))), (3, oD (.ptr 3 0)), (7, iD ((p0.length : Int))), (8, iD v1)] [(3, .box (Cs p1))]) (fun v2 => mk [] []) (fun _ _ => rfl) (sm [] _ _ rfl rfl) (fun j1 n1 v1 h => ?_) (fun v2 s h hs => ?_)
 ·unfold A1 at h
  refine wq rfl (AV rfl (Ad (AN ?_)))
  refine A5 h (fun h => ?_) fun h => ?_
  ·refine Al (AN (AM (wq rfl (qm rfl (qa rfl (Ad (wq rfl (qL Gr B8 rfl (qw 2 rfl ?_)))))))))
   refine BS h fun v4 a4 b4 h => qi A3 B8 a4 (Ah b4) rfl (qK Gr B8 rfl ?_)
   refine Vx [.int .i64 p1.ff, .int .i64 p1.fh, .int .i64 p1.fj] [.int .i64 v4.ff, .int .i64 v4.fh, .int .i64 v4.fj] (.p rfl) rfl rfl T4 rfl ?_
   refine AI (by kernel_rfl) ?_
   refine A5 h (fun h => ?_) fun h => ?_
   ·refine wq rfl (qm rfl (qe rfl ?_))
    obtain rfl := sj h
    refine Ae (sm [] [(4, iD v1)] [] rfl rfl) (Aq ?_)
    exact ⟨⟨[_], tm, rfl⟩, tv⟩
   ·refine Al (Aj Ay rfl (Be rfl (qm rfl (Ad ?_))))
    exact sn [] h
  ·refine AS ?_
   exact sn [] h
 ·refine Ae hs (wq rfl (qe rfl ?_))
  obtain rfl := sj h
  refine Ae (sm [] [(4, iD ((-1)))] [] rfl rfl) (Aq ?_)
  exact ⟨⟨[_], tm, rfl⟩, tv⟩
theorem Gt (N : Nat) (p0 : List Ab) (p1 : Ab) (r : Bool) (h : Bw N p0 p1 = some r) : Ar Tryz.prog 55 [pD (.sl (p0.map Af)), .e (.agg (Cs p1))] [] (bD r) := by
 unfold Bw at h
 refine cw (n := 9) (rs := [.tmp 4]) Tryz.func55 fun w0 S0 => ?_
 refine wq rfl (qb rfl (qa rfl (Ad (wq rfl (qm rfl (qL Gr B8 rfl ?_))))))
 refine BH h fun v1 a1 h => As [] (Ha N p0 p1 v1 a1) XZ rfl (EA rfl (qe rfl ?_))
 obtain rfl := sj h
 refine Ae (sm [] [(4, bD ((decide (0 ≤ v1))))] [] rfl rfl) (Aq ?_)
 exact ⟨⟨[_], tm, rfl⟩, tv⟩
theorem Pd (N : Nat) (p0 : List Ab) (r : Int) (h : Gk N p0 = some r) : Ar Tryz.prog 32 [pD (.sl (p0.map Af))] [] (iD r) := by
 unfold Gk at h
 refine cw (n := 42) (rs := [.tmp 2]) Tryz.func32 fun w0 S0 => ?_
 refine wq rfl (qa rfl (Ad (AN ?_)))
 refine AL h (fun v1 => mk [(0, pD (.sl (p0.map Af))), (14, bD v1)] []) (fun j1 h => ?_) (fun v1 h => ?_)
 ·refine Aj Ay rfl (qm rfl (AF A3 rfl (AV rfl (qm rfl ?_))))
  refine Dm 10 h rfl (fun h => ?_) fun h => ?_
  ·refine qw 3 rfl (qp rfl (Ad ?_))
   exact sn [] h
  ·refine qm rfl (AF A3 rfl (Fe rfl (qp rfl (Ad ?_))))
   exact sn [] h
 ·refine A5 h (fun h => ?_) fun h => ?_
  ·refine wq rfl (qe rfl ?_)
   obtain rfl := sj h
   refine Ae (sm [] [(2, iD 6)] [] rfl rfl) (Aq ?_)
   exact ⟨⟨[_], tm, rfl⟩, tv⟩
  ·refine Al (wp rfl (qm rfl (AF A3 rfl (qm rfl (Ad ?_)))))
   refine AH (L := DX N p0) h (fun v4 => mk [(0, pD (.sl (p0.map Af))), (15, pD (.sl (p0.map Af))), (16, iD ((p0.length : Int))), (17, iD v4)] []) (fun v5 => mk [] []) (fun _ _ => rfl) (sm [] _ _ rfl rfl) (fun j4 n4 v4 h => ?_) (fun v5 s h hs => ?_)
   ·unfold DX at h
    refine wq rfl (AV rfl (Ad (AN ?_)))
    refine A5 h (fun h => ?_) fun h => ?_
    ·refine Al (AN (AM (wq rfl (qm rfl ?_))))
     refine BS h fun v7 a7 b7 h => qi A3 B8 a7 (Ah b7) rfl (qK Gr B8 rfl (qz Iw rfl (qa rfl (qs B8 rfl (Ad (wq rfl (qL Gr B8 rfl ?_)))))))
     refine BH h fun v8 a8 h => As [] (NQ N v7 v8 a8) Yx rfl (qm rfl (qx rfl (qx rfl (qa rfl (qe rfl ?_)))))
     refine AL h (fun v9 => mk [(0, pD (.sl (p0.map Af))), (15, pD (.sl (p0.map Af))), (16, iD ((p0.length : Int))), (17, iD v4), (40, bD v9)] []) (fun j9 h => ?_) (fun v9 h => ?_)
     ·refine Aj Ay rfl (qm rfl (Bk rfl (qm rfl ?_)))
      refine Dm 29 h rfl (fun h => ?_) fun h => ?_
      ·refine qw 3 rfl (qp rfl (qw 6 rfl (qp rfl (AI (by kernel_rfl) ?_))))
       exact sn [] h
      ·refine qf D7 rfl (ql BQ rfl (Bp rfl (qp rfl (qm rfl ?_))))
       refine Dm 34 h rfl (fun h => ?_) fun h => ?_
       ·refine qw 5 rfl (qp rfl (AI (by kernel_rfl) ?_))
        exact sn [] h
       ·refine qw 2 rfl ?_
        refine E1 h fun c12 h => GA (.g rfl rfl) rfl A3 B8 (EL (f := Af) (n := 3) (fun _ => rfl) _) (.none _) (.some _ _ _ _ c12.1) tv ⟨rfl, tv⟩ (by have := c12.2.1; (try simp only [List.length_map]); omega) (by have := c12.2.2; (try simp only [List.length_map]); omega) (Fv Af p0 _ _ ((v4).toNat - 0) rfl) ?_
        refine qL Gr B8 rfl ?_
        refine BH h fun v13 a13 h => As [] (Gt N (((p0.drop 0).take ((v4).toNat - 0))) v7 v13 a13) X6 rfl (qp rfl (AI (by kernel_rfl) ?_))
        exact sn [] h
     ·refine A5 h (fun h => ?_) fun h => ?_
      ·refine wq rfl (qe rfl ?_)
       obtain rfl := sj h
       refine Ae (sm [] [(2, iD 1)] [] rfl rfl) (Aq ?_)
       exact ⟨⟨[_], tm, rfl⟩, tv⟩
      ·refine Al (Aj Ay rfl (Be rfl (qm rfl (Ad ?_))))
       exact sn [] h
    ·refine AS ?_
     exact sn [] h
   ·refine Ae hs (wq rfl (qe rfl ?_))
    obtain rfl := sj h
    refine Ae (sm [] [(2, iD 0)] [] rfl rfl) (Aq ?_)
    exact ⟨⟨[_], tm, rfl⟩, tv⟩
theorem Gz (N : Nat) (p0 : Aa) (p1 : Ac) (p2 : List Ab) (r : Ac × Bool) (h : Cv N p0 p1 p2 = some r) : Ar Tryz.prog 33 [.e (.agg (Ag p0)), .e (.agg (Av p1)), pD (.sl (p2.map Af))] [] (.tup [.agg (Av r.1), .one (.pure (.val (.bool r.2)))]) := by
 unfold Cv at h
 refine cw (n := 46) (rs := [.cell 6 38, .tmp 7]) Tryz.func33 fun w0 S0 => ?_
 refine wq rfl (qb rfl (qb rfl (qz BU rfl (qa rfl (Ad (wp rfl (qm rfl (AF A3 rfl (qm rfl (Ad ?_))))))))))
 refine AH (L := DB N p0 p2) h (fun v1 => mk [(3, oD (.ptr 3 0)), (4, oD (.ptr 4 0)), (6, oD (.ptr 6 0)), (14, pD (.sl (p2.map Af))), (15, iD ((p2.length : Int))), (16, iD v1.2.2.2)] [(3, .box (Ag p0)), (4, .box [sC (v1.1.map An), sC (v1.2.1.map An), sC (v1.2.2.1.map Cb)]), (6, .box [.pure (.nil0), .pure (.nil0), .pure (.nil0)])]) (fun v2 => mk [(4, oD (.ptr 4 0)), (6, oD (.ptr 6 0))] [(4, .box (Av v2)), (6, .box [.pure (.nil0), .pure (.nil0), .pure (.nil0)])]) (fun _ _ => rfl) (sm [] _ _ rfl rfl) (fun j1 n1 v1 h => ?_) (fun v2 s h hs => ?_)
 ·unfold DB at h
  refine wq rfl (AV rfl (Ad (AN ?_)))
  refine A5 h (fun h => ?_) fun h => ?_
  ·refine Al (AN (AM (wq rfl ?_)))
   refine BS h fun v4 a4 b4 h => qi A3 B8 a4 (Ah b4) rfl (qK Gr B8 rfl (qz Iw rfl (qs B8 rfl (Ad (wq rfl (qL Ch B5 rfl (qL AW AE rfl (qL Gr B8 rfl ?_))))))))
   refine BH h fun v5 a5 h => As [2001, 2002, 2003] (Lx N p0 ((Ac.mk v1.1 v1.2.1 v1.2.2.1)) v4 v5 a5) Xf rfl (qm rfl (qx rfl (qx rfl (qz BU rfl (qs AE rfl (qa rfl (Ad (wp rfl (qm rfl (Bk rfl (Ad ?_)))))))))))
   refine A5 h (fun h => ?_) fun h => ?_
   ·refine wq rfl (AU BU FD rfl (qs AE rfl (qe rfl ?_)))
    obtain rfl := sj h
    refine Ae ((DC 6 _ rfl).trans (sm [] [(6, oD (.ptr 6 0)), (7, bD false)] [(6, .box [sC ((([] : List Int)).map An), sC ((([] : List Int)).map An), sC ((([] : List Int)).map Cb)])] rfl rfl)) (Aq ?_)
    exact ⟨⟨[_, _], ⟨.cellN _ _ _ _ _ _ _ rfl rfl AW AE rfl rfl (FM rfl), tm⟩, rfl⟩, tv⟩
   ·refine Al (wp rfl (qL Ch B5 rfl (qL AW AE rfl ?_)))
    refine BH h fun v7 a7 h => GD [] [2001, 2002, 2003] (Jn N p0 v5.1 v7 a7) Wg EJ rfl (qm rfl (qx rfl (qx rfl (qa rfl (qe rfl ?_)))))
    refine AL h (fun v8 => mk [(3, oD (.ptr 3 0)), (4, oD (.ptr 4 0)), (6, oD (.ptr 6 0)), (10, oD (.ptr 10 0)), (14, pD (.sl (p2.map Af))), (15, iD ((p2.length : Int))), (16, iD v1.2.2.2), (41, bD v8)] [(3, .box (Ag p0)), (4, .box [sC (v1.1.map An), sC (v1.2.1.map An), sC (v1.2.2.1.map Cb)]), (6, .box [.pure (.nil0), .pure (.nil0), .pure (.nil0)]), (10, .box [.own 2004, .own 2005, .own 2006]), (2004, .vec 1 (v5.1.fe.map An)), (2005, .vec 1 (v5.1.fa.map An)), (2006, .vec 1 (v5.1.fc.map Cb))]) (fun j8 h => ?_) (fun v8 h => ?_)
    ·refine Aj Ay rfl (qm rfl (Bk rfl (qm rfl ?_)))
     refine Dm 38 h rfl (fun h => ?_) fun h => ?_
     ·refine qw 2 rfl (qp rfl (Ad ?_))
      exact sn [(2004, 2001), (2005, 2002), (2006, 2003)] h
     ·refine qm rfl (BT rfl (qp rfl (Ad ?_)))
      exact sn [(2004, 2001), (2005, 2002), (2006, 2003)] h
    ·refine A5 h (fun h => ?_) fun h => ?_
     ·refine wq rfl (AU BU FD rfl (qs AE rfl (qe rfl ?_)))
      obtain rfl := sj h
      refine Ae ((DC 6 _ rfl).trans (sm [] [(6, oD (.ptr 6 0)), (7, bD false)] [(6, .box [sC ((([] : List Int)).map An), sC ((([] : List Int)).map An), sC ((([] : List Int)).map Cb)])] rfl rfl)) (Aq ?_)
      exact ⟨⟨[_, _], ⟨.cellN _ _ _ _ _ _ _ rfl rfl AW AE rfl rfl (FM rfl), tm⟩, rfl⟩, tv⟩
     ·refine Al (Aj Ay rfl (qL AW AE rfl (qs AE rfl (Ad (Aj Ay rfl (Be rfl (qm rfl (Ad ?_))))))))
      exact S6 _ h ((AQ 2004 _ _ rfl rfl).trans ((AQ 2005 _ _ rfl rfl).trans ((AQ 2006 _ _ rfl rfl).trans (sm [] _ _ rfl rfl))))
  ·refine AS ?_
   exact sn [] h
 ·refine Ae hs (wq rfl (qL AW AE rfl (qs AE rfl (qe rfl ?_))))
  obtain rfl := sj h
  refine Ae (sm [] [(6, oD (.ptr 6 0)), (7, bD true)] [(6, .box (Av v2))] rfl rfl) (Aq ?_)
  exact ⟨⟨[_, _], ⟨.cellN _ _ _ _ _ _ _ rfl rfl AW AE rfl rfl (FM rfl), tm⟩, rfl⟩, tv⟩
theorem CC (N : Nat) (p0 : List Ab) (r : (List Ab)) (h : AZ N p0 = some r) : Ar Tryz.prog 34 [pD (.sl (p0.map Af))] [(3, r.map Af)] (oD (.own 0)) := by
 unfold AZ at h
 refine cw (n := 8) (rs := [.tmp 2]) Tryz.func34 fun w0 S0 => ?_
 refine wq rfl (qa rfl (Ad (wp rfl (qm rfl ?_))))
 refine Pc (.p rfl) rfl A3 ?_
 refine Ad ?_
 refine Pj rfl (fun c2 => ?_) ?_
 ·have c2 := List.map_eq_nil_iff.1 c2
  rw [c2] at h
  have h : (some (([] : List Ab))) = some r := h
  refine wq rfl (qe rfl ?_)
  obtain rfl := sj h
  refine Ae ((Bt 2 2001 3 rfl rfl rfl).trans (sm [(1000, 2001)] [(2, oD (.own 1000))] [(1000, .vec 3 ((([] : List Ab)).map Af))] rfl rfl)) (Aq ?_)
  exact ⟨⟨[_], tm, rfl⟩, ⟨rfl, tv⟩⟩
 ·refine Al (wq rfl (Eu A3 B8 Iw rfl (qm rfl ?_)))
  refine E1 h fun c1 h => Hq (f := Af) A3 A3 B8 Ot Iw (fun _ => rfl) c1 rfl (qe rfl ?_)
  obtain rfl := sj h
  refine Ae (sm [(1000, 7)] [(2, oD (.own 1000))] [(1000, .vec 3 (((([] : List Ab)) ++ p0).map Af))] rfl rfl) (Aq ?_)
  exact ⟨⟨[_], tm, rfl⟩, ⟨rfl, tv⟩⟩
theorem Ju (N : Nat) (p0 : Int) (r : Bool) (h : Fc N p0 = some r) : Ar Tryz.prog 101 [iD p0] [] (bD r) := by
 unfold Fc at h
 refine cw (n := 6) (rs := [.tmp 2]) Tryz.func101 fun w0 S0 => ?_
 refine wq rfl (qa rfl (Ad (wq rfl (qw 2 rfl (Bk rfl (qe rfl ?_))))))
 obtain rfl := sj h
 refine Ae (sm [] [(2, bD ((p0 != p0)))] [] rfl rfl) (Aq ?_)
 exact ⟨⟨[_], tm, rfl⟩, tv⟩
theorem Lt (N : Nat) (p0 : Int) (p1 : Int) (r : Int) (h : EG N p0 p1 = some r) : Ar Tryz.prog 84 [iD p0, iD p1] [] (iD r) := by
 unfold EG at h
 refine cw (n := 20) (rs := [.tmp 4]) Tryz.func84 fun w0 S0 => ?_
 refine wq rfl (qa rfl (Ad (wq rfl (qm rfl ?_))))
 refine BH h fun v1 a1 h => As [] (Ju N p0 v1 a1) Vo rfl (qa rfl (Ad (wq rfl (qm rfl ?_))))
 refine BH h fun v2 a2 h => As [] (Ju N p1 v2 a2) Vo rfl (qa rfl (Ad (wp rfl (qm rfl (Ad ?_)))))
 refine A5 h (fun h => ?_) fun h => ?_
 ·refine wp rfl (qm rfl (Ad ?_))
  refine A5 h (fun h => ?_) fun h => ?_
  ·refine wq rfl (qe rfl ?_)
   obtain rfl := sj h
   refine Ae (sm [] [(4, iD 0)] [] rfl rfl) (Aq ?_)
   exact ⟨⟨[_], tm, rfl⟩, tv⟩
  ·refine Al (wq rfl (qe rfl ?_))
   obtain rfl := sj h
   refine Ae (sm [] [(4, iD ((-1)))] [] rfl rfl) (Aq ?_)
   exact ⟨⟨[_], tm, rfl⟩, tv⟩
 ·refine Al (wp rfl (qm rfl (Ad ?_)))
  refine A5 h (fun h => ?_) fun h => ?_
  ·refine wq rfl (qe rfl ?_)
   obtain rfl := sj h
   refine Ae (sm [] [(4, iD 1)] [] rfl rfl) (Aq ?_)
   exact ⟨⟨[_], tm, rfl⟩, tv⟩
  ·refine Al (wp rfl (qw 2 rfl (AV rfl (Ad ?_))))
   refine A5 h (fun h => ?_) fun h => ?_
   ·refine wq rfl (qe rfl ?_)
    obtain rfl := sj h
    refine Ae (sm [] [(4, iD ((-1)))] [] rfl rfl) (Aq ?_)
    exact ⟨⟨[_], tm, rfl⟩, tv⟩
   ·refine Al (wp rfl (qw 2 rfl (Fe rfl (Ad ?_))))
    refine A5 h (fun h => ?_) fun h => ?_
    ·refine wq rfl (qe rfl ?_)
     obtain rfl := sj h
     refine Ae (sm [] [(4, iD 1)] [] rfl rfl) (Aq ?_)
     exact ⟨⟨[_], tm, rfl⟩, tv⟩
    ·refine Al (wq rfl (qe rfl ?_))
     obtain rfl := sj h
     refine Ae (sm [] [(4, iD 0)] [] rfl rfl) (Aq ?_)
     exact ⟨⟨[_], tm, rfl⟩, tv⟩
theorem Ge (N : Nat) (p0 : List Int) (p1 : List Int) (r : Int) (h : Ck N p0 p1 = some r) : Ar Tryz.prog 59 [pD (.sl (p0.map An)), pD (.sl (p1.map An))] [] (iD r) := by
 unfold Ck at h
 refine cw (n := 36) (rs := [.tmp 4]) Tryz.func59 fun w0 S0 => ?_
 refine wq rfl (qa rfl (Ad (wp rfl (qm rfl (AF Ax rfl (qm rfl (Ad ?_)))))))
 refine AH (L := BX N p0 p1) h (fun v1 => mk [(0, pD (.sl (p0.map An))), (1, pD (.sl (p1.map An))), (9, pD (.sl (p0.map An))), (10, iD ((p0.length : Int))), (11, iD v1)] []) (fun v2 => mk [(0, pD (.sl (p0.map An))), (1, pD (.sl (p1.map An)))] []) (fun _ _ => rfl) (sm [] _ _ rfl rfl) (fun j1 n1 v1 h => ?_) (fun v2 s h hs => ?_)
 ·unfold BX at h
  refine wq rfl (AV rfl (Ad (AN ?_)))
  refine A5 h (fun h => ?_) fun h => ?_
  ·refine Al (AN (AM (wq rfl (qm rfl ?_))))
   refine BS h fun v4 a4 b4 h => qi Ax CU a4 (Ah b4) rfl (qk BQ rfl (qa rfl (qa rfl (Ad (wp rfl (qw 2 rfl (AF Ax rfl (EA rfl (Ad ?_)))))))))
   refine A5 h (fun h => ?_) fun h => ?_
   ·refine wq rfl (qe rfl ?_)
    obtain rfl := sj h
    refine Ae (sm [] [(4, iD 1)] [] rfl rfl) (Aq ?_)
    exact ⟨⟨[_], tm, rfl⟩, tv⟩
   ·refine Al (wq rfl (qw 2 rfl ?_))
    refine BS h fun v6 a6 b6 h => qi Ax CU a6 (Ah b6) rfl (qk BQ rfl (qa rfl (Ad (wq rfl (qw 2 rfl ?_)))))
    refine BH h fun v7 a7 h => As [] (Lt N v4 v6 v7 a7) X4 rfl (qa rfl (Ad (wq rfl (qm rfl (Bk rfl (Ad ?_))))))
    refine A5 h (fun h => ?_) fun h => ?_
    ·refine wq rfl (qm rfl (qe rfl ?_))
     obtain rfl := sj h
     refine Ae (sm [] [(4, iD v7)] [] rfl rfl) (Aq ?_)
     exact ⟨⟨[_], tm, rfl⟩, tv⟩
    ·refine Al (Aj Ay rfl (Be rfl (qm rfl (Ad ?_))))
     exact sn [] h
  ·refine AS ?_
   exact sn [] h
 ·refine Ae hs (wp rfl (qm rfl (AF Ax rfl (qm rfl (AF Ax rfl (AV rfl (Ad ?_)))))))
  refine A5 h (fun h => ?_) fun h => ?_
  ·refine wq rfl (qe rfl ?_)
   obtain rfl := sj h
   refine Ae (sm [] [(4, iD ((-1)))] [] rfl rfl) (Aq ?_)
   exact ⟨⟨[_], tm, rfl⟩, tv⟩
  ·refine Al (wq rfl (qe rfl ?_))
   obtain rfl := sj h
   refine Ae (sm [] [(4, iD 0)] [] rfl rfl) (Aq ?_)
   exact ⟨⟨[_], tm, rfl⟩, tv⟩
theorem HM (N : Nat) (p0 : Int) (r : Bool) (h : Eb N p0 = some r) : Ar Tryz.prog 102 [pD (.val (.int .u8 p0))] [] (bD r) := by
 unfold Eb at h
 refine cw (n := 6) (rs := [.tmp 2]) Tryz.func102 fun w0 S0 => ?_
 refine wq rfl (qa rfl (Ad (wq rfl (qw 2 rfl (Bk rfl (qe rfl ?_))))))
 obtain rfl := sj h
 refine Ae (sm [] [(2, bD ((p0 != p0)))] [] rfl rfl) (Aq ?_)
 exact ⟨⟨[_], tm, rfl⟩, tv⟩
theorem JE (N : Nat) (p0 : Int) (p1 : Int) (r : Int) (h : Dq N p0 p1 = some r) : Ar Tryz.prog 85 [pD (.val (.int .u8 p0)), pD (.val (.int .u8 p1))] [] (iD r) := by
 unfold Dq at h
 refine cw (n := 20) (rs := [.tmp 4]) Tryz.func85 fun w0 S0 => ?_
 refine wq rfl (qa rfl (Ad (wq rfl (qm rfl ?_))))
 refine BH h fun v1 a1 h => As [] (HM N p0 v1 a1) Vy rfl (qa rfl (Ad (wq rfl (qm rfl ?_))))
 refine BH h fun v2 a2 h => As [] (HM N p1 v2 a2) Vy rfl (qa rfl (Ad (wp rfl (qm rfl (Ad ?_)))))
 refine A5 h (fun h => ?_) fun h => ?_
 ·refine wp rfl (qm rfl (Ad ?_))
  refine A5 h (fun h => ?_) fun h => ?_
  ·refine wq rfl (qe rfl ?_)
   obtain rfl := sj h
   refine Ae (sm [] [(4, iD 0)] [] rfl rfl) (Aq ?_)
   exact ⟨⟨[_], tm, rfl⟩, tv⟩
  ·refine Al (wq rfl (qe rfl ?_))
   obtain rfl := sj h
   refine Ae (sm [] [(4, iD ((-1)))] [] rfl rfl) (Aq ?_)
   exact ⟨⟨[_], tm, rfl⟩, tv⟩
 ·refine Al (wp rfl (qm rfl (Ad ?_)))
  refine A5 h (fun h => ?_) fun h => ?_
  ·refine wq rfl (qe rfl ?_)
   obtain rfl := sj h
   refine Ae (sm [] [(4, iD 1)] [] rfl rfl) (Aq ?_)
   exact ⟨⟨[_], tm, rfl⟩, tv⟩
  ·refine Al (wp rfl (qw 2 rfl (AV rfl (Ad ?_))))
   refine A5 h (fun h => ?_) fun h => ?_
   ·refine wq rfl (qe rfl ?_)
    obtain rfl := sj h
    refine Ae (sm [] [(4, iD ((-1)))] [] rfl rfl) (Aq ?_)
    exact ⟨⟨[_], tm, rfl⟩, tv⟩
   ·refine Al (wp rfl (qw 2 rfl (Fe rfl (Ad ?_))))
    refine A5 h (fun h => ?_) fun h => ?_
    ·refine wq rfl (qe rfl ?_)
     obtain rfl := sj h
     refine Ae (sm [] [(4, iD 1)] [] rfl rfl) (Aq ?_)
     exact ⟨⟨[_], tm, rfl⟩, tv⟩
    ·refine Al (wq rfl (qe rfl ?_))
     obtain rfl := sj h
     refine Ae (sm [] [(4, iD 0)] [] rfl rfl) (Aq ?_)
     exact ⟨⟨[_], tm, rfl⟩, tv⟩
theorem Hd (N : Nat) (p0 : List Int) (p1 : List Int) (r : Int) (h : BP N p0 p1 = some r) : Ar Tryz.prog 60 [pD (.sl (p0.map Cb)), pD (.sl (p1.map Cb))] [] (iD r) := by
 unfold BP at h
 refine cw (n := 36) (rs := [.tmp 4]) Tryz.func60 fun w0 S0 => ?_
 refine wq rfl (qa rfl (Ad (wp rfl (qm rfl (AF C0 rfl (qm rfl (Ad ?_)))))))
 refine AH (L := Bh N p0 p1) h (fun v1 => mk [(0, pD (.sl (p0.map Cb))), (1, pD (.sl (p1.map Cb))), (9, pD (.sl (p0.map Cb))), (10, iD ((p0.length : Int))), (11, iD v1)] []) (fun v2 => mk [(0, pD (.sl (p0.map Cb))), (1, pD (.sl (p1.map Cb)))] []) (fun _ _ => rfl) (sm [] _ _ rfl rfl) (fun j1 n1 v1 h => ?_) (fun v2 s h hs => ?_)
 ·unfold Bh at h
  refine wq rfl (AV rfl (Ad (AN ?_)))
  refine A5 h (fun h => ?_) fun h => ?_
  ·refine Al (AN (AM (wq rfl (qm rfl ?_))))
   refine BS h fun v4 a4 b4 h => qi C0 FB a4 (Ah b4) rfl (qk JD rfl (qa rfl (qa rfl (Ad (wp rfl (qw 2 rfl (AF C0 rfl (EA rfl (Ad ?_)))))))))
   refine A5 h (fun h => ?_) fun h => ?_
   ·refine wq rfl (qe rfl ?_)
    obtain rfl := sj h
    refine Ae (sm [] [(4, iD 1)] [] rfl rfl) (Aq ?_)
    exact ⟨⟨[_], tm, rfl⟩, tv⟩
   ·refine Al (wq rfl (qw 2 rfl ?_))
    refine BS h fun v6 a6 b6 h => qi C0 FB a6 (Ah b6) rfl (qk JD rfl (qa rfl (Ad (wq rfl (qw 2 rfl ?_)))))
    refine BH h fun v7 a7 h => As [] (JE N v4 v6 v7 a7) XW rfl (qa rfl (Ad (wq rfl (qm rfl (Bk rfl (Ad ?_))))))
    refine A5 h (fun h => ?_) fun h => ?_
    ·refine wq rfl (qm rfl (qe rfl ?_))
     obtain rfl := sj h
     refine Ae (sm [] [(4, iD v7)] [] rfl rfl) (Aq ?_)
     exact ⟨⟨[_], tm, rfl⟩, tv⟩
    ·refine Al (Aj Ay rfl (Be rfl (qm rfl (Ad ?_))))
     exact sn [] h
  ·refine AS ?_
   exact sn [] h
 ·refine Ae hs (wp rfl (qm rfl (AF C0 rfl (qm rfl (AF C0 rfl (AV rfl (Ad ?_)))))))
  refine A5 h (fun h => ?_) fun h => ?_
  ·refine wq rfl (qe rfl ?_)
   obtain rfl := sj h
   refine Ae (sm [] [(4, iD ((-1)))] [] rfl rfl) (Aq ?_)
   exact ⟨⟨[_], tm, rfl⟩, tv⟩
  ·refine Al (wq rfl (qe rfl ?_))
   obtain rfl := sj h
   refine Ae (sm [] [(4, iD 0)] [] rfl rfl) (Aq ?_)
   exact ⟨⟨[_], tm, rfl⟩, tv⟩
theorem PE (N : Nat) (p0 : List Int) (r : Int) (h : Gp N p0 = some r) : Ar Tryz.prog 58 [pD (.sl (p0.map An))] [] (iD r) := by
 unfold Gp at h
 refine cw (n := 18) (rs := [.tmp 2]) Tryz.func58 fun w0 S0 => ?_
 refine wq rfl (qa rfl (Ad (wq rfl (qa rfl (Ad (wp rfl (qm rfl (AF Ax rfl (qm rfl (Ad ?_))))))))))
 refine AH (L := Ey N p0) h (fun v1 => mk [(3, iD 0), (6, pD (.sl (p0.map An))), (7, iD ((p0.length : Int))), (8, iD v1)] []) (fun v2 => mk [(3, iD 0)] []) (fun _ _ => rfl) (sm [] _ _ rfl rfl) (fun j1 n1 v1 h => ?_) (fun v2 s h hs => ?_)
 ·unfold Ey at h
  refine wq rfl (AV rfl (Ad (AN ?_)))
  refine A5 h (fun h => ?_) fun h => ?_
  ·refine Al (AN (AM (wq rfl ?_)))
   refine BS h fun v4 a4 b4 h => qi Ax CU a4 (Ah b4) rfl (qk BQ rfl (qa rfl (Ad (wq rfl (qw 2 rfl (Bk rfl (Ad ?_)))))))
   refine A5 h (fun h => ?_) fun h => ?_
   ·refine wq rfl (qm rfl (qe rfl ?_))
    obtain rfl := sj h
    refine Ae (sm [] [(2, iD v4)] [] rfl rfl) (Aq ?_)
    exact ⟨⟨[_], tm, rfl⟩, tv⟩
   ·refine Al (Aj Ay rfl (Be rfl (qm rfl (Ad ?_))))
    exact sn [] h
  ·refine AS ?_
   exact sn [] h
 ·refine Ae hs (wq rfl (qm rfl (qe rfl ?_)))
  obtain rfl := sj h
  refine Ae (sm [] [(2, iD 0)] [] rfl rfl) (Aq ?_)
  exact ⟨⟨[_], tm, rfl⟩, tv⟩
theorem NN (N : Nat) (p0 : Ac) (p1 : Ac) (r : Int) (h : E3 N p0 p1 = some r) : Ar Tryz.prog 37 [.e (.agg (Av p0)), .e (.agg (Av p1))] [] (iD r) := by
 unfold E3 at h
 refine cw (n := 22) (rs := [.tmp 4]) Tryz.func37 fun w0 S0 => ?_
 refine wq rfl (qb rfl (qb rfl (qa rfl (Ad (wq rfl (qf Ct rfl (ql A0 rfl (qf Ct rfl (ql A0 rfl ?_)))))))))
 refine BH h fun v1 a1 h => As [] (Ge N p0.fe p1.fe v1 a1) WS rfl (qf Bl rfl (ql A0 rfl (qf Bl rfl (ql A0 rfl ?_))))
 refine BH h fun v2 a2 h => As [] (Ge N p0.fa p1.fa v2 a2) WS rfl (qf Cn rfl (ql GS rfl (qf Cn rfl (ql GS rfl ?_))))
 refine BH h fun v3 a3 h => As [] (Hd N p0.fc p1.fc v3 a3) YI rfl (Eu Ax CU J7 rfl ?_)
 refine BH h fun v4 a4 h => GD [] [20] (PE N (([v1, v2, v3] : List Int)) v4 a4) XU EJ rfl (qa rfl (AI (by kernel_rfl) ?_))
 obtain rfl := sj h
 refine Ae (sm [] [(4, iD v4)] [] rfl rfl) (Aq ?_)
 exact ⟨⟨[_], tm, rfl⟩, tv⟩
theorem N1 (N : Nat) (p0 : List Ab) (p1 : List Int) (p2 : List Int) (p3 : List Int) (p4 : List Au) (p5 : List Int) (p6 : List Int) (p7 : List Int) (p8 : List Int) (p9 : List Int) (p10 : List Int) (p11 : Option (List Ab)) (r : Bool × (Option (List Ab))) (h : FN N p0 p1 p2 p3 p4 p5 p6 p7 p8 p9 p10 p11 = some r) : DG Tryz.prog 36 [pD (.sl (p0.map Af)), oD (.rop [.sl (p1.map An), .sl (p2.map An), .sl (p3.map An), .sl (p4.map AT)]), oD (.rop [.sl (p5.map An), .sl (p6.map An), .sl (p7.map Cb)]), oD (.rop [.sl (p8.map An), .sl (p9.map An), .sl (p10.map Cb)]), oD (.ptr 90000 0)] [(.box [.pure (LY Af p11)], .box [.pure (LY Af r.2)])] [] (bD r.1) := by
 unfold FN at h
 refine FU (n := 25) (rs := [.tmp 6]) Tryz.func36 rfl rfl rfl (Jb rfl) (Jb rfl) rfl rfl (Jb rfl) rfl (Jb rfl) fun w0 S0 GL => ?_
 refine Ae (sm [] [(0, pD (.sl (p0.map Af))), (1, oD (.rop [.sl (p1.map An), .sl (p2.map An), .sl (p3.map An), .sl (p4.map AT)])), (2, oD (.rop [.sl (p5.map An), .sl (p6.map An), .sl (p7.map Cb)])), (3, oD (.rop [.sl (p8.map An), .sl (p9.map An), .sl (p10.map Cb)])), (4, oD (.ptr 90000 0))] [(90000, .box [.pure (LY Af p11)])] rfl rfl) (wq rfl (qa rfl (Ad (wp rfl (qK Ch B5 rfl (qK AW AE rfl (qm rfl ?_)))))))
 refine BH h fun v1 a1 h => As [] (Gz N ((Aa.mk p1 p2 p3 p4)) ((Ac.mk p5 p6 p7)) p0 v1 a1) UY rfl (qm rfl (qx rfl (qx rfl (qz BU rfl (qs AE rfl (qe rfl ?_))))))
 refine AL h (fun v2 => mk [(0, pD (.sl (p0.map Af))), (4, oD (.ptr 90000 0)), (23, bD v2)] [(90000, .box [.pure (LY Af p11)])]) (fun j2 h => ?_) (fun v2 h => ?_)
 ·refine Aj Ay rfl (qm rfl (BT rfl (qm rfl ?_)))
  refine Dm 18 h rfl (fun h => ?_) fun h => ?_
  ·refine qw 4 rfl (qp rfl (Ad ?_))
   exact sn [] h
  ·refine qL AW AE rfl (qK AW AE rfl ?_)
   refine BH h fun v4 a4 h => As [] (NN N v1.1 ((Ac.mk p8 p9 p10)) v4 a4) YF rfl (Bk rfl (qp rfl (Ad ?_)))
   exact sn [] h
 ·refine A5 h (fun h => ?_) fun h => ?_
  ·refine wq rfl (qm rfl (qs NG rfl (Ad (wq rfl (qe rfl ?_)))))
   obtain rfl := sj h
   refine Ae (sm [] [(6, bD false)] [(90000, .box [.pure (LY Af ((some p0)))])] rfl rfl) (Aq ?_)
   exact ⟨⟨[_], tm, rfl⟩, ⟨rfl, tv⟩, tv⟩
  ·refine Al (wq rfl (qe rfl ?_))
   obtain rfl := sj h
   refine Ae (sm [] [(6, bD true)] [(90000, .box [.pure (LY Af p11)])] rfl rfl) (Aq ?_)
   exact ⟨⟨[_], tm, rfl⟩, ⟨rfl, tv⟩, tv⟩
theorem GU (N : Nat) (p0 : List Ab) (p1 : Int) (p2 : Int) (r : Nat × (List Ab)) (h : BI N p0 p1 p2 = some r) : DG Tryz.prog 57 [oD (.own 90000), iD p1, iD p2] [(.vec 3 (p0.map Af), .vec 3 (r.2.map Af))] [] (oD (.view 90000 3 0 r.1)) := by
 unfold BI at h
 refine FU (n := 33) (rs := [.tmp 6]) Tryz.func57 rfl rfl rfl (Jb rfl) (Jb rfl) rfl rfl (Jb rfl) rfl (Jb rfl) fun w0 S0 GL => ?_
 refine Ae (sm [] [(0, oD (.own 90000)), (1, iD p1), (2, iD p2)] [(90000, .vec 3 (p0.map Af))] rfl rfl) (wq rfl (qa rfl (Ad (wq rfl (qw 4 rfl (Fr A3 rfl ?_))))))
 refine E1 h fun c1 h => SP (.p rfl) rfl rfl A3 B8 rfl rfl rfl c1.1 c1.2.1 c1.2.2.1 c1.2.2.2.1 c1.2.2.2.2.1 (by rw [List.length_map]; exact c1.2.2.2.2.2) ?_
 refine Ad (wp rfl (qw 2 rfl (Bp rfl (Ad ?_))))
 refine A5 h (fun h => ?_) fun h => ?_
 ·refine wq rfl (qm rfl (qe rfl ?_))
  obtain rfl := sj h
  refine Ae ((Uz Af p0 6 90000 3 rfl rfl).trans (sm [] [(6, oD (.view 90000 3 0 p0.length))] [(90000, .vec 3 (p0.map Af))] rfl rfl)) (Aq ?_)
  exact ⟨⟨[_], tm, rfl⟩, ⟨rfl, tv⟩, tv⟩
 ·refine Al (wq rfl (qm rfl (Fr A3 rfl (qa rfl (Ad (wq rfl (qw 2 rfl ?_)))))))
  obtain ⟨c3, h⟩ := G9 h
  have w4 : 0 + ((p1).toNat) ≤ p0.length := by have := c3.2.1; have := c3.2.2; omega
  refine J1 Af p0 (.p rfl) rfl (JU Af _ _ p0) rfl A3 B8 (.none _) (.some _ _ _ _ c3.1) tv ⟨rfl, tv⟩ c3.2.1 (by rw [Nat.zero_add]; exact c3.2.2) (Nat.zero_add _) rfl ?_
  refine qw 2 rfl ?_
  obtain ⟨c5, h⟩ := G9 h
  have w6 : ((p2).toNat) + ((p0.length - (p2).toNat)) ≤ p0.length := by have := c5.2.1; have := c5.2.2; omega
  refine J1 Af p0 (.p rfl) rfl (JU Af _ _ p0) rfl A3 B8 (.some _ _ _ _ c5.1) (.none _) ⟨rfl, tv⟩ tv c5.2.1 (by rw [Nat.zero_add]; exact c5.2.2) (Nat.zero_add _) rfl ?_
  obtain ⟨c7, h⟩ := G9 h
  have w9f : 0 + ((p1).toNat) + (((p0.drop ((p2).toNat)).take ((p0.length - (p2).toNat)))).length ≤ p0.length := by have := c7; omega
  have w8 : (HF p0 (0 + ((p1).toNat)) (((p0.drop ((p2).toNat)).take ((p0.length - (p2).toNat))))).length = p0.length := Hv w9f
  have w9 : 0 + ((p1).toNat + (((p0.drop ((p2).toNat)).take ((p0.length - (p2).toNat)))).length) ≤ (HF p0 (0 + ((p1).toNat)) (((p0.drop ((p2).toNat)).take ((p0.length - (p2).toNat))))).length := by rw [w8]; have := c7; omega
  refine Rv Af p0 (((p0.drop ((p2).toNat)).take ((p0.length - (p2).toNat)))) (.p rfl) rfl (J9 Af _ _ 0 ((p1).toNat) p0 w4) rfl rfl (Ou Af _ _ ((p2).toNat) ((p0.length - (p2).toNat)) p0 w6) ⟨rfl, tv⟩ A3 A3 B8 w9f rfl ?_
  refine qa rfl (AI (by kernel_rfl) (wq rfl (qw 2 rfl ?_)))
  refine UG (.p rfl) rfl A3 ?_
  refine qm rfl ?_
  obtain ⟨c10, h⟩ := G9 h
  have w11 : (((((((p1).toNat + (((p0.drop ((p2).toNat)).take ((p0.length - (p2).toNat)))).length)) : Nat) : Int)).toNat) + ((((p0.length : Int)).toNat - ((((((p1).toNat + (((p0.drop ((p2).toNat)).take ((p0.length - (p2).toNat)))).length)) : Nat) : Int)).toNat)) ≤ (HF p0 (0 + ((p1).toNat)) (((p0.drop ((p2).toNat)).take ((p0.length - (p2).toNat))))).length := by have := c10.2.2.1; have := c10.2.2.2; omega
  refine J1 Af (HF p0 (0 + ((p1).toNat)) (((p0.drop ((p2).toNat)).take ((p0.length - (p2).toNat))))) (.p rfl) rfl (J9 Af _ _ 0 (((p1).toNat + (((p0.drop ((p2).toNat)).take ((p0.length - (p2).toNat)))).length)) (HF p0 (0 + ((p1).toNat)) (((p0.drop ((p2).toNat)).take ((p0.length - (p2).toNat))))) w9) rfl A3 B8 (.some _ _ _ _ c10.1) (.some _ _ _ _ c10.2.1) ⟨rfl, tv⟩ ⟨rfl, tv⟩ c10.2.2.1 (by rw [Nat.zero_add]; exact c10.2.2.2) (Nat.zero_add _) rfl ?_
  have w12 : (HF (HF p0 (0 + ((p1).toNat)) (((p0.drop ((p2).toNat)).take ((p0.length - (p2).toNat))))) (((((((p1).toNat + (((p0.drop ((p2).toNat)).take ((p0.length - (p2).toNat)))).length)) : Nat) : Int)).toNat) (List.replicate ((((p0.length : Int)).toNat - ((((((p1).toNat + (((p0.drop ((p2).toNat)).take ((p0.length - (p2).toNat)))).length)) : Nat) : Int)).toNat)) ((Ab.mk 0 0 0)))).length = (HF p0 (0 + ((p1).toNat)) (((p0.drop ((p2).toNat)).take ((p0.length - (p2).toNat))))).length := Hv (by rw [List.length_replicate]; exact w11)
  refine Tl Af (HF p0 (0 + ((p1).toNat)) (((p0.drop ((p2).toNat)).take ((p0.length - (p2).toNat))))) ((Ab.mk 0 0 0)) rfl rfl (J9 Af _ _ (((((((p1).toNat + (((p0.drop ((p2).toNat)).take ((p0.length - (p2).toNat)))).length)) : Nat) : Int)).toNat) ((((p0.length : Int)).toNat - ((((((p1).toNat + (((p0.drop ((p2).toNat)).take ((p0.length - (p2).toNat)))).length)) : Nat) : Int)).toNat)) (HF p0 (0 + ((p1).toNat)) (((p0.drop ((p2).toNat)).take ((p0.length - (p2).toNat))))) w11) rfl A3 Iw rfl rfl rfl rfl ?_
  refine Ad (wq rfl (qm rfl (qe rfl ?_)))
  obtain rfl := sj h
  refine Ae (sm [] [(6, oD (.view 90000 3 0 (((p1).toNat + (((p0.drop ((p2).toNat)).take ((p0.length - (p2).toNat)))).length))))] [(90000, .vec 3 ((HF (HF p0 (0 + ((p1).toNat)) (((p0.drop ((p2).toNat)).take ((p0.length - (p2).toNat))))) (((((((p1).toNat + (((p0.drop ((p2).toNat)).take ((p0.length - (p2).toNat)))).length)) : Nat) : Int)).toNat) (List.replicate ((((p0.length : Int)).toNat - ((((((p1).toNat + (((p0.drop ((p2).toNat)).take ((p0.length - (p2).toNat)))).length)) : Nat) : Int)).toNat)) ((Ab.mk 0 0 0)))).map Af))] rfl rfl) (Aq ?_)
  exact ⟨⟨[_], tm, rfl⟩, ⟨rfl, tv⟩, tv⟩
theorem KC (N : Nat) (rc : (List Ab) → (List Ab) → (List Int) → (List Int) → (List Int) → (List Au) → (List Int) → (List Int) → (List Int) → (List Int) → (List Int) → (List Int) → (Option (List Ab)) → Option (Bool × (Option (List Ab)))) (hrc : ∀ (p0 : List Ab) (p1 : List Ab) (p2 : List Int) (p3 : List Int) (p4 : List Int) (p5 : List Au) (p6 : List Int) (p7 : List Int) (p8 : List Int) (p9 : List Int) (p10 : List Int) (p11 : List Int) (p12 : Option (List Ab)) (r : Bool × (Option (List Ab))), rc p0 p1 p2 p3 p4 p5 p6 p7 p8 p9 p10 p11 p12 = some r → DG Tryz.prog 35 [pD (.sl (p0.map Af)), pD (.sl (p1.map Af)), oD (.cls 36 [.rop [.sl (p2.map An), .sl (p3.map An), .sl (p4.map An), .sl (p5.map AT)], .rop [.sl (p6.map An), .sl (p7.map An), .sl (p8.map Cb)], .rop [.sl (p9.map An), .sl (p10.map An), .sl (p11.map Cb)], .ptr 90000 0])] [(.box [.pure (LY Af p12)], .box [.pure (LY Af r.2)])] [] (bD r.1)) (p0 : List Ab) (p1 : List Ab) (p2 : List Int) (p3 : List Int) (p4 : List Int) (p5 : List Au) (p6 : List Int) (p7 : List Int) (p8 : List Int) (p9 : List Int) (p10 : List Int) (p11 : List Int) (p12 : Option (List Ab)) (r : Bool × (Option (List Ab))) (h : E2 N rc p0 p1 p2 p3 p4 p5 p6 p7 p8 p9 p10 p11 p12 = some r) : DG Tryz.prog 35 [pD (.sl (p0.map Af)), pD (.sl (p1.map Af)), oD (.cls 36 [.rop [.sl (p2.map An), .sl (p3.map An), .sl (p4.map An), .sl (p5.map AT)], .rop [.sl (p6.map An), .sl (p7.map An), .sl (p8.map Cb)], .rop [.sl (p9.map An), .sl (p10.map An), .sl (p11.map Cb)], .ptr 90000 0])] [(.box [.pure (LY Af p12)], .box [.pure (LY Af r.2)])] [] (bD r.1) := by
 unfold E2 at h
 refine FU (n := 37) (rs := [.tmp 6]) Tryz.func35 rfl rfl rfl (Jb rfl) (Jb rfl) rfl rfl (Jb rfl) rfl (Jb rfl) fun w0 S0 GL => ?_
 refine Ae (sm [] [(0, pD (.sl (p0.map Af))), (1, pD (.sl (p1.map Af))), (2, oD (.cls 36 [.rop [.sl (p2.map An), .sl (p3.map An), .sl (p4.map An), .sl (p5.map AT)], .rop [.sl (p6.map An), .sl (p7.map An), .sl (p8.map Cb)], .rop [.sl (p9.map An), .sl (p10.map An), .sl (p11.map Cb)], .ptr 90000 0]))] [(90000, .box [.pure (LY Af p12)])] rfl rfl) (wq rfl (qa rfl (Ad (wp rfl (qm rfl (AF A3 rfl (Bp rfl (Ad ?_))))))))
 refine A5 h (fun h => ?_) fun h => ?_
 ·refine wq rfl (qw 2 rfl ?_)
  refine BH h fun v2 a2 h => U2 (ds0 := [_]) [90000] [] [true] (N1 N p0 p2 p3 p4 p5 p6 p7 p8 p9 p10 p11 p12 v2 a2) (.p rfl) rfl X2 rfl ⟨rfl, tv⟩ rfl rfl (by decide) ⟨rfl, tv⟩ rfl (Hz rfl) tv ⟨(fun h => by cases h), tv⟩ rfl rfl rfl ?_
  refine qa rfl (Ad ?_)
  obtain rfl := sj h
  refine Ae (sm [] [(6, bD v2.1)] [(90000, .box [.pure (LY Af v2.2)])] rfl rfl) (Aq ?_)
  exact ⟨⟨[_], tm, rfl⟩, ⟨rfl, tv⟩, tv⟩
 ·refine Al (wp rfl (qm rfl (AF A3 rfl (qm rfl (Ad ?_)))))
  refine AH (L := De N p0 p1 p2 p3 p4 p5 p6 p7 p8 p9 p10 p11 rc) h (fun v3 => mk [(0, pD (.sl (p0.map Af))), (1, pD (.sl (p1.map Af))), (2, oD (.cls 36 [.rop [.sl (p2.map An), .sl (p3.map An), .sl (p4.map An), .sl (p5.map AT)], .rop [.sl (p6.map An), .sl (p7.map An), .sl (p8.map Cb)], .rop [.sl (p9.map An), .sl (p10.map An), .sl (p11.map Cb)], .ptr 90000 0])), (15, pD (.sl (p1.map Af))), (16, iD ((p1.length : Int))), (17, iD v3.2)] [(90000, .box [.pure (LY Af v3.1)])]) (fun v4 => mk [] [(90000, .box [.pure (LY Af v4)])]) (fun _ _ => rfl) (sm [] _ _ rfl rfl) (fun j3 n3 v3 h => ?_) (fun v4 s h hs => ?_)
  ·unfold De at h
   refine wq rfl (AV rfl (Ad (AN ?_)))
   refine A5 h (fun h => ?_) fun h => ?_
   ·refine Al (AN (AM (wq rfl (qm rfl ?_))))
    refine BS h fun v6 a6 b6 h => qi A3 B8 a6 (Ah b6) rfl (qK Gr B8 rfl (qz Iw rfl (qa rfl (qs B8 rfl (Ad (wq rfl (qm rfl ?_)))))))
    refine BH h fun v7 a7 h => As [2001] (CC N p0 v7 a7) U3 rfl (qL Gr B8 rfl (Eu A3 B8 Iw rfl ?_))
    refine E1 h fun c8 h => Sz (.p rfl) rfl (.own _ _ _) ⟨rfl, tv⟩ rfl (.own _ _ _) ⟨rfl, tv⟩ rfl A3 A3 B8 Ot (Jb rfl) Iw rfl (U9 (f := Af) (g := Af) (xs := v7) (ys := (([v6] : List Ab))) c8) (UV Af v7 (([v6] : List Ab))) rfl ?_
    refine qm rfl ?_
    refine BH h fun v9 a9 h => As [2002] (CC N p1 v9 a9) U3 rfl (qw 2 rfl (Be rfl ?_))
    obtain ⟨v10, a10, h⟩ := bind_some h
    obtain ⟨c11, h⟩ := G9 h
    have w12 : 0 + v10.1 ≤ v10.2.length := by rw [Nat.zero_add]; exact c11
    refine TE (ds0 := [_, _, _]) (b := 2002) (GU N v9 v3.2 ((wI .i64 (v3.2 + 1))) v10 a10) (.p rfl) YR rfl ⟨rfl, rfl, rfl, tv⟩ rfl ⟨rfl, tv⟩ rfl rfl (by rw [List.length_map]; exact c11) (List.map_take).symm ?_
    refine qm rfl ?_
    refine BH h fun v13 a13 h => MK (ds0 := [_, _, _]) [90000] [] [true] (hrc ((v7 ++ (([v6] : List Ab)))) ((v10.2.take v10.1)) p2 p3 p4 p5 p6 p7 p8 p9 p10 p11 v3.1 v13 a13) (.p rfl) Xi rfl ⟨rfl, rfl, rfl, tv⟩ rfl rfl (by decide) ⟨rfl, tv⟩ rfl (Hz rfl) tv ⟨(fun h => by cases h), tv⟩ rfl rfl rfl ?_
    refine BT rfl (AI (by kernel_rfl) ?_)
    refine A5 h (fun h => ?_) fun h => ?_
    ·refine wq rfl (qe rfl ?_)
     obtain rfl := sj h
     refine Ae (sm [] [(6, bD false)] [(90000, .box [.pure (LY Af v13.2)])] rfl rfl) (Aq ?_)
     exact ⟨⟨[_], tm, rfl⟩, ⟨rfl, tv⟩, tv⟩
    ·refine Al (Aj Ay rfl (Be rfl (qm rfl (Ad ?_))))
     exact sn [] h
   ·refine AS ?_
    exact sn [] h
  ·refine Ae hs (wq rfl (qe rfl ?_))
   obtain rfl := sj h
   refine Ae (sm [] [(6, bD true)] [(90000, .box [.pure (LY Af v4)])] rfl rfl) (Aq ?_)
   exact ⟨⟨[_], tm, rfl⟩, ⟨rfl, tv⟩, tv⟩
theorem H7 (N : Nat) : ∀ (k : Nat) (p0 : List Ab) (p1 : List Ab) (p2 : List Int) (p3 : List Int) (p4 : List Int) (p5 : List Au) (p6 : List Int) (p7 : List Int) (p8 : List Int) (p9 : List Int) (p10 : List Int) (p11 : List Int) (p12 : Option (List Ab)) (r : Bool × (Option (List Ab))), CV N k p0 p1 p2 p3 p4 p5 p6 p7 p8 p9 p10 p11 p12 = some r → DG Tryz.prog 35 [pD (.sl (p0.map Af)), pD (.sl (p1.map Af)), oD (.cls 36 [.rop [.sl (p2.map An), .sl (p3.map An), .sl (p4.map An), .sl (p5.map AT)], .rop [.sl (p6.map An), .sl (p7.map An), .sl (p8.map Cb)], .rop [.sl (p9.map An), .sl (p10.map An), .sl (p11.map Cb)], .ptr 90000 0])] [(.box [.pure (LY Af p12)], .box [.pure (LY Af r.2)])] [] (bD r.1)
 | 0, _, _, _, _, _, _, _, _, _, _, _, _, _, _, h => by cases h
 | k + 1, p0, p1, p2, p3, p4, p5, p6, p7, p8, p9, p10, p11, p12, r, h => KC N (CV N k) (H7 N k) p0 p1 p2 p3 p4 p5 p6 p7 p8 p9 p10 p11 p12 r h
theorem LN (N : Nat) (p0 : List Ab) (p1 : List Ab) (p2 : List Int) (p3 : List Int) (p4 : List Int) (p5 : List Au) (p6 : List Int) (p7 : List Int) (p8 : List Int) (p9 : List Int) (p10 : List Int) (p11 : List Int) (p12 : Option (List Ab)) (r : Bool × (Option (List Ab))) (h : GW N p0 p1 p2 p3 p4 p5 p6 p7 p8 p9 p10 p11 p12 = some r) : DG Tryz.prog 35 [pD (.sl (p0.map Af)), pD (.sl (p1.map Af)), oD (.cls 36 [.rop [.sl (p2.map An), .sl (p3.map An), .sl (p4.map An), .sl (p5.map AT)], .rop [.sl (p6.map An), .sl (p7.map An), .sl (p8.map Cb)], .rop [.sl (p9.map An), .sl (p10.map An), .sl (p11.map Cb)], .ptr 90000 0])] [(.box [.pure (LY Af p12)], .box [.pure (LY Af r.2)])] [] (bD r.1) := H7 N N p0 p1 p2 p3 p4 p5 p6 p7 p8 p9 p10 p11 p12 r h
theorem Mp (N : Nat) (p0 : Aa) (p1 : Ac) (p2 : List Ab) (r : (List Ab) × Int) (h : F2 N p0 p1 p2 = some r) : Ar Tryz.prog 12 [.e (.agg (Ag p0)), .e (.agg (Av p1)), pD (.sl (p2.map Af))] [] (.tup [.one (sC (r.1.map Af)), .one (iC r.2)]) := by
 unfold F2 at h
 refine cw (n := 49) (rs := [.tmp 6, .tmp 7]) Tryz.func12 fun w0 S0 => ?_
 refine wq rfl (qb rfl (qb rfl (qa rfl (qa rfl (Ad (wq rfl (qL Ch B5 rfl (qL AW AE rfl ?_))))))))
 refine BH h fun v1 a1 h => As [] (Jn N p0 p1 v1 a1) Wg rfl (qm rfl (qx rfl (qx rfl (qa rfl (qa rfl (Ad (wp rfl (qm rfl (Bk rfl (Ad ?_))))))))))
 refine A5 h (fun h => ?_) fun h => ?_
 ·refine wq rfl (qm rfl (qa rfl (qe rfl ?_)))
  obtain rfl := sj h
  refine Ae ((I2 6 _ rfl).trans (sm [] [(6, pD (.sl ((([] : List Ab)).map Af))), (7, iD v1.2)] [] rfl rfl)) (Aq ?_)
  exact ⟨⟨[_, _], ⟨.tmp _ _ rfl, tm⟩, rfl⟩, tv⟩
 ·refine Al (wp rfl (qm rfl ?_))
  refine BH h fun v3 a3 h => As [] (Pd N p2 v3 a3) XY rfl (qa rfl (Ad (wq rfl (qm rfl (Bk rfl (Ad ?_))))))
  refine A5 h (fun h => ?_) fun h => ?_
  ·refine wq rfl (qm rfl (qa rfl (qe rfl ?_)))
   obtain rfl := sj h
   refine Ae ((I2 6 _ rfl).trans (sm [] [(6, pD (.sl ((([] : List Ab)).map Af))), (7, iD v3)] [] rfl rfl)) (Aq ?_)
   exact ⟨⟨[_, _], ⟨.tmp _ _ rfl, tm⟩, rfl⟩, tv⟩
  ·refine Al (wq rfl (qL Ch B5 rfl (qL AW AE rfl (qm rfl ?_))))
   refine BH h fun v5 a5 h => As [] (Gz N p0 p1 p2 v5 a5) UY rfl (qm rfl (qx rfl (qx rfl (qz BU rfl (qs AE rfl (qa rfl (Ad (AN ?_))))))))
   refine AL h (fun v6 => mk [(2, pD (.sl (p2.map Af))), (3, oD (.ptr 3 0)), (4, oD (.ptr 4 0)), (11, oD (.ptr 11 0)), (40, bD v6)] [(3, .box (Ag p0)), (4, .box (Av p1)), (11, .box (Av v5.1))]) (fun j6 h => ?_) (fun v6 h => ?_)
   ·refine Aj Ay rfl (qm rfl (BT rfl (qm rfl ?_)))
    refine Dm 37 h rfl (fun h => ?_) fun h => ?_
    ·refine qw 2 rfl (qp rfl (Ad ?_))
     exact sn [] h
    ·refine qm rfl (BT rfl (qp rfl (Ad ?_)))
     exact sn [] h
   ·refine A5 h (fun h => ?_) fun h => ?_
    ·refine wq rfl (qm rfl ?_)
     refine BH h fun v9 a9 h => As [2001] (CC N p2 v9 a9) U3 rfl (qa rfl (qe rfl ?_))
     obtain rfl := sj h
     refine Ae ((AQ 2001 _ _ rfl rfl).trans (sm [] [(6, pD (.sl (v9.map Af))), (7, iD 0)] [] rfl rfl)) (Aq ?_)
     exact ⟨⟨[_, _], ⟨.tmp _ _ rfl, tm⟩, rfl⟩, tv⟩
    ·refine Al (wq rfl ?_)
     refine Tt (.p rfl) Sa rfl ?_
     refine Ad (wq rfl (qm rfl (DJ (Ll 3 [.sl (p0.fb.map An), .sl (p0.fi.map An), .sl (p0.fo.map An), .sl (p0.fd.map AT)] rfl rfl) (DJ (Ll 4 [.sl (p1.fe.map An), .sl (p1.fa.map An), .sl (p1.fc.map Cb)] rfl rfl) (DJ (Ll 11 [.sl (v5.1.fe.map An), .sl (v5.1.fa.map An), .sl (v5.1.fc.map Cb)] rfl rfl) ?_)))))
     refine PR [.rop [.sl (p0.fb.map An), .sl (p0.fi.map An), .sl (p0.fo.map An), .sl (p0.fd.map AT)], .rop [.sl (p1.fe.map An), .sl (p1.fa.map An), .sl (p1.fc.map Cb)], .rop [.sl (v5.1.fe.map An), .sl (v5.1.fa.map An), .sl (v5.1.fc.map Cb)], .ptr 13 0] (.p rfl) rfl ⟨rfl, rfl, rfl, rfl, tv⟩ ?_
     refine BH h fun v10 a10 h => MK (ds0 := [_, _, _]) [13] [] [true] (LN N (([] : List Ab)) p2 p0.fb p0.fi p0.fo p0.fd p1.fe p1.fa p1.fc v5.1.fe v5.1.fa v5.1.fc ((none : Option (List Ab))) v10 a10) (.p rfl) Xi rfl ⟨rfl, rfl, rfl, tv⟩ rfl rfl (by decide) ⟨rfl, tv⟩ rfl (Hz rfl) tv ⟨(fun h => by cases h), tv⟩ rfl rfl rfl ?_
     refine Ad (wp rfl (ql Q2 rfl ?_))
     refine E1 h fun c11 h => TT (.p rfl) rfl A3 c11 ?_
     refine Ad ?_
     refine A5 h (fun h => ?_) fun h => ?_
     ·refine wq rfl (qa rfl (qe rfl ?_))
      obtain rfl := sj h
      refine Ae ((I2 6 _ rfl).trans (sm [] [(6, pD (.sl ((([] : List Ab)).map Af))), (7, iD 15)] [] rfl rfl)) (Aq ?_)
      exact ⟨⟨[_, _], ⟨.tmp _ _ rfl, tm⟩, rfl⟩, tv⟩
     ·refine Al (wq rfl (ql Q2 rfl (qa rfl (qe rfl ?_))))
      obtain rfl := sj h
      refine Ae ((U5 6 v10.2 rfl).trans (sm [] [(6, pD (.sl (((v10.2.getD [])).map Af))), (7, iD 0)] [] rfl rfl)) (Aq ?_)
      exact ⟨⟨[_, _], ⟨.tmp _ _ rfl, tm⟩, rfl⟩, tv⟩
theorem I9 (N : Nat) (p0 : Aa) (p1 : Ac) (p2 : List Ab) (r : Bool × Int) (h : Ex N p0 p1 p2 = some r) : Ar Tryz.prog 10 [.e (.agg (Ag p0)), .e (.agg (Av p1)), pD (.sl (p2.map Af))] [] (.tup [.one (.pure (.val (.bool r.1))), .one (iC r.2)]) := by
 unfold Ex at h
 refine cw (n := 26) (rs := [.tmp 6, .tmp 7]) Tryz.func10 fun w0 S0 => ?_
 refine wq rfl (qb rfl (qb rfl (qa rfl (qa rfl (Ad (wp rfl (qL Ch B5 rfl (qL AW AE rfl ?_))))))))
 refine BH h fun v1 a1 h => As [] (IB N p0 p1 v1 a1) Uq rfl (qa rfl (Ad (wq rfl (qm rfl (Bk rfl (Ad ?_))))))
 refine A5 h (fun h => ?_) fun h => ?_
 ·refine wq rfl (qm rfl (qa rfl (qe rfl ?_)))
  obtain rfl := sj h
  refine Ae (sm [] [(6, bD false), (7, iD v1)] [] rfl rfl) (Aq ?_)
  exact ⟨⟨[_, _], ⟨.tmp _ _ rfl, tm⟩, rfl⟩, tv⟩
 ·refine Al (wq rfl (qL Ch B5 rfl (qL AW AE rfl (qm rfl ?_))))
  refine BH h fun v3 a3 h => As [] (Mp N p0 p1 p2 v3 a3) Xx rfl (qm rfl (qx rfl (qx rfl (qa rfl (qa rfl (Ad (wq rfl (qm rfl (Bp rfl (qa rfl (qe rfl ?_)))))))))))
  obtain rfl := sj h
  refine Ae (sm [] [(6, bD ((v3.2 == 15))), (7, iD 0)] [] rfl rfl) (Aq ?_)
  exact ⟨⟨[_, _], ⟨.tmp _ _ rfl, tm⟩, rfl⟩, tv⟩
theorem MX (N : Nat) (p0 : Aa) (p1 : List Ab) (r : (List (List Ab)) × Int) (h : GQ N p0 p1 = some r) : Ar Tryz.prog 15 [.e (.agg (Ag p0)), pD (.sl (p1.map Af))] [(1, r.1.map (EU Af))] (.tup [.one (.own 0), .one (iC r.2)]) := by
 unfold GQ at h
 refine cw (n := 64) (rs := [.tmp 4, .tmp 5]) Tryz.func15 fun w0 S0 => ?_
 refine wq rfl (qb rfl (qa rfl (qa rfl (Ad (wq rfl (qL Ch B5 rfl ?_))))))
 refine BH h fun v1 a1 h => As [2001, 2002, 2003] (JG N p0 v1 a1) VT rfl (qm rfl (qx rfl (qx rfl (qz BU rfl (qs AE rfl (qa rfl (Ad (wp rfl (qm rfl (Bk rfl (Ad ?_)))))))))))
 refine A5 h (fun h => ?_) fun h => ?_
 ·refine wq rfl (qm rfl (qa rfl (qe rfl ?_)))
  obtain rfl := sj h
  refine Ae ((Bt 4 2004 1 rfl rfl rfl).trans (sm [(1000, 2004)] [(4, oD (.own 1000)), (5, iD v1.2)] [(1000, .vec 1 ((([] : List (List Ab))).map (EU Af)))] rfl rfl)) (Aq ?_)
  exact ⟨⟨[_, _], ⟨.tmp _ _ rfl, tm⟩, rfl⟩, ⟨rfl, tv⟩⟩
 ·refine Al (wp rfl (qL Ch B5 rfl (qm rfl ?_)))
  refine BH h fun v3 a3 h => As [] (OW N p0 p1 v3 a3) YB rfl (BT rfl (Ad ?_))
  refine A5 h (fun h => ?_) fun h => ?_
  ·refine wq rfl (qa rfl (qe rfl ?_))
   obtain rfl := sj h
   refine Ae ((Bt 4 2005 1 rfl rfl rfl).trans (sm [(1000, 2005)] [(4, oD (.own 1000)), (5, iD 13)] [(1000, .vec 1 ((([] : List (List Ab))).map (EU Af)))] rfl rfl)) (Aq ?_)
   exact ⟨⟨[_, _], ⟨.tmp _ _ rfl, tm⟩, rfl⟩, ⟨rfl, tv⟩⟩
  ·refine Al (wq rfl (qa rfl (Ad (AN ?_))))
   refine AH (L := Fa N p0) h (fun v5 => mk [(1, pD (.sl (v5.2.2.2.1.map Af))), (2, oD (.ptr 2 0)), (6, oD (.ptr 6 0)), (8, oD (.own 2006))] [(2, .box (Ag p0)), (6, .box [sC (v5.1.map An), sC (v5.2.1.map An), sC (v5.2.2.1.map Cb)]), (2006, .vec 1 (v5.2.2.2.2.map (EU Af)))]) (fun v6 => mk [(8, oD (.own 2007))] [(2007, .vec 1 (v6.map (EU Af)))]) (fun _ _ => rfl) ((Bt 8 2011 1 rfl rfl rfl).trans ((AQ 2001 _ _ rfl rfl).trans ((AQ 2002 _ _ rfl rfl).trans ((AQ 2003 _ _ rfl rfl).trans (sm [(2006, 2011)] _ _ rfl rfl))))) (fun j5 n5 v5 h => ?_) (fun v6 s h hs => ?_)
   ·unfold Fa at h
    refine wp rfl (qm rfl (AF A3 rfl (Fe rfl (Ad ?_))))
    refine A5 h (fun h => ?_) fun h => ?_
    ·refine Al (AM (wq rfl (qm rfl (AF A3 rfl ?_))))
     refine RJ (.p rfl) rfl rfl ?_
     refine qa rfl (Ad (AN ?_))
     refine AH (L := E5 N p0 v5) h (fun v8 => mk [(1, pD (.sl (v5.2.2.2.1.map Af))), (2, oD (.ptr 2 0)), (6, oD (.ptr 6 0)), (8, oD (.own 2008)), (9, iD v8)] [(2, .box (Ag p0)), (6, .box [sC (v5.1.map An), sC (v5.2.1.map An), sC (v5.2.2.1.map Cb)]), (2008, .vec 1 (v5.2.2.2.2.map (EU Af)))]) (fun v9 => mk [(1, pD (.sl (v5.2.2.2.1.map Af))), (2, oD (.ptr 2 0)), (6, oD (.ptr 6 0)), (8, oD (.own 2009)), (9, iD v9)] [(2, .box (Ag p0)), (6, .box [sC (v5.1.map An), sC (v5.2.1.map An), sC (v5.2.2.1.map Cb)]), (2009, .vec 1 (v5.2.2.2.2.map (EU Af)))]) (fun _ _ => rfl) (sm [(2008, 2006)] _ _ rfl rfl) (fun j8 n8 v8 h => ?_) (fun v9 s h hs => ?_)
     ·unfold E5 at h
      refine wp rfl (qm rfl (Fe rfl (Ad ?_)))
      refine A5 h (fun h => ?_) fun h => ?_
      ·refine Al (AM (wp rfl (qL Ch B5 rfl (qL AW AE rfl (qw 2 rfl ?_)))))
       refine E1 h fun c11 h => GA (.p rfl) rfl A3 B8 (EL (f := Af) (n := 3) (fun _ => rfl) _) (.none _) (.some _ _ _ _ c11.1) tv ⟨rfl, tv⟩ (by have := c11.2.1; (try simp only [List.length_map]); omega) (by have := c11.2.2; (try simp only [List.length_map]); omega) (Fv Af v5.2.2.2.1 _ _ ((v8).toNat - 0) rfl) ?_
       refine BH h fun v12 a12 h => As [] (I9 N p0 ((Ac.mk v5.1 v5.2.1 v5.2.2.1)) (((v5.2.2.2.1.drop 0).take ((v8).toNat - 0))) v12 a12) V7 rfl (qm rfl (qx rfl (qx rfl (qa rfl (qa rfl (AI (by kernel_rfl) (wq rfl (qm rfl (Ad ?_)))))))))
       refine A5 h (fun h => ?_) fun h => ?_
       ·refine AS ?_
        exact sn [(2009, 2008)] h
       ·refine Al (Aj Ay rfl (qm rfl (QN rfl (qe rfl ?_))))
        exact sn [] h
      ·refine AS ?_
       exact sn [(2009, 2008)] h
     ·refine Ae hs (wq rfl (qw 3 rfl ?_))
      refine E1 h fun c14 h => GA (.p rfl) rfl A3 B8 (EL (f := Af) (n := 3) (fun _ => rfl) _) (.none _) (.some _ _ _ _ c14.1) tv ⟨rfl, tv⟩ (by have := c14.2.1; (try simp only [List.length_map]); omega) (by have := c14.2.2; (try simp only [List.length_map]); omega) (Fv Af v5.2.2.2.1 _ _ ((v9).toNat - 0) rfl) ?_
      refine BH h fun v15 a15 h => As [2010] (CC N (((v5.2.2.2.1.drop 0).take ((v9).toNat - 0))) v15 a15) U3 rfl (DJ (AQ 2010 _ _ rfl rfl) (Eu Hj NG Sa rfl ?_))
      refine E1 h fun c16 h => El (f := (EU Af)) Hj Hj NG VG Sa c16 rfl (qa rfl (Ad (wq rfl (qL Ch B5 rfl (qL AW AE rfl (qw 2 rfl ?_))))))
      refine E1 h fun c17 h => GA (.p rfl) rfl A3 B8 (EL (f := Af) (n := 3) (fun _ => rfl) _) (.none _) (.some _ _ _ _ c17.1) tv ⟨rfl, tv⟩ (by have := c17.2.1; (try simp only [List.length_map]); omega) (by have := c17.2.2; (try simp only [List.length_map]); omega) (Fv Af v5.2.2.2.1 _ _ ((v9).toNat - 0) rfl) ?_
      refine BH h fun v18 a18 h => As [] (Gz N p0 ((Ac.mk v5.1 v5.2.1 v5.2.2.1)) (((v5.2.2.2.1.drop 0).take ((v9).toNat - 0))) v18 a18) UY rfl (qm rfl (qx rfl (qx rfl (qs AE rfl (AI (by kernel_rfl) (Aj Ay rfl (qw 2 rfl ?_)))))))
      refine E1 h fun c19 h => GA (.p rfl) rfl A3 B8 (EL (f := Af) (n := 3) (fun _ => rfl) _) (.some _ _ _ _ c19.1) (.none _) ⟨rfl, tv⟩ tv (by have := c19.2.1; (try simp only [List.length_map]); omega) (by have := c19.2.2; (try simp only [List.length_map]); omega) (Fv Af v5.2.2.2.1 _ _ (v5.2.2.2.1.length - (v9).toNat) (by rw [List.length_map])) ?_
      refine qa rfl (Ad ?_)
      exact sn [(2006, 50)] h
    ·refine AS ?_
     exact sn [(2007, 2006)] h
   ·refine Ae hs (wq rfl (qm rfl (qa rfl (qe rfl ?_))))
    obtain rfl := sj h
    refine Ae (sm [(1000, 2007)] [(4, oD (.own 1000)), (5, iD 0)] [(1000, .vec 1 (v6.map (EU Af)))] rfl rfl) (Aq ?_)
    exact ⟨⟨[_, _], ⟨.tmp _ _ rfl, tm⟩, rfl⟩, ⟨rfl, tv⟩⟩
theorem Hy (N : Nat) (p0 : List (List Bool)) (p1 : Int) (p2 : Int) (r : Bool) (h : C2 N p0 p1 p2 = some r) : Ar Tryz.prog 92 [pD (.sl (p0.map (EU eB))), iD p1, iD p2] [] (bD r) := by
 unfold C2 at h
 refine cw (n := 24) (rs := [.tmp 6]) Tryz.func92 fun w0 S0 => ?_
 refine wq rfl (qa rfl (Ad (wp rfl (qm rfl (AF Gb rfl (qm rfl (Bk rfl (Ad ?_))))))))
 refine A5 h (fun h => ?_) fun h => ?_
 ·refine wq rfl (qe rfl ?_)
  obtain rfl := sj h
  refine Ae (sm [] [(6, bD false)] [] rfl rfl) (Aq ?_)
  exact ⟨⟨[_], tm, rfl⟩, tv⟩
 ·refine Al (wp rfl (qe rfl ?_))
  refine AH (L := B7 N p0 p1 p2) h (fun v2 => mk [(0, pD (.sl (p0.map (EU eB)))), (1, iD p1), (2, iD p2), (7, iD v2)] []) (fun v3 => mk [] []) (fun _ _ => rfl) (sm [] _ _ rfl rfl) (fun j2 n2 v2 h => ?_) (fun v3 s h hs => ?_)
  ·unfold B7 at h
   refine wp rfl (qw 2 rfl (AV rfl (Ad ?_)))
   refine A5 h (fun h => ?_) fun h => ?_
   ·refine Al (AN (AM (wq rfl (qw 2 rfl ?_))))
    refine BS h fun v5 a5 b5 h => qi Gb Ns a5 (Ah b5) rfl (qk OS rfl (AF GX rfl (qm rfl (Bk rfl (Ad ?_)))))
    refine A5 h (fun h => ?_) fun h => ?_
    ·refine wq rfl (qe rfl ?_)
     obtain rfl := sj h
     refine Ae (sm [] [(6, bD false)] [] rfl rfl) (Aq ?_)
     exact ⟨⟨[_], tm, rfl⟩, tv⟩
    ·refine Al (Aj Ay rfl (qm rfl (Be rfl (qe rfl ?_))))
     exact sn [] h
   ·refine AS ?_
    exact sn [] h
  ·refine Ae hs (wq rfl (qe rfl ?_))
   obtain rfl := sj h
   refine Ae (sm [] [(6, bD true)] [] rfl rfl) (Aq ?_)
   exact ⟨⟨[_], tm, rfl⟩, tv⟩
theorem Kd (N : Nat) (p0 : Aa) (p1 : Au) (r : Int) (h : Ed N p0 p1 = some r) : Ar Tryz.prog 69 [.e (.agg (Ag p0)), .e (.agg (Bd p1))] [] (iD r) := by
 unfold Ed at h
 refine cw (n := 101) (rs := [.tmp 4]) Tryz.func69 fun w0 S0 => ?_
 refine wq rfl (qb rfl (qb rfl (qa rfl (Ad (AN ?_)))))
 refine AL h (fun v1 => mk [(2, oD (.ptr 2 0)), (3, oD (.ptr 3 0)), (22, bD v1)] [(2, .box (Ag p0)), (3, .box (Bd p1))]) (fun j1 h => ?_) (fun v1 h => ?_)
 ·refine Aj Ay rfl (qf FF rfl (ql BQ rfl (AV rfl (qm rfl ?_))))
  refine Dm 10 h rfl (fun h => ?_) fun h => ?_
  ·refine qw 3 rfl (qp rfl (qw 4 rfl (qu rfl (qu rfl (qn rfl (qp rfl (Ad ?_)))))))
   exact sn [] h
  ·refine qf FF rfl (ql BQ rfl (Fe rfl (qp rfl (qm rfl ?_))))
   refine Dm 15 h rfl (fun h => ?_) fun h => ?_
   ·refine qw 3 rfl (qu rfl (qu rfl (qn rfl (qp rfl (Ad ?_)))))
    exact sn [] h
   ·refine qf IH rfl (ql RN rfl (qm rfl ?_))
    refine Dm 18 h rfl (fun h => ?_) fun h => ?_
    ·refine qL Hu Ef rfl ?_
     refine BH h fun v5 a5 h => As [] (B4 N p1 v5 a5) O1 rfl (qp rfl (qp rfl (Ad ?_)))
     exact sn [] h
    ·refine qw 2 rfl (qp rfl (qp rfl (Ad ?_)))
     exact sn [] h
 ·refine A5 h (fun h => ?_) fun h => ?_
  ·refine wq rfl (qe rfl ?_)
   obtain rfl := sj h
   refine Ae (sm [] [(4, iD 1)] [] rfl rfl) (Aq ?_)
   exact ⟨⟨[_], tm, rfl⟩, tv⟩
  ·refine Al (wq rfl (qf Bq rfl (ql A0 rfl (AF Ax rfl (qa rfl (Ad (AN ?_)))))))
   refine AL h (fun v7 => mk [(2, oD (.ptr 2 0)), (3, oD (.ptr 3 0)), (45, bD v7)] [(2, .box (Ag p0)), (3, .box (Bd p1))]) (fun j7 h => ?_) (fun v7 h => ?_)
   ·refine Aj Ay rfl (qf CN rfl (ql BQ rfl (AV rfl (qm rfl ?_))))
    refine Dm 29 h rfl (fun h => ?_) fun h => ?_
    ·refine qw 4 rfl (qp rfl (qw 4 rfl (qp rfl (qw 5 rfl (qp rfl (Ad ?_))))))
     exact sn [] h
    ·refine qf CN rfl (ql BQ rfl (qm rfl (EA rfl (qp rfl (qm rfl ?_)))))
     refine Dm 35 h rfl (fun h => ?_) fun h => ?_
     ·refine qw 3 rfl (qp rfl (qw 5 rfl (qp rfl (Ad ?_))))
      exact sn [] h
     ·refine qf H1 rfl (ql BQ rfl (AV rfl (qp rfl (qm rfl ?_))))
      refine Dm 40 h rfl (fun h => ?_) fun h => ?_
      ·refine qw 4 rfl (qp rfl (Ad ?_))
       exact sn [] h
      ·refine qf H1 rfl (ql BQ rfl (qm rfl (EA rfl (qp rfl (Ad ?_)))))
       exact sn [] h
   ·refine A5 h (fun h => ?_) fun h => ?_
    ·refine wq rfl (qe rfl ?_)
     obtain rfl := sj h
     refine Ae (sm [] [(4, iD 4)] [] rfl rfl) (Aq ?_)
     exact ⟨⟨[_], tm, rfl⟩, tv⟩
    ·refine Al (wp rfl (qf Jh rfl (ql JS rfl (qf Bq rfl (ql A0 rfl (qf CN rfl (ql BQ rfl ?_)))))))
     refine BS h fun v12 a12 b12 h => qi Ax CU a12 (Ah b12) rfl (qk BQ rfl (qf Bq rfl (ql A0 rfl (qf H1 rfl (ql BQ rfl ?_)))))
     refine BS h fun v13 a13 b13 h => qi Ax CU a13 (Ah b13) rfl (qk BQ rfl ?_)
     refine BH h fun v14 a14 h => As [] (Hy N p1.fq v12 v13 v14 a14) Xd rfl (BT rfl (AI (by kernel_rfl) ?_))
     refine A5 h (fun h => ?_) fun h => ?_
     ·refine wq rfl (qe rfl ?_)
      obtain rfl := sj h
      refine Ae (sm [] [(4, iD 6)] [] rfl rfl) (Aq ?_)
      exact ⟨⟨[_], tm, rfl⟩, tv⟩
     ·refine Al (wp rfl (qf FF rfl (ql BQ rfl (Bk rfl (Ad ?_)))))
      refine A5 h (fun h => ?_) fun h => ?_
      ·refine wp rfl (qf GB rfl (ql JS rfl (AF Gb rfl (Bk rfl (Ad ?_)))))
       refine A5 h (fun h => ?_) fun h => ?_
       ·refine wq rfl (qe rfl ?_)
        obtain rfl := sj h
        refine Ae (sm [] [(4, iD 6)] [] rfl rfl) (Aq ?_)
        exact ⟨⟨[_], tm, rfl⟩, tv⟩
       ·refine Al (wq rfl (qe rfl ?_))
        obtain rfl := sj h
        refine Ae (sm [] [(4, iD 0)] [] rfl rfl) (Aq ?_)
        exact ⟨⟨[_], tm, rfl⟩, tv⟩
      ·refine Al (wp rfl (qf GB rfl (ql JS rfl (qf Bq rfl (ql A0 rfl (qf CN rfl (ql BQ rfl ?_)))))))
       refine BS h fun v18 a18 b18 h => qi Ax CU a18 (Ah b18) rfl (qk BQ rfl (qf Bq rfl (ql A0 rfl (qf CN rfl (ql BQ rfl ?_)))))
       refine BS h fun v19 a19 b19 h => qi Ax CU a19 (Ah b19) rfl (qk BQ rfl ?_)
       refine BH h fun v20 a20 h => As [] (Hy N p1.fm v18 v19 v20 a20) Xd rfl (BT rfl (AI (by kernel_rfl) ?_))
       refine A5 h (fun h => ?_) fun h => ?_
       ·refine wq rfl (qe rfl ?_)
        obtain rfl := sj h
        refine Ae (sm [] [(4, iD 6)] [] rfl rfl) (Aq ?_)
        exact ⟨⟨[_], tm, rfl⟩, tv⟩
       ·refine Al (wp rfl (qe rfl ?_))
        refine AH (L := BF N p1) h (fun v22 => mk [(3, oD (.ptr 3 0)), (6, iD v22)] [(3, .box (Bd p1))]) (fun v23 => mk [] []) (fun _ _ => rfl) (sm [] _ _ rfl rfl) (fun j22 n22 v22 h => ?_) (fun v23 s h hs => ?_)
        ·unfold BF at h
         refine wp rfl (qm rfl (qf GB rfl (ql JS rfl (AF Gb rfl (AV rfl (Ad ?_))))))
         refine A5 h (fun h => ?_) fun h => ?_
         ·refine Al (AN (AM (wq rfl (qf GB rfl (ql JS rfl (qm rfl ?_))))))
          refine BS h fun v25 a25 b25 h => qi Gb Ns a25 (Ah b25) rfl (qk OS rfl (qm rfl ?_))
          refine BS h fun v26 a26 b26 h => qi GX Rk a26 (Ah b26) rfl (qk RN rfl (BT rfl (Ad ?_)))
          refine A5 h (fun h => ?_) fun h => ?_
          ·refine wq rfl (qe rfl ?_)
           obtain rfl := sj h
           refine Ae (sm [] [(4, iD 1)] [] rfl rfl) (Aq ?_)
           exact ⟨⟨[_], tm, rfl⟩, tv⟩
          ·refine Al (Aj Ay rfl (qm rfl (Be rfl (qe rfl ?_))))
           exact sn [] h
         ·refine AS ?_
          exact sn [] h
        ·refine Ae hs (wq rfl (qe rfl ?_))
         obtain rfl := sj h
         refine Ae (sm [] [(4, iD 0)] [] rfl rfl) (Aq ?_)
         exact ⟨⟨[_], tm, rfl⟩, tv⟩
end Go.Lift
