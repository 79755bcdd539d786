/- Lemmas for WavesBadCardSaid, which YtncnphcfgojgmaaGreatDoorFinV4 proves. -/
import Derived.Test.YtncnphcfgojgmaaGreatDoorTypes
import Derived.Test.YtncnphcfgojgmaaGreatDoorProg
import Derived.KernelRfl
namespace Go.Lift
open IntKind renaming wrap → wI
def Dm (_ : Nat) (p0 : List Int) (p1 : Int) : Option Int :=
 AL ((decide (p1 < (p0.length : Int))))
  ((BD p0 p1).bind fun v2 =>
  some ((wI .i64 v2)))
  (some 0)
def AR (_ : Nat) (p0 : Av) : Option Bool :=
 Ba (fun (v1 : Bool) =>
  some v1)
 fun j1 =>
 AL ((p0.ff == 3))
  (j1 true)
  (j1 (p0.ff == 4))
def BQ (N : Nat) (p1 : Int) (p2 : Int) (p3 : Bool) (v1 : (List (List Bool)) × Int) (j4 : ((List Bool)) → Option ((List (List Bool)))) : Nat → ((List Bool) × Int) → Option ((List (List Bool)))
 | 0, _ => none
 | n4 + 1, v4 =>
  AL ((decide (v4.2 < p1)))
   (Ba (fun (v7 : (List Bool)) =>
    BQ N p1 p2 p3 v1 j4 n4 (v7, (wI .i64 (v4.2 + 1))))
   fun j7 =>
   AL p3
    (AL ((v1.2 == v4.2))
     ((Dj (v4.1.length + (([true] : List Bool)).length ≤ Do)).bind fun _ =>
     j7 (v4.1 ++ (([true] : List Bool))))
     ((Dj (0 ≤ (wI .i64 ((wI .i64 (3 * v1.2)) + v4.2)))).bind fun _ =>
     (Dj (v4.1.length + (([((Int.tmod ((EL .u16 p2 ((wI .i64 ((wI .i64 (3 * v1.2)) + v4.2))))) 2) == 0)] : List Bool)).length ≤ Do)).bind fun _ =>
     j7 (v4.1 ++ (([((Int.tmod ((EL .u16 p2 ((wI .i64 ((wI .i64 (3 * v1.2)) + v4.2))))) 2) == 0)] : List Bool)))))
    ((Dj (0 ≤ (wI .i64 ((wI .i64 (3 * v1.2)) + v4.2)))).bind fun _ =>
    (Dj (v4.1.length + (([((Int.tmod ((EL .u16 p2 ((wI .i64 ((wI .i64 (3 * v1.2)) + v4.2))))) 2) == 0)] : List Bool)).length ≤ Do)).bind fun _ =>
    j7 (v4.1 ++ (([((Int.tmod ((EL .u16 p2 ((wI .i64 ((wI .i64 (3 * v1.2)) + v4.2))))) 2) == 0)] : List Bool)))))
   (j4 v4.1)
def BP (N : Nat) (p0 : Int) (p1 : Int) (p2 : Int) (p3 : Bool) (j1 : ((List (List Bool))) → Option ((List (List Bool)))) : Nat → ((List (List Bool)) × Int) → Option ((List (List Bool)))
 | 0, _ => none
 | n1 + 1, v1 =>
  AL ((decide (v1.2 < p0)))
   (BQ N p1 p2 p3 v1 (fun (v5 : (List Bool)) =>
    (Dj (v1.1.length + (([v5] : List (List Bool))).length ≤ Do)).bind fun _ =>
    BP N p0 p1 p2 p3 j1 n1 (v1.1 ++ (([v5] : List (List Bool))), (wI .i64 (v1.2 + 1)))) N (([] : List Bool), 0))
   (j1 v1.1)
def Dl (N : Nat) (p0 : Int) (p1 : Int) (p2 : Int) (p3 : Bool) : Option ((List (List Bool))) :=
 BP N p0 p1 p2 p3 (fun (v2 : (List (List Bool))) =>
  some v2) N (([] : List (List Bool)), 0)
def B4 (N : Nat) (p0 : BE) (j4 : ((List Int) × (List Int) × (List Int)) → Option (Ab × Bool)) : Nat → ((List Int) × (List Int) × (List Int) × Int) → Option (Ab × Bool)
 | 0, _ => none
 | n4 + 1, v4 =>
  AL ((decide (v4.2.2.2 < (p0.fb.length : Int))))
   ((BD p0.fb v4.2.2.2).bind fun v7 =>
   (Dj (v4.1.length + (([(wI .i64 (1 + (wI .i64 ((Int.tmod v7 3)))))] : List Int)).length ≤ Do)).bind fun _ =>
   (Dm N p0.fm v4.2.2.2).bind fun v9 =>
   (Dj ((wI .i64 (1 + (wI .i64 ((Int.tmod v7 3))))) ≠ 0)).bind fun _ =>
   (Dj (v4.2.1.length + (([(Int.tmod v9 ((wI .i64 (1 + (wI .i64 ((Int.tmod v7 3)))))))] : List Int)).length ≤ Do)).bind fun _ =>
   (Dm N p0.fo v4.2.2.2).bind fun v12 =>
   (Dj ((wI .i64 (1 + (wI .i64 ((Int.tmod v7 3))))) ≠ 0)).bind fun _ =>
   (Dj (v4.2.2.1.length + (([(Int.tmod v12 ((wI .i64 (1 + (wI .i64 ((Int.tmod v7 3)))))))] : List Int)).length ≤ Do)).bind fun _ =>
   B4 N p0 j4 n4 (v4.1 ++ (([(wI .i64 (1 + (wI .i64 ((Int.tmod v7 3)))))] : List Int)), v4.2.1 ++ (([(Int.tmod v9 ((wI .i64 (1 + (wI .i64 ((Int.tmod v7 3)))))))] : List Int)), v4.2.2.1 ++ (([(Int.tmod v12 ((wI .i64 (1 + (wI .i64 ((Int.tmod v7 3)))))))] : List Int)), (wI .i64 (v4.2.2.2 + 1))))
   (j4 (v4.1, v4.2.1, v4.2.2.1))
def Bh (N : Nat) (p0 : BE) (v5 : (List Int) × (List Int) × (List Int)) (j15 : ((List Av)) → Option (Ab × Bool)) : Nat → ((List Av) × Int) → Option (Ab × Bool)
 | 0, _ => none
 | n15 + 1, v15 =>
  Ba (fun (v17 : Bool) =>
   AL v17
    ((BD p0.fr v15.2).bind fun v20 =>
    (Dj ((v5.1.length : Int) ≠ 0)).bind fun _ =>
    (Dj ((v5.1.length : Int) ≠ 0)).bind fun _ =>
    Ba (fun (v23 : Bool) =>
     (BD v5.1 ((Int.tmod ((wI .i64 v20.fg)) ((v5.1.length : Int))))).bind fun v26 =>
     (BD v5.1 ((Int.tmod ((wI .i64 v20.fj)) ((v5.1.length : Int))))).bind fun v27 =>
     (Dl N v26 v27 v20.ft false).bind fun v28 =>
     Ba (fun (v29 : (List (List Bool))) =>
      (Dj (v15.1.length + (([(Av.mk ((wI .i64 (1 + (wI .i64 ((Int.tmod v20.ff 4)))))) ((Int.tmod ((wI .i64 v20.fg)) ((v5.1.length : Int)))) ((Int.tmod ((wI .i64 v20.fj)) ((v5.1.length : Int)))) v23 v28 v29)] : List Av)).length ≤ Do)).bind fun _ =>
      Bh N p0 v5 j15 n15 (v15.1 ++ (([(Av.mk ((wI .i64 (1 + (wI .i64 ((Int.tmod v20.ff 4)))))) ((Int.tmod ((wI .i64 v20.fg)) ((v5.1.length : Int)))) ((Int.tmod ((wI .i64 v20.fj)) ((v5.1.length : Int)))) v23 v28 v29)] : List Av)), (wI .i64 (v15.2 + 1))))
     fun j29 =>
     AL (((wI .i64 (1 + (wI .i64 ((Int.tmod v20.ff 4))))) == 4))
      ((BD v5.1 ((Int.tmod ((wI .i64 v20.fg)) ((v5.1.length : Int))))).bind fun v31 =>
      (BD v5.1 ((Int.tmod ((wI .i64 v20.fg)) ((v5.1.length : Int))))).bind fun v32 =>
      (Dl N v31 v32 v20.fu true).bind fun v33 =>
      j29 v33)
      (j29 ([] : List (List Bool))))
    fun j23 =>
    AL v20.fp
     ((AR N ((Av.mk ((wI .i64 (1 + (wI .i64 ((Int.tmod v20.ff 4)))))) ((Int.tmod ((wI .i64 v20.fg)) ((v5.1.length : Int)))) ((Int.tmod ((wI .i64 v20.fj)) ((v5.1.length : Int)))) false (([] : List (List Bool))) (([] : List (List Bool)))))).bind fun v25 =>
     j23 (!v25))
     (j23 false))
    (j15 v15.1))
  fun j17 =>
  AL ((decide (v15.2 < (p0.fr.length : Int))))
   (j17 (decide (0 < (v5.1.length : Int))))
   (j17 false)
def DX (N : Nat) (p0 : BE) : Option (Ab × Bool) :=
 Ba (fun (v1 : Bool) =>
  AL v1
   (some ((Ab.mk (([] : List Int)) (([] : List Int)) (([] : List Int)) (([] : List Av))), false))
   (B4 N p0 (fun (v5 : (List Int) × (List Int) × (List Int)) =>
    Bh N p0 v5 (fun (v16 : (List Av)) =>
     some ((Ab.mk v5.1 v5.2.1 v5.2.2 v16), true)) N (([] : List Av), 0)) N (([] : List Int), ([] : List Int), ([] : List Int), 0)))
 fun j1 =>
 AL ((decide (3 < (p0.fb.length : Int))))
  (j1 true)
  (j1 (decide (4 < (p0.fr.length : Int))))
def EO (_ : Nat) : Option (Ab × (List Ad)) :=
 some ((Ab.mk (([2, 2] : List Int)) (([0, 0] : List Int)) (([1, 1] : List Int)) (([] : List Av))), ([(Ad.mk 1 0 1), (Ad.mk 1 1 1), (Ad.mk 2 0 0), (Ad.mk 2 1 0)] : List Ad))
def Dp (_ : Nat) (p0 : Int) (p1 : Int) : Option Bool :=
 Ba (fun (v1 : Bool) =>
  some v1)
 fun j1 =>
 AL ((decide (0 ≤ p0)))
  (j1 (decide (p0 < p1)))
  (j1 false)
def FM (_ : Nat) (p0 : Int) (p1 : Bool) : Option Bool :=
 Ba (fun (v1 : Bool) =>
  some v1)
 fun j1 =>
 AL ((p0 == 1))
  (j1 true)
  (AL ((p0 == 2))
   (j1 true)
   (AL ((p0 == 3))
    (j1 (!p1))
    (AL ((p0 == 4))
     (j1 (!p1))
     (j1 false))))
def Db (_ : Nat) (p0 : List Bool) (p1 : Int) : Option Bool :=
 some (((p0.length : Int) != p1))
def Bb (N : Nat) (p0 : List (List Bool)) (p1 : (List Bool) → Option Bool) (j1 : Unit → Option Int) : Nat → Int → Option Int
 | 0, _ => none
 | n1 + 1, v1 =>
  AL ((decide (v1 < (p0.length : Int))))
   ((BD p0 v1).bind fun v4 =>
   (p1 v4).bind fun v5 =>
   AL v5
    (some v1)
    (Bb N p0 p1 j1 n1 (wI .i64 (v1 + 1))))
   (j1 ())
def CO (N : Nat) (p0 : List (List Bool)) (p1 : (List Bool) → Option Bool) : Option Int :=
 Bb N p0 p1 (fun (_ : Unit) =>
  some ((-1))) N 0
def Ck (N : Nat) (p0 : List (List Bool)) (p1 : (List Bool) → Option Bool) : Option Bool :=
 (CO N p0 p1).bind fun v1 =>
 some ((decide (0 ≤ v1)))
def Ef (N : Nat) (p0 : List (List Bool)) (p1 : Int) (p2 : Int) : Option Bool :=
 Ba (fun (v1 : Bool) =>
  some v1)
 fun j1 =>
 AL (((p0.length : Int) == p1))
  ((Ck N p0 ((fun (x : List Bool) => Db N x p2))).bind fun v3 =>
  j1 (!v3))
  (j1 false)
def Cx (N : Nat) (p1 : Av) (j19 : Unit → Option Int) : Nat → Int → Option Int
 | 0, _ => none
 | n19 + 1, v19 =>
  AL ((decide (v19 < (p1.fk.length : Int))))
   ((BD p1.fk v19).bind fun v22 =>
   (BD v22 v19).bind fun v23 =>
   AL ((!v23))
    (some 1)
    (Cx N p1 j19 n19 (wI .i64 (v19 + 1))))
   (j19 ())
def Fq (N : Nat) (p0 : Ab) (p1 : Av) : Option Int :=
 (FM N p1.ff p1.fp).bind fun v1 =>
 AL ((!v1))
  (some 1)
  (Ba (fun (v3 : Bool) =>
   AL v3
    (some 4)
    ((BD p0.fb p1.fg).bind fun v8 =>
    Ba (fun (v9 : Bool) =>
     AL v9
      (some 6)
      (Cx N p1 (fun (_ : Unit) =>
       some 0) N 0))
    fun j9 =>
    (BD p0.fb p1.fj).bind fun v10 =>
    (Ef N p1.fq v8 v10).bind fun v11 =>
    AL ((!v11))
     (j9 true)
     (AL ((p1.ff == 4))
      ((Ef N p1.fk v8 v8).bind fun v14 =>
      AL ((!v14))
       (j9 true)
       (AL ((!((p1.ff == 4))))
        (j9 (decide (0 < (p1.fk.length : Int))))
        (j9 false)))
      (AL ((!((p1.ff == 4))))
       (j9 (decide (0 < (p1.fk.length : Int))))
       (j9 false)))))
  fun j3 =>
  (Dp N p1.fg ((p0.fb.length : Int))).bind fun v4 =>
  AL ((!v4))
   (j3 true)
   ((Dp N p1.fj ((p0.fb.length : Int))).bind fun v6 =>
   j3 (!v6)))
def By (N : Nat) (p0 : Ab) (j7 : Unit → Option Int) : Nat → Int → Option Int
 | 0, _ => none
 | n7 + 1, v7 =>
  AL ((decide (v7 < (p0.fb.length : Int))))
   ((BD p0.fb v7).bind fun v10 =>
   Ba (fun (v11 : Bool) =>
    AL v11
     (some 7)
     (By N p0 j7 n7 (wI .i64 (v7 + 1))))
   fun j11 =>
   AL ((decide (v10 < 1)))
    (j11 true)
    (AL ((decide (6 < v10)))
     (j11 true)
     ((BD p0.fm v7).bind fun v14 =>
     (Dp N v14 v10).bind fun v15 =>
     AL ((!v15))
      (j11 true)
      ((BD p0.fo v7).bind fun v17 =>
      (Dp N v17 v10).bind fun v18 =>
      j11 (!v18)))))
   (j7 ())
def Br (N : Nat) (p0 : Ab) (j20 : Unit → Option Int) : Nat → Int → Option Int
 | 0, _ => none
 | n20 + 1, v20 =>
  AL ((decide (v20 < (p0.fe.length : Int))))
   ((BD p0.fe v20).bind fun v23 =>
   (Fq N p0 v23).bind fun v24 =>
   AL ((v24 != 0))
    (some v24)
    (Br N p0 j20 n20 (wI .i64 (v20 + 1))))
   (j20 ())
def Cg (N : Nat) (p0 : Ab) : Option Int :=
 Ba (fun (v1 : Bool) =>
  AL v1
   (some 3)
   (Ba (fun (v4 : Bool) =>
    AL v4
     (some 6)
     (By N p0 (fun (_ : Unit) =>
      Br N p0 (fun (_ : Unit) =>
       some 0) N 0) N 0))
   fun j4 =>
   AL (((p0.fm.length : Int) != (p0.fb.length : Int)))
    (j4 true)
    (j4 ((p0.fo.length : Int) != (p0.fb.length : Int)))))
 fun j1 =>
 AL ((decide (6 < (p0.fb.length : Int))))
  (j1 true)
  (j1 (decide (12 < (p0.fe.length : Int))))
def Bq (_ : Nat) (p0 : List Int) : Option ((List Int)) :=
 (Dj ((([] : List Int)).length + p0.length ≤ Do)).bind fun _ =>
 some ((([] : List Int)) ++ p0)
def F4 (_ : Nat) (p0 : Int) (p1 : Int) : Option (Int × Int) :=
 some ((wI .u32 ((EL .u64 ((wI .u64 ((wI .u64 p0) * (wI .u64 p1)))) 32))), (wI .u32 ((wI .u64 ((wI .u64 p0) * (wI .u64 p1))))))
def F6 (_ : Nat) (p0 : Int) (p1 : Int) : Option (Int × Int) :=
 some ((wI .u64 ((wI .u64 ((wI .u64 ((EL .u64 p0 32) * (EL .u64 p1 32))) + (EL .u64 ((wI .u64 ((wI .u64 ((EL .u64 p0 32) * (EM .u64 p1 4294967295))) + (EL .u64 ((wI .u64 ((EM .u64 p0 4294967295) * (EM .u64 p1 4294967295)))) 32)))) 32))) + (EL .u64 ((wI .u64 ((EM .u64 ((wI .u64 ((wI .u64 ((EL .u64 p0 32) * (EM .u64 p1 4294967295))) + (EL .u64 ((wI .u64 ((EM .u64 p0 4294967295) * (EM .u64 p1 4294967295)))) 32)))) 4294967295) + (wI .u64 ((EM .u64 p0 4294967295) * (EL .u64 p1 32)))))) 32))), (wI .u64 (p0 * p1)))
def GV (N : Nat) (p0 : Int) (p1 : Int) : Option (Int × Int) :=
 AL false
  ((F4 N ((wI .u32 p0)) ((wI .u32 p1))).bind fun v2 =>
  some ((wI .u64 v2.1), (wI .u64 v2.2)))
  ((F6 N p0 p1).bind fun v3 =>
  some (v3.1, v3.2))
def C5 (N : Nat) (j9 : ((List Int)) → Option ((List Int))) : Nat → ((List Int) × Int) → Option ((List Int))
 | 0, _ => none
 | n9 + 1, v9 =>
  AL ((decide (v9.2 < (v9.1.length : Int))))
   ((Dj ((0 : Int) ≤ v9.2 ∧ (v9.2).toNat ≤ v9.1.length ∧ v9.1.length ≤ v9.1.length)).bind fun _ =>
   (Dj ((0 : Int) ≤ v9.2 ∧ 0 ≤ (v9.2).toNat ∧ (v9.2).toNat ≤ v9.1.length)).bind fun _ =>
   C5 N j9 n9 (Hi v9.1 ((v9.2).toNat) ((((v9.1.drop 0).take ((v9.2).toNat))).take (Nat.min (((v9.1.drop 0).take ((v9.2).toNat))).length ((v9.1.length - (v9.2).toNat)))), (wI .i64 (v9.2 + (((Nat.min (((v9.1.drop 0).take ((v9.2).toNat))).length ((v9.1.length - (v9.2).toNat))) : Nat) : Int)))))
   (j9 v9.1)
def Ev (N : Nat) (p0 : List Int) (p1 : Int) : Option ((List Int)) :=
 Ba (fun (_ : Unit) =>
  (GV N ((wI .u64 ((p0.length : Int)))) ((wI .u64 p1))).bind fun v3 =>
  Ba (fun (_ : Unit) =>
   (Dj ((0 : Int) ≤ (wI .i64 v3.2) ∧ (wI .i64 v3.2) ≤ (wI .i64 v3.2) ∧ (wI .i64 v3.2) ≤ (Do : Int))).bind fun _ =>
   C5 N (fun (v10 : (List Int)) =>
    some v10) N (Hi (List.replicate ((wI .i64 v3.2)).toNat ((0 : Int))) 0 (p0.take (Nat.min p0.length ((List.replicate ((wI .i64 v3.2)).toNat ((0 : Int))).length))), (((Nat.min p0.length ((List.replicate ((wI .i64 v3.2)).toNat ((0 : Int))).length)) : Nat) : Int)))
  fun j4 =>
  Ba (fun (v5 : Bool) =>
   AL v5
    (none)
    (j4 ()))
  fun j5 =>
  AL ((decide (0 < v3.1)))
   (j5 true)
   (j5 (decide (9223372036854775807 < v3.2))))
 fun j1 =>
 AL ((decide (p1 < 0)))
  (none)
  (j1 ())
def Er (_ : Nat) (p0 : Av) : Option Bool :=
 Ba (fun (v1 : Bool) =>
  some v1)
 fun j1 =>
 AL ((p0.ff == 3))
  (j1 true)
  (j1 (p0.ff == 4))
def F0 (N : Nat) (p0 : Ab) (j6 : ((List Int)) → Option (Ac × Int)) : Nat → ((List Int) × Int) → Option (Ac × Int)
 | 0, _ => none
 | n6 + 1, v6 =>
  AL ((decide (v6.2 < (p0.fe.length : Int))))
   (Ba (fun (v9 : (List Int)) =>
    F0 N p0 j6 n6 (v9, (wI .i64 (v6.2 + 1))))
   fun j9 =>
   (BD p0.fe v6.2).bind fun v10 =>
   (Er N v10).bind fun v11 =>
   AL v11
    ((BD p0.fm v10.fg).bind fun v13 =>
    (Dj (0 ≤ v13)).bind fun _ =>
    (BD v6.1 v6.2).bind fun _ =>
    j9 (v6.1.set ((v6.2).toNat) ((C8 .u8 1 v13))))
    (j9 v6.1))
   (j6 v6.1)
def Gz (N : Nat) (p0 : Ab) : Option (Ac × Int) :=
 (Cg N p0).bind fun v1 =>
 AL ((v1 != 0))
  (some ((Ac.mk (([] : List Int)) (([] : List Int)) (([] : List Int))), v1))
  ((Bq N p0.fm).bind fun v3 =>
  (Ev N (([(-1)] : List Int)) ((p0.fm.length : Int))).bind fun v4 =>
  (Dj ((0 : Int) ≤ (p0.fe.length : Int) ∧ (p0.fe.length : Int) ≤ (p0.fe.length : Int) ∧ (p0.fe.length : Int) ≤ (Do : Int))).bind fun _ =>
  F0 N p0 (fun (v7 : (List Int)) =>
   some ((Ac.mk v3 v4 v7), 0)) N (List.replicate ((p0.fe.length : Int)).toNat ((0 : Int)), 0))
def Ed (_ : Nat) (p0 : Ac) (p1 : Int) : Option Int :=
 (BD p0.fd p1).bind fun v1 =>
 (Dj (0 ≤ v1)).bind fun _ =>
 Ba (fun (v3 : Int) =>
  some v3)
 fun j3 =>
 (BD p0.fa p1).bind fun v4 =>
 AL ((decide (0 ≤ v4)))
  ((BD p0.fa p1).bind fun v6 =>
  (Dj (0 ≤ v6)).bind fun _ =>
  j3 (KW .u8 ((C8 .u8 1 v1)) ((C8 .u8 1 v6))))
  (j3 (C8 .u8 1 v1))
def Dq (N : Nat) (p0 : Ab) (p1 : Ac) (j7 : Unit → Option Int) : Nat → Int → Option Int
 | 0, _ => none
 | n7 + 1, v7 =>
  AL ((decide (v7 < (p0.fb.length : Int))))
   ((BD p0.fb v7).bind fun v10 =>
   Ba (fun (v11 : Bool) =>
    AL v11
     (some 7)
     ((BD p1.fd v7).bind fun v20 =>
     (BD p1.fa v7).bind fun v21 =>
     AL ((v20 == v21))
      (some 1)
      (Dq N p0 p1 j7 n7 (wI .i64 (v7 + 1)))))
   fun j11 =>
   (BD p1.fd v7).bind fun v12 =>
   AL ((decide (v12 < 0)))
    (j11 true)
    ((BD p1.fd v7).bind fun v14 =>
    AL ((decide (v10 ≤ v14)))
     (j11 true)
     ((BD p1.fa v7).bind fun v16 =>
     AL ((decide (v16 < (-1))))
      (j11 true)
      ((BD p1.fa v7).bind fun v18 =>
      j11 (decide (v10 ≤ v18))))))
   (j7 ())
def CX (N : Nat) (p0 : Ab) (p1 : Ac) (j23 : Unit → Option Int) : Nat → Int → Option Int
 | 0, _ => none
 | n23 + 1, v23 =>
  AL ((decide (v23 < (p0.fe.length : Int))))
   ((BD p0.fe v23).bind fun v26 =>
   Ba (fun (v27 : Int × Int) =>
    Ba (fun (v33 : Bool) =>
     AL v33
      (some 1)
      (CX N p0 p1 j23 n23 (wI .i64 (v23 + 1))))
    fun j33 =>
    (BD p1.fc v23).bind fun v34 =>
    AL (((CC .u8 v27.1 v34) != 0))
     (j33 true)
     ((BD p1.fc v23).bind fun v36 =>
     j33 ((CC .u8 v36 v27.2) != 0)))
   fun j27 =>
   (Er N v26).bind fun v28 =>
   AL v28
    ((Ed N p1 v26.fg).bind fun v30 =>
    (BD p0.fb v26.fg).bind fun v31 =>
    (Dj (0 ≤ v31)).bind fun _ =>
    j27 (v30, (wI .u8 ((C8 .u8 1 v31) - 1))))
    (j27 (0, 0)))
   (j23 ())
def Ei (N : Nat) (p0 : Ab) (p1 : Ac) : Option Int :=
 (Cg N p0).bind fun v1 =>
 AL ((v1 != 0))
  (some v1)
  (Ba (fun (v3 : Bool) =>
   AL v3
    (some 6)
    (Dq N p0 p1 (fun (_ : Unit) =>
     CX N p0 p1 (fun (_ : Unit) =>
      some 0) N 0) N 0))
  fun j3 =>
  AL (((p1.fd.length : Int) != (p0.fb.length : Int)))
   (j3 true)
   (AL (((p1.fa.length : Int) != (p0.fb.length : Int)))
    (j3 true)
    (j3 ((p1.fc.length : Int) != (p0.fe.length : Int)))))
def Bu (_ : Nat) (p0 : List Int) : Option ((List Int)) :=
 (Dj ((([] : List Int)).length + p0.length ≤ Do)).bind fun _ =>
 some ((([] : List Int)) ++ p0)
def C1 (N : Nat) (p1 : Ac) (j3 : ((List Int)) → Option ((List Ac) × Int)) : Nat → ((List Int) × Int) → Option ((List Ac) × Int)
 | 0, _ => none
 | n3 + 1, v3 =>
  AL ((decide (v3.2 < (p1.fa.length : Int))))
   (Ba (fun (v6 : (List Int)) =>
    C1 N p1 j3 n3 (v6, (wI .i64 (v3.2 + 1))))
   fun j6 =>
   (BD p1.fa v3.2).bind fun v7 =>
   AL ((decide (0 ≤ v7)))
    ((Dj (v3.1.length + (([v3.2] : List Int)).length ≤ Do)).bind fun _ =>
    j6 (v3.1 ++ (([v3.2] : List Int))))
    (j6 v3.1))
   (j3 v3.1)
def Cn (N : Nat) (v4 : (List Int)) (v11 : (List Ac) × Int) (j17 : ((List Int)) → Option ((List Ac) × Int)) : Nat → ((List Int) × Int) → Option ((List Ac) × Int)
 | 0, _ => none
 | n17 + 1, v17 =>
  AL ((decide (v17.2 < (v4.length : Int))))
   (Ba (fun (v20 : (List Int)) =>
    Cn N v4 v11 j17 n17 (v20, (wI .i64 (v17.2 + 1))))
   fun j20 =>
   (BD v4 v17.2).bind fun v21 =>
   (Dj (0 ≤ v17.2)).bind fun _ =>
   AL (((EM .i64 ((EL .i64 v11.2 v17.2)) 1) == 1))
    ((BD v17.1 v21).bind fun _ =>
    j20 (v17.1.set ((v21).toNat) ((-1))))
    (j20 v17.1))
   (j17 v17.1)
def Cp (N : Nat) (p1 : Ac) (v4 : (List Int)) (j11 : ((List Ac)) → Option ((List Ac) × Int)) : Nat → ((List Ac) × Int) → Option ((List Ac) × Int)
 | 0, _ => none
 | n11 + 1, v11 =>
  AL ((decide (v11.2 < (C8 .i64 1 ((v4.length : Int))))))
   ((Bq N p1.fd).bind fun v14 =>
   (Bq N p1.fa).bind fun v15 =>
   (Bu N p1.fc).bind fun v16 =>
   Cn N v4 v11 (fun (v18 : (List Int)) =>
    (Dj (v11.1.length + (([(Ac.mk v14 v18 v16)] : List Ac)).length ≤ Do)).bind fun _ =>
    Cp N p1 v4 j11 n11 (v11.1 ++ (([(Ac.mk v14 v18 v16)] : List Ac)), (wI .i64 (v11.2 + 1)))) N (v15, 0))
   (j11 v11.1)
def FK (N : Nat) (p0 : Ab) (p1 : Ac) : Option ((List Ac) × Int) :=
 (Ei N p0 p1).bind fun v1 =>
 AL ((v1 != 0))
  (some (([] : List Ac), v1))
  (C1 N p1 (fun (v4 : (List Int)) =>
   (Dj (0 ≤ (v4.length : Int))).bind fun _ =>
   Cp N p1 v4 (fun (v12 : (List Ac)) =>
    some (v12, 0)) N (([] : List Ac), 0)) N (([] : List Int), 0))
def BA (N : Nat) (v1 : (List Aj) × Int) (v4 : Av) (v6 : Int) (v11 : (List Aj) × Int) (v17 : List Bool) (j18 : ((List Aj) × Bool) → Option ((List Aj))) : Nat → ((List Aj) × Bool × Int) → Option ((List Aj))
 | 0, _ => none
 | n18 + 1, v18 =>
  AL ((decide (v18.2.2 < (v17.length : Int))))
   (Ba (fun (v21 : (List Aj) × Bool) =>
    BA N v1 v4 v6 v11 v17 j18 n18 (v21.1, v21.2, (wI .i64 (v18.2.2 + 1))))
   fun j21 =>
   (BD v17 v18.2.2).bind fun v22 =>
   (Dj (0 ≤ v18.2.2)).bind fun _ =>
   AL (((EM .u8 ((EL .u8 v6 v18.2.2)) 1) == 0))
    (j21 (v18.1, v18.2.1))
    (Ba (fun (v25 : Bool) =>
     Ba (fun (v27 : Bool) =>
      AL v27
       ((Dj (v18.1.length + (([(Aj.mk v1.2 v11.2 v18.2.2)] : List Aj)).length ≤ Do)).bind fun _ =>
       j21 (v18.1 ++ (([(Aj.mk v1.2 v11.2 v18.2.2)] : List Aj)), v25))
       (j21 (v18.1, v25)))
     fun j27 =>
     AL ((!v22))
      (j27 (!v4.fp))
      (j27 false))
    fun j25 =>
    AL v18.2.1
     (j25 true)
     (j25 v22)))
   (j18 (v18.1, v18.2.1))
def BO (N : Nat) (v1 : (List Aj) × Int) (v4 : Av) (v6 : Int) (v7 : Int) (j11 : ((List Aj)) → Option ((List Aj))) : Nat → ((List Aj) × Int) → Option ((List Aj))
 | 0, _ => none
 | n11 + 1, v11 =>
  AL ((decide (v11.2 < (v4.fq.length : Int))))
   (Ba (fun (v14 : (List Aj)) =>
    BO N v1 v4 v6 v7 j11 n11 (v14, (wI .i64 (v11.2 + 1))))
   fun j14 =>
   (Dj (0 ≤ v11.2)).bind fun _ =>
   AL (((EM .u8 ((EL .u8 v7 v11.2)) 1) == 0))
    (j14 v11.1)
    ((BD v4.fq v11.2).bind fun v17 =>
    BA N v1 v4 v6 v11 v17 (fun (v19 : (List Aj) × Bool) =>
     Ba (fun (v31 : Bool) =>
      AL v31
       ((Dj (v19.1.length + (([(Aj.mk v1.2 v11.2 ((-1)))] : List Aj)).length ≤ Do)).bind fun _ =>
       j14 (v19.1 ++ (([(Aj.mk v1.2 v11.2 ((-1)))] : List Aj))))
       (j14 v19.1))
     fun j31 =>
     AL v4.fp
      (j31 (!v19.2))
      (j31 false)) N (v11.1, false, 0)))
   (j11 v11.1)
def CI (N : Nat) (p0 : Ab) (p1 : Ac) (j1 : ((List Aj)) → Option ((List Aj))) : Nat → ((List Aj) × Int) → Option ((List Aj))
 | 0, _ => none
 | n1 + 1, v1 =>
  AL ((decide (v1.2 < (p0.fe.length : Int))))
   ((BD p0.fe v1.2).bind fun v4 =>
   (Ed N p1 v4.fg).bind fun v5 =>
   (Ed N p1 v4.fj).bind fun v6 =>
   Ba (fun (v7 : Int) =>
    BO N v1 v4 v6 v7 (fun (v12 : (List Aj)) =>
     CI N p0 p1 j1 n1 (v12, (wI .i64 (v1.2 + 1)))) N (v1.1, 0))
   fun j7 =>
   (Er N v4).bind fun v8 =>
   AL v8
    ((BD p1.fc v1.2).bind fun v10 =>
    j7 v10)
    (j7 v5))
   (j1 v1.1)
def EF (N : Nat) (p0 : Ab) (p1 : Ac) : Option ((List Aj)) :=
 CI N p0 p1 (fun (v2 : (List Aj)) =>
  some v2) N (([] : List Aj), 0)
def DZ (N : Nat) (p0 : Ab) (v1 : (List Ac) × Int) (j3 : Unit → Option (Ac × Aj × Int)) : Nat → Int → Option (Ac × Aj × Int)
 | 0, _ => none
 | n3 + 1, v3 =>
  AL ((decide (v3 < (v1.1.length : Int))))
   ((BD v1.1 v3).bind fun v6 =>
   (EF N p0 v6).bind fun v7 =>
   AL ((decide (0 < (v7.length : Int))))
    ((BD v7 0).bind fun v9 =>
    some (v6, v9, 0))
    (DZ N p0 v1 j3 n3 (wI .i64 (v3 + 1))))
   (j3 ())
def EW (N : Nat) (p0 : Ab) (p1 : Ac) : Option (Ac × Aj × Int) :=
 (FK N p0 p1).bind fun v1 =>
 AL ((v1.2 != 0))
  (some ((Ac.mk (([] : List Int)) (([] : List Int)) (([] : List Int))), (Aj.mk 0 0 0), v1.2))
  (DZ N p0 v1 (fun (_ : Unit) =>
   some ((Ac.mk (([] : List Int)) (([] : List Int)) (([] : List Int))), (Aj.mk 0 0 0), 15)) N 0)
def E2 (_ : Nat) (p0 : Ad) : Option Bool :=
 Ba (fun (v1 : Bool) =>
  AL v1
   (some false)
   (Ba (fun (v5 : Bool) =>
    some v5)
   fun j5 =>
   AL ((p0.ff == 1))
    (j5 true)
    (j5 (p0.fi == 0))))
 fun j1 =>
 AL ((decide ((Pq p0.fh p0.fi) < 0)))
  (j1 true)
  (AL ((decide (p0.ff < 1)))
   (j1 true)
   (j1 (decide (4 < p0.ff))))
def Fk (_ : Nat) (p0 : Ab) (p1 : Ad) : Option Bool :=
 AL ((p1.ff == 3))
  (some ((decide (p1.fh < (p0.fe.length : Int)))))
  (Ba (fun (v2 : Bool) =>
   some v2)
  fun j2 =>
  AL ((decide (p1.fh < (p0.fb.length : Int))))
   (AL ((p1.ff != 1))
    (j2 true)
    ((BD p0.fb p1.fh).bind fun v5 =>
    j2 (decide (p1.fi < v5))))
   (j2 false))
def Ft (N : Nat) (p0 : Ac) : Option Ac :=
 (Bq N p0.fd).bind fun v1 =>
 (Bq N p0.fa).bind fun v2 =>
 (Bu N p0.fc).bind fun v3 =>
 some ((Ac.mk v1 v2 v3))
def Ez (_ : Nat) (p0 : Av) : Option Bool :=
 Ba (fun (v1 : Bool) =>
  some v1)
 fun j1 =>
 AL ((p0.ff == 3))
  (j1 true)
  (j1 (p0.ff == 4))
def C4 (N : Nat) (p0 : Ab) (p2 : Ad) (j7 : ((List Int)) → Option (Bool × (List Int) × (List Int))) : Nat → ((List Int) × Int) → Option (Bool × (List Int) × (List Int))
 | 0, _ => none
 | n7 + 1, v7 =>
  AL ((decide (v7.2 < (p0.fe.length : Int))))
   (Ba (fun (v10 : (List Int)) =>
    C4 N p0 p2 j7 n7 (v10, (wI .i64 (v7.2 + 1))))
   fun j10 =>
   (BD p0.fe v7.2).bind fun v11 =>
   Ba (fun (v12 : Bool) =>
    AL v12
     ((BD v7.1 v7.2).bind fun v16 =>
     (Dj (0 ≤ p2.fi)).bind fun _ =>
     (BD v7.1 v7.2).bind fun _ =>
     j10 (v7.1.set ((v7.2).toNat) ((KW .u8 v16 ((C8 .u8 1 p2.fi))))))
     (j10 v7.1))
   fun j12 =>
   AL ((v11.fg == p2.fh))
    ((Ez N v11).bind fun v14 =>
    j12 v14)
    (j12 false))
   (j7 v7.1)
def G8 (N : Nat) (p0 : Ab) (p1 : Ac) (p2 : Ad) : Option (Bool × (List Int) × (List Int)) :=
 Ba (fun (v1 : Bool) =>
  AL v1
   (some (false, p1.fa, p1.fc))
   ((BD p1.fa p2.fh).bind fun _ =>
   C4 N p0 p2 (fun (v8 : (List Int)) =>
    some (true, p1.fa.set ((p2.fh).toNat) p2.fi, v8)) N (p1.fc, 0)))
 fun j1 =>
 (BD p1.fa p2.fh).bind fun v2 =>
 AL ((decide (0 ≤ v2)))
  (j1 true)
  ((BD p1.fd p2.fh).bind fun v4 =>
  j1 (v4 == p2.fi))
def EY (_ : Nat) (p0 : Ac) (p1 : Int) : Option Int :=
 (BD p0.fd p1).bind fun v1 =>
 (Dj (0 ≤ v1)).bind fun _ =>
 Ba (fun (v3 : Int) =>
  some v3)
 fun j3 =>
 (BD p0.fa p1).bind fun v4 =>
 AL ((decide (0 ≤ v4)))
  ((BD p0.fa p1).bind fun v6 =>
  (Dj (0 ≤ v6)).bind fun _ =>
  j3 (KW .u8 ((C8 .u8 1 v1)) ((C8 .u8 1 v6))))
  (j3 (C8 .u8 1 v1))
def Cm (_ : Nat) (p0 : Int) : Option Int :=
 (Ta ((⟨⟨(List.append (List.append [8, 0, 1, 0, 2, 0, 1, 0, 3, 0, 1, 0, 2, 0, 1, 0, 4, 0, 1, 0, 2, 0, 1, 0, 3, 0, 1, 0, 2, 0, 1, 0, 5, 0, 1, 0, 2, 0, 1, 0, 3, 0, 1, 0, 2, 0, 1, 0, 4, 0, 1, 0, 2, 0, 1, 0, 3, 0, 1, 0, 2, 0, 1, 0] [6, 0, 1, 0, 2, 0, 1, 0, 3, 0, 1, 0, 2, 0, 1, 0, 4, 0, 1, 0, 2, 0, 1, 0, 3, 0, 1, 0, 2, 0, 1, 0, 5, 0, 1, 0, 2, 0, 1, 0, 3, 0, 1, 0, 2, 0, 1, 0, 4, 0, 1, 0, 2, 0, 1, 0, 3, 0, 1, 0, 2, 0, 1, 0]) (List.append [7, 0, 1, 0, 2, 0, 1, 0, 3, 0, 1, 0, 2, 0, 1, 0, 4, 0, 1, 0, 2, 0, 1, 0, 3, 0, 1, 0, 2, 0, 1, 0, 5, 0, 1, 0, 2, 0, 1, 0, 3, 0, 1, 0, 2, 0, 1, 0, 4, 0, 1, 0, 2, 0, 1, 0, 3, 0, 1, 0, 2, 0, 1, 0] [6, 0, 1, 0, 2, 0, 1, 0, 3, 0, 1, 0, 2, 0, 1, 0, 4, 0, 1, 0, 2, 0, 1, 0, 3, 0, 1, 0, 2, 0, 1, 0, 5, 0, 1, 0, 2, 0, 1, 0, 3, 0, 1, 0, 2, 0, 1, 0, 4, 0, 1, 0, 2, 0, 1, 0, 3, 0, 1, 0, 2, 0, 1, 0]))⟩⟩ : ByteArray)) p0).bind fun v1 =>
 some ((wI .i64 v1))
def CP (N : Nat) (p0 : Av) (p2 : Int) (j1 : Unit → Option Bool) : Nat → Int → Option Bool
 | 0, _ => none
 | n1 + 1, v1 =>
  AL ((v1 != 0))
   ((Cm N v1).bind fun v4 =>
   (BD p0.fk v4).bind fun v5 =>
   (BD v5 p2).bind fun v6 =>
   AL ((!v6))
    (some false)
    (CP N p0 p2 j1 n1 (EM .u8 v1 ((wI .u8 (v1 - 1))))))
   (j1 ())
def ES (N : Nat) (p0 : Av) (p1 : Int) (p2 : Int) : Option Bool :=
 CP N p0 p2 (fun (_ : Unit) =>
  some true) N p1
def zFS (N : Nat) (p0 : Ab) (p1 : Ac) (p2 : Int) : Option (Bool × (List Int)) :=
 (BD p0.fe p2).bind fun v1 =>
 (Ez N v1).bind fun v2 =>
 AL ((!v2))
  (some (false, p1.fc))
  ((EY N p1 v1.fg).bind fun v4 =>
  (BD p1.fc p2).bind fun v5 =>
  Ba (fun (v6 : Bool) =>
   AL v6
    (some (false, p1.fc))
    ((BD p1.fc p2).bind fun _ =>
    some (true, p1.fc.set ((p2).toNat) v4)))
  fun j6 =>
  (BD p1.fc p2).bind fun v7 =>
  AL ((v7 == v4))
   (j6 true)
   (AL ((v1.ff == 4))
    ((BD p1.fd v1.fg).bind fun v10 =>
    (ES N v1 ((CC .u8 v5 v4)) v10).bind fun v11 =>
    j6 (!v11))
    (j6 false)))
def FT (N : Nat) (p0 : Ab) (p1 : Ac) (p2 : Ad) : Option (Ac × Bool) :=
 (Ft N p1).bind fun v1 =>
 AL ((p2.ff == 1))
  ((G8 N p0 v1 p2).bind fun v3 =>
  some ((Ac.mk v1.fd v3.2.1 v3.2.2), v3.1))
  (AL ((p2.ff == 3))
   ((zFS N p0 v1 p2.fh).bind fun v5 =>
   some ((Ac.mk v1.fd v1.fa v5.2), v5.1))
   ((BD v1.fa p2.fh).bind fun v6 =>
   AL ((decide (v6 < 0)))
    (some (v1, false))
    ((BD v1.fa p2.fh).bind fun _ =>
    Ba (fun (v9 : (List Int)) =>
     some ((Ac.mk v9 (v1.fa.set ((p2.fh).toNat) ((-1))) v1.fc), true))
    fun j9 =>
    AL ((p2.ff == 2))
     ((BD v1.fd p2.fh).bind fun _ =>
     j9 (v1.fd.set ((p2.fh).toNat) v6))
     (j9 v1.fd))))
def FQ (N : Nat) (p0 : Ab) (p1 : Ac) (p2 : Ad) : Option (Ac × Int) :=
 (E2 N p2).bind fun v1 =>
 AL ((!v1))
  (some ((Ac.mk (([] : List Int)) (([] : List Int)) (([] : List Int))), 1))
  ((Fk N p0 p2).bind fun v3 =>
  AL ((!v3))
   (some ((Ac.mk (([] : List Int)) (([] : List Int)) (([] : List Int))), 4))
   ((FT N p0 p1 p2).bind fun v5 =>
   AL ((!v5.2))
    (some ((Ac.mk (([] : List Int)) (([] : List Int)) (([] : List Int))), 11))
    (some (v5.1, 0))))
def E5 (N : Nat) (p0 : Ab) (p1 : Ac) (p2 : Ad) : Option (Ac × Int) :=
 (Ei N p0 p1).bind fun v1 =>
 AL ((v1 != 0))
  (some ((Ac.mk (([] : List Int)) (([] : List Int)) (([] : List Int))), v1))
  ((FQ N p0 p1 p2).bind fun v3 =>
  some (v3.1, v3.2))
def Dh (N : Nat) (p0 : List Int) (p1 : List Int) (j2 : Unit → Option Bool) : Nat → Int → Option Bool
 | 0, _ => none
 | n2 + 1, v2 =>
  AL ((decide (v2 < (p0.length : Int))))
   ((BD p0 v2).bind fun v5 =>
   (BD p1 v2).bind fun v6 =>
   AL ((v5 != v6))
    (some false)
    (Dh N p0 p1 j2 n2 (wI .i64 (v2 + 1))))
   (j2 ())
def EH (N : Nat) (p0 : List Int) (p1 : List Int) : Option Bool :=
 AL (((p0.length : Int) != (p1.length : Int)))
  (some false)
  (Dh N p0 p1 (fun (_ : Unit) =>
   some true) N 0)
def CG (N : Nat) (p0 : List Int) (p1 : Int → Option Bool) (j1 : Unit → Option Int) : Nat → Int → Option Int
 | 0, _ => none
 | n1 + 1, v1 =>
  AL ((decide (v1 < (p0.length : Int))))
   ((BD p0 v1).bind fun v4 =>
   (p1 v4).bind fun v5 =>
   AL v5
    (some v1)
    (CG N p0 p1 j1 n1 (wI .i64 (v1 + 1))))
   (j1 ())
def D8 (N : Nat) (p0 : List Int) (p1 : Int → Option Bool) : Option Int :=
 CG N p0 p1 (fun (_ : Unit) =>
  some ((-1))) N 0
def DE (N : Nat) (p0 : List Int) (p1 : Int → Option Bool) : Option Bool :=
 (D8 N p0 p1).bind fun v1 =>
 some ((decide (0 ≤ v1)))
def G7 (_ : Nat) (p0 : Int) : Option Bool :=
 some ((decide (0 ≤ p0)))
def H6 (N : Nat) (p0 : Ab) (p1 : Ac) : Option Bool :=
 Ba (fun (v1 : Bool) =>
  some v1)
 fun j1 =>
 (Ei N p0 p1).bind fun v2 =>
 AL ((v2 == 0))
  ((EH N p1.fd p0.fo).bind fun v4 =>
  AL v4
   ((DE N p1.fa ((fun (x : Int) => G7 N x))).bind fun v6 =>
   j1 (!v6))
   (j1 false))
  (j1 false)
def ER (N : Nat) (p0 : Ab) (p1 : List Ad) (j5 : Ac → Option (Int × Ac × Aj × Int)) : Nat → (Ac × Int) → Option (Int × Ac × Aj × Int)
 | 0, _ => none
 | n5 + 1, v5 =>
  AL ((decide (v5.2 < (p1.length : Int))))
   ((BD p1 v5.2).bind fun v8 =>
   (E5 N p0 v5.1 v8).bind fun v9 =>
   Ba (fun (v10 : Bool) =>
    AL v10
     (some (v5.2, (Ac.mk (([] : List Int)) (([] : List Int)) (([] : List Int))), (Aj.mk 0 0 0), 0))
     ((EW N p0 v9.1).bind fun v13 =>
     AL ((v13.2.2 == 0))
      (some (v5.2, v13.1, v13.2.1, 0))
      (ER N p0 p1 j5 n5 (v9.1, (wI .i64 (v5.2 + 1))))))
   fun j10 =>
   AL ((v9.2 != 0))
    (j10 true)
    (j10 (v8.ff == 4)))
   (j5 v5.1)
def Hm (N : Nat) (p0 : Ab) (p1 : List Ad) : Option (Int × Ac × Aj × Int) :=
 (Gz N p0).bind fun v1 =>
 AL ((v1.2 != 0))
  (some (0, (Ac.mk (([] : List Int)) (([] : List Int)) (([] : List Int))), (Aj.mk 0 0 0), v1.2))
  ((EW N p0 v1.1).bind fun v3 =>
  AL ((v3.2.2 == 0))
   (some ((-1), v3.1, v3.2.1, 0))
   (ER N p0 p1 (fun (v6 : Ac) =>
    (H6 N p0 v6).bind fun v15 =>
    AL ((!v15))
     (some ((p1.length : Int), (Ac.mk (([] : List Int)) (([] : List Int)) (([] : List Int))), (Aj.mk 0 0 0), 14))
     (some (0, (Ac.mk (([] : List Int)) (([] : List Int)) (([] : List Int))), (Aj.mk 0 0 0), 15))) N (v1.1, 0)))
def Im (N : Nat) (p0 : Ab) (p1 : List Ad) : Option Bool :=
 (Hm N p0 p1).bind fun v1 =>
 some ((v1.2.2.2 == 15))
def Et (N : Nat) (p0 : Ab) (p1 : Ac) : Option (Bool × Int) :=
 (EW N p0 p1).bind fun v1 =>
 AL ((v1.2.2 == 0))
  (some (false, 0))
  (AL ((v1.2.2 == 15))
   (some (true, 0))
   (some (false, v1.2.2)))
def Em (_ : Nat) (p0 : Int) : Option ByteArray :=
 (BD (([(⟨#[]⟩ : ByteArray), (⟨#[115, 116, 97, 114, 116]⟩ : ByteArray), (⟨#[102, 105, 110, 105, 115, 104]⟩ : ByteArray), (⟨#[99, 108, 101, 97, 114]⟩ : ByteArray), (⟨#[97, 98, 111, 114, 116]⟩ : ByteArray)] : List ByteArray)) p0).bind fun v1 =>
 some v1
def FZ (_ : Nat) (p0 : Int) : Option ByteArray := O5 p0
def Fo (N : Nat) (p0 : Ad) : Option (ByteArray × Int) :=
 (E2 N p0).bind fun v1 =>
 AL ((!v1))
  (some ((⟨#[]⟩ : ByteArray), 1))
  ((Em N p0.ff).bind fun v3 =>
  (Dj (v3.size + ((⟨#[32]⟩ : ByteArray)).size ≤ 9223372036854775807)).bind fun _ =>
  (FZ N p0.fh).bind fun v5 =>
  (Dj (((v3 ++ (⟨#[32]⟩ : ByteArray))).size + v5.size ≤ 9223372036854775807)).bind fun _ =>
  Ba (fun (v7 : ByteArray) =>
   some (v7, 0))
  fun j7 =>
  AL ((p0.ff == 1))
   ((FZ N p0.fi).bind fun v9 =>
   (Dj (((⟨#[32]⟩ : ByteArray)).size + v9.size ≤ 9223372036854775807)).bind fun _ =>
   (Dj ((((v3 ++ (⟨#[32]⟩ : ByteArray)) ++ v5)).size + (((⟨#[32]⟩ : ByteArray) ++ v9)).size ≤ 9223372036854775807)).bind fun _ =>
   j7 (((v3 ++ (⟨#[32]⟩ : ByteArray)) ++ v5) ++ ((⟨#[32]⟩ : ByteArray) ++ v9)))
   (j7 ((v3 ++ (⟨#[32]⟩ : ByteArray)) ++ v5)))
def AX (N : Nat) (p0 : List Ad) (p1 : Ad) (j1 : Unit → Option Int) : Nat → Int → Option Int
 | 0, _ => none
 | n1 + 1, v1 =>
  AL ((decide (v1 < (p0.length : Int))))
   ((BD p0 v1).bind fun v4 =>
   AL (((p1.ff == v4.ff) && ((p1.fh == v4.fh) && ((p1.fi == v4.fi) && true))))
    (some v1)
    (AX N p0 p1 j1 n1 (wI .i64 (v1 + 1))))
   (j1 ())
def BM (N : Nat) (p0 : List Ad) (p1 : Ad) : Option Int :=
 AX N p0 p1 (fun (_ : Unit) =>
  some ((-1))) N 0
def Bt (N : Nat) (p0 : List Ad) (p1 : Ad) : Option Bool :=
 (BM N p0 p1).bind fun v1 =>
 some ((decide (0 ≤ v1)))
def DG (N : Nat) (p0 : List Ad) (j4 : Unit → Option Int) : Nat → Int → Option Int
 | 0, _ => none
 | n4 + 1, v4 =>
  AL ((decide (v4 < (p0.length : Int))))
   ((BD p0 v4).bind fun v7 =>
   (Fo N v7).bind fun v8 =>
   Ba (fun (v9 : Bool) =>
    AL v9
     (some 1)
     (DG N p0 j4 n4 (wI .i64 (v4 + 1))))
   fun j9 =>
   AL ((v8.2 != 0))
    (j9 true)
    (AL ((v7.ff == 4))
     (j9 true)
     ((Dj ((0 : Int) ≤ v4 ∧ 0 ≤ (v4).toNat ∧ (v4).toNat ≤ p0.length)).bind fun _ =>
     (Bt N (((p0.drop 0).take ((v4).toNat - 0))) v7).bind fun v13 =>
     j9 v13)))
   (j4 ())
def FR (N : Nat) (p0 : List Ad) : Option Int :=
 Ba (fun (v1 : Bool) =>
  AL v1
   (some 6)
   (DG N p0 (fun (_ : Unit) =>
    some 0) N 0))
 fun j1 =>
 AL ((decide ((p0.length : Int) < 1)))
  (j1 true)
  (j1 (decide (5 < (p0.length : Int))))
def Dn (N : Nat) (p0 : Ab) (p2 : List Ad) (j1 : Ac → Option (Ac × Bool)) : Nat → ((List Int) × (List Int) × (List Int) × Int) → Option (Ac × Bool)
 | 0, _ => none
 | n1 + 1, v1 =>
  AL ((decide (v1.2.2.2 < (p2.length : Int))))
   ((BD p2 v1.2.2.2).bind fun v4 =>
   (E5 N p0 ((Ac.mk v1.1 v1.2.1 v1.2.2.1)) v4).bind fun v5 =>
   AL ((v5.2 != 0))
    (some ((Ac.mk (([] : List Int)) (([] : List Int)) (([] : List Int))), false))
    ((Et N p0 v5.1).bind fun v7 =>
    Ba (fun (v8 : Bool) =>
     AL v8
      (some ((Ac.mk (([] : List Int)) (([] : List Int)) (([] : List Int))), false))
      (Dn N p0 p2 j1 n1 (v5.1.fd, v5.1.fa, v5.1.fc, (wI .i64 (v1.2.2.2 + 1)))))
    fun j8 =>
    AL ((v7.2 != 0))
     (j8 true)
     (j8 (!v7.1))))
   (j1 (Ac.mk v1.1 v1.2.1 v1.2.2.1))
def CF (N : Nat) (p0 : Ab) (p1 : Ac) (p2 : List Ad) : Option (Ac × Bool) :=
 Dn N p0 p2 (fun (v2 : Ac) =>
  some (v2, true)) N (p1.fd, p1.fa, p1.fc, 0)
def AV (_ : Nat) (p0 : List Ad) : Option ((List Ad)) :=
 (Dj ((([] : List Ad)).length + p0.length ≤ Do)).bind fun _ =>
 some ((([] : List Ad)) ++ p0)
def EE (_ : Nat) (p0 : Int) : Option Bool :=
 some ((p0 != p0))
def Ea (N : Nat) (p0 : Int) (p1 : Int) : Option Int :=
 (EE N p0).bind fun v1 =>
 (EE N p1).bind fun v2 =>
 AL v1
  (AL v2
   (some 0)
   (some ((-1))))
  (AL v2
   (some 1)
   (AL ((decide (p0 < p1)))
    (some ((-1)))
    (AL ((decide (p1 < p0)))
     (some 1)
     (some 0))))
def BN (N : Nat) (p0 : List Int) (p1 : List Int) (j1 : Unit → Option Int) : Nat → Int → Option Int
 | 0, _ => none
 | n1 + 1, v1 =>
  AL ((decide (v1 < (p0.length : Int))))
   ((BD p0 v1).bind fun v4 =>
   AL ((decide ((p1.length : Int) ≤ v1)))
    (some 1)
    ((BD p1 v1).bind fun v6 =>
    (Ea N v4 v6).bind fun v7 =>
    AL ((v7 != 0))
     (some v7)
     (BN N p0 p1 j1 n1 (wI .i64 (v1 + 1)))))
   (j1 ())
def B9 (N : Nat) (p0 : List Int) (p1 : List Int) : Option Int :=
 BN N p0 p1 (fun (_ : Unit) =>
  AL ((decide ((p0.length : Int) < (p1.length : Int))))
   (some ((-1)))
   (some 0)) N 0
def DN (_ : Nat) (p0 : Int) : Option Bool :=
 some ((p0 != p0))
def Df (N : Nat) (p0 : Int) (p1 : Int) : Option Int :=
 (DN N p0).bind fun v1 =>
 (DN N p1).bind fun v2 =>
 AL v1
  (AL v2
   (some 0)
   (some ((-1))))
  (AL v2
   (some 1)
   (AL ((decide (p0 < p1)))
    (some ((-1)))
    (AL ((decide (p1 < p0)))
     (some 1)
     (some 0))))
def Bc (N : Nat) (p0 : List Int) (p1 : List Int) (j1 : Unit → Option Int) : Nat → Int → Option Int
 | 0, _ => none
 | n1 + 1, v1 =>
  AL ((decide (v1 < (p0.length : Int))))
   ((BD p0 v1).bind fun v4 =>
   AL ((decide ((p1.length : Int) ≤ v1)))
    (some 1)
    ((BD p1 v1).bind fun v6 =>
    (Df N v4 v6).bind fun v7 =>
    AL ((v7 != 0))
     (some v7)
     (Bc N p0 p1 j1 n1 (wI .i64 (v1 + 1)))))
   (j1 ())
def BK (N : Nat) (p0 : List Int) (p1 : List Int) : Option Int :=
 Bc N p0 p1 (fun (_ : Unit) =>
  AL ((decide ((p0.length : Int) < (p1.length : Int))))
   (some ((-1)))
   (some 0)) N 0
def D9 (N : Nat) (p0 : List Int) (j1 : Unit → Option Int) : Nat → Int → Option Int
 | 0, _ => none
 | n1 + 1, v1 =>
  AL ((decide (v1 < (p0.length : Int))))
   ((BD p0 v1).bind fun v4 =>
   AL ((v4 != 0))
    (some v4)
    (D9 N p0 j1 n1 (wI .i64 (v1 + 1))))
   (j1 ())
def FU (N : Nat) (p0 : List Int) : Option Int :=
 D9 N p0 (fun (_ : Unit) =>
  some 0) N 0
def EB (N : Nat) (p0 : Ac) (p1 : Ac) : Option Int :=
 (B9 N p0.fd p1.fd).bind fun v1 =>
 (B9 N p0.fa p1.fa).bind fun v2 =>
 (BK N p0.fc p1.fc).bind fun v3 =>
 (FU N (([v1, v2, v3] : List Int))).bind fun v4 =>
 some v4
def Fi (N : Nat) (p0 : List Ad) (p1 : List Int) (p2 : List Int) (p3 : List Int) (p4 : List Av) (p5 : List Int) (p6 : List Int) (p7 : List Int) (p8 : List Int) (p9 : List Int) (p10 : List Int) (p11 : Option (List Ad)) : Option (Bool × (Option (List Ad))) :=
 (CF N ((Ab.mk p1 p2 p3 p4)) ((Ac.mk p5 p6 p7)) p0).bind fun v1 =>
 Ba (fun (v2 : Bool) =>
  AL v2
   (some (false, (some p0)))
   (some (true, p11)))
 fun j2 =>
 AL ((!v1.2))
  (j2 true)
  ((EB N v1.1 ((Ac.mk p8 p9 p10))).bind fun v4 =>
  j2 (v4 != 0))
def BH (_ : Nat) (p0 : List Ad) (p1 : Int) (p2 : Int) : Option (Nat × (List Ad)) :=
 (Dj ((0 : Int) ≤ p1 ∧ (p1).toNat ≤ (p2).toNat ∧ 0 ≤ p2 ∧ (p2).toNat ≤ ((p0.length : Int)).toNat ∧ 0 ≤ (p0.length : Int) ∧ ((p0.length : Int)).toNat ≤ p0.length)).bind fun _ =>
 AL ((p1 == p2))
  (some (p0.length, p0))
  ((Dj ((0 : Int) ≤ p1 ∧ 0 ≤ (p1).toNat ∧ (p1).toNat ≤ p0.length)).bind fun _ =>
  (Dj ((0 : Int) ≤ p2 ∧ (p2).toNat ≤ p0.length ∧ p0.length ≤ p0.length)).bind fun _ =>
  (Dj ((p1).toNat + (((p0.drop ((p2).toNat)).take ((p0.length - (p2).toNat)))).length ≤ p0.length)).bind fun _ =>
  (Dj ((0 : Int) ≤ (((((p1).toNat + (((p0.drop ((p2).toNat)).take ((p0.length - (p2).toNat)))).length)) : Nat) : Int) ∧ (0 : Int) ≤ (p0.length : Int) ∧ ((((((p1).toNat + (((p0.drop ((p2).toNat)).take ((p0.length - (p2).toNat)))).length)) : Nat) : Int)).toNat ≤ ((p0.length : Int)).toNat ∧ ((p0.length : Int)).toNat ≤ (Hi p0 (0 + ((p1).toNat)) (((p0.drop ((p2).toNat)).take ((p0.length - (p2).toNat))))).length)).bind fun _ =>
  some (((p1).toNat + (((p0.drop ((p2).toNat)).take ((p0.length - (p2).toNat)))).length), Hi (Hi p0 (0 + ((p1).toNat)) (((p0.drop ((p2).toNat)).take ((p0.length - (p2).toNat))))) (((((((p1).toNat + (((p0.drop ((p2).toNat)).take ((p0.length - (p2).toNat)))).length)) : Nat) : Int)).toNat) (List.replicate ((((p0.length : Int)).toNat - ((((((p1).toNat + (((p0.drop ((p2).toNat)).take ((p0.length - (p2).toNat)))).length)) : Nat) : Int)).toNat)) ((Ad.mk 0 0 0)))))
def CY (N : Nat) (p0 : List Ad) (p1 : List Ad) (p2 : List Int) (p3 : List Int) (p4 : List Int) (p5 : List Av) (p6 : List Int) (p7 : List Int) (p8 : List Int) (p9 : List Int) (p10 : List Int) (p11 : List Int) (rc : (List Ad) → (List Ad) → (List Int) → (List Int) → (List Int) → (List Av) → (List Int) → (List Int) → (List Int) → (List Int) → (List Int) → (List Int) → (Option (List Ad)) → Option (Bool × (Option (List Ad)))) (j3 : ((Option (List Ad))) → Option (Bool × (Option (List Ad)))) : Nat → ((Option (List Ad)) × Int) → Option (Bool × (Option (List Ad)))
 | 0, _ => none
 | n3 + 1, v3 =>
  AL ((decide (v3.2 < (p1.length : Int))))
   ((BD p1 v3.2).bind fun v6 =>
   (AV N p0).bind fun v7 =>
   (Dj (v7.length + (([v6] : List Ad)).length ≤ Do)).bind fun _ =>
   (AV N p1).bind fun v9 =>
   (BH N v9 v3.2 ((wI .i64 (v3.2 + 1)))).bind fun v10 =>
   (Dj (v10.1 ≤ v10.2.length)).bind fun _ =>
   (rc ((v7 ++ (([v6] : List Ad)))) ((v10.2.take v10.1)) p2 p3 p4 p5 p6 p7 p8 p9 p10 p11 v3.1).bind fun v13 =>
   AL ((!v13.1))
    (some (false, v13.2))
    (CY N p0 p1 p2 p3 p4 p5 p6 p7 p8 p9 p10 p11 rc j3 n3 (v13.2, (wI .i64 (v3.2 + 1)))))
   (j3 v3.1)
def Ew (N : Nat) (rc : (List Ad) → (List Ad) → (List Int) → (List Int) → (List Int) → (List Av) → (List Int) → (List Int) → (List Int) → (List Int) → (List Int) → (List Int) → (Option (List Ad)) → Option (Bool × (Option (List Ad)))) (p0 : List Ad) (p1 : List Ad) (p2 : List Int) (p3 : List Int) (p4 : List Int) (p5 : List Av) (p6 : List Int) (p7 : List Int) (p8 : List Int) (p9 : List Int) (p10 : List Int) (p11 : List Int) (p12 : Option (List Ad)) : Option (Bool × (Option (List Ad))) :=
 AL (((p1.length : Int) == 0))
  ((Fi N p0 p2 p3 p4 p5 p6 p7 p8 p9 p10 p11 p12).bind fun v2 =>
  some (v2.1, v2.2))
  (CY N p0 p1 p2 p3 p4 p5 p6 p7 p8 p9 p10 p11 rc (fun (v4 : (Option (List Ad))) =>
   some (true, v4)) N (p12, 0))
def CJ (N : Nat) : Nat → (List Ad) → (List Ad) → (List Int) → (List Int) → (List Int) → (List Av) → (List Int) → (List Int) → (List Int) → (List Int) → (List Int) → (List Int) → (Option (List Ad)) → Option (Bool × (Option (List Ad)))
 | 0, _, _, _, _, _, _, _, _, _, _, _, _, _ => none
 | k + 1, p0, p1, p2, p3, p4, p5, p6, p7, p8, p9, p10, p11, p12 => Ew N (CJ N k) p0 p1 p2 p3 p4 p5 p6 p7 p8 p9 p10 p11 p12
def GI (N : Nat) (p0 : List Ad) (p1 : List Ad) (p2 : List Int) (p3 : List Int) (p4 : List Int) (p5 : List Av) (p6 : List Int) (p7 : List Int) (p8 : List Int) (p9 : List Int) (p10 : List Int) (p11 : List Int) (p12 : Option (List Ad)) : Option (Bool × (Option (List Ad))) := CJ N N p0 p1 p2 p3 p4 p5 p6 p7 p8 p9 p10 p11 p12
def EV (N : Nat) (p0 : Ab) (p1 : Ac) (p2 : List Ad) : Option ((List Ad) × Int) :=
 (Et N p0 p1).bind fun v1 =>
 AL ((v1.2 != 0))
  (some (([] : List Ad), v1.2))
  ((FR N p2).bind fun v3 =>
  AL ((v3 != 0))
   (some (([] : List Ad), v3))
   ((CF N p0 p1 p2).bind fun v5 =>
   Ba (fun (v6 : Bool) =>
    AL v6
     ((AV N p2).bind fun v9 =>
     some (v9, 0))
     ((GI N (([] : List Ad)) p2 p0.fb p0.fm p0.fo p0.fe p1.fd p1.fa p1.fc v5.1.fd v5.1.fa v5.1.fc ((none : Option (List Ad)))).bind fun v10 =>
     (Dj (U9 v10.2 = true)).bind fun _ =>
     AL v10.2.isNone
      (some (([] : List Ad), 15))
      (some ((v10.2.getD []), 0))))
   fun j6 =>
   AL ((!v1.1))
    (j6 true)
    (j6 (!v5.2))))
def FJ (N : Nat) (p0 : Ab) (p1 : Ac) (p2 : List Ad) : Option (Bool × Int) :=
 (Ei N p0 p1).bind fun v1 =>
 AL ((v1 != 0))
  (some (false, v1))
  ((EV N p0 p1 p2).bind fun v3 =>
  some ((v3.2 == 15), 0))
def Gy (N : Nat) (p0 : Ab) (v5 : (List Int) × (List Int) × (List Int) × (List Ad) × (List (List Ad))) (j8 : Int → Option ((List (List Ad)) × Int)) : Nat → Int → Option ((List (List Ad)) × Int)
 | 0, _ => none
 | n8 + 1, v8 =>
  AL ((decide (1 < v8)))
   ((Dj ((0 : Int) ≤ v8 ∧ 0 ≤ (v8).toNat ∧ (v8).toNat ≤ v5.2.2.2.1.length)).bind fun _ =>
   (FJ N p0 ((Ac.mk v5.1 v5.2.1 v5.2.2.1)) (((v5.2.2.2.1.drop 0).take ((v8).toNat - 0)))).bind fun v12 =>
   AL v12.1
    (j8 v8)
    (Gy N p0 v5 j8 n8 (wI .i64 (v8 - 1))))
   (j8 v8)
def Gv (N : Nat) (p0 : Ab) (j5 : ((List (List Ad))) → Option ((List (List Ad)) × Int)) : Nat → ((List Int) × (List Int) × (List Int) × (List Ad) × (List (List Ad))) → Option ((List (List Ad)) × Int)
 | 0, _ => none
 | n5 + 1, v5 =>
  AL ((decide (0 < (v5.2.2.2.1.length : Int))))
   (Gy N p0 v5 (fun (v9 : Int) =>
    (Dj ((0 : Int) ≤ v9 ∧ 0 ≤ (v9).toNat ∧ (v9).toNat ≤ v5.2.2.2.1.length)).bind fun _ =>
    (AV N (((v5.2.2.2.1.drop 0).take ((v9).toNat - 0)))).bind fun v15 =>
    (Dj (v5.2.2.2.2.length + (([v15] : List (List Ad))).length ≤ Do)).bind fun _ =>
    (Dj ((0 : Int) ≤ v9 ∧ 0 ≤ (v9).toNat ∧ (v9).toNat ≤ v5.2.2.2.1.length)).bind fun _ =>
    (CF N p0 ((Ac.mk v5.1 v5.2.1 v5.2.2.1)) (((v5.2.2.2.1.drop 0).take ((v9).toNat - 0)))).bind fun v18 =>
    (Dj ((0 : Int) ≤ v9 ∧ (v9).toNat ≤ v5.2.2.2.1.length ∧ v5.2.2.2.1.length ≤ v5.2.2.2.1.length)).bind fun _ =>
    Gv N p0 j5 n5 (v18.1.fd, v18.1.fa, v18.1.fc, ((v5.2.2.2.1.drop (v9).toNat).take (v5.2.2.2.1.length - (v9).toNat)), v5.2.2.2.2 ++ (([v15] : List (List Ad))))) N (Pq 5 ((v5.2.2.2.1.length : Int))))
   (j5 v5.2.2.2.2)
def Jm (N : Nat) (p0 : Ab) (p1 : List Ad) : Option ((List (List Ad)) × Int) :=
 (Gz N p0).bind fun v1 =>
 AL ((v1.2 != 0))
  (some (([] : List (List Ad)), v1.2))
  ((Im N p0 p1).bind fun v3 =>
  AL ((!v3))
   (some (([] : List (List Ad)), 13))
   (Gv N p0 (fun (v6 : (List (List Ad))) =>
    some (v6, 0)) N (v1.1.fd, v1.1.fa, v1.1.fc, p1, ([] : List (List Ad)))))
def BV (N : Nat) (p0 : List (List Bool)) (p1 : Int) (p2 : Int) (j2 : Unit → Option Bool) : Nat → Int → Option Bool
 | 0, _ => none
 | n2 + 1, v2 =>
  AL ((decide (v2 < p1)))
   ((BD p0 v2).bind fun v5 =>
   AL (((v5.length : Int) != p2))
    (some false)
    (BV N p0 p1 p2 j2 n2 (wI .i64 (v2 + 1))))
   (j2 ())
def CS (N : Nat) (p0 : List (List Bool)) (p1 : Int) (p2 : Int) : Option Bool :=
 AL (((p0.length : Int) != p1))
  (some false)
  (BV N p0 p1 p2 (fun (_ : Unit) =>
   some true) N 0)
def BB (N : Nat) (p1 : Av) (j22 : Unit → Option Int) : Nat → Int → Option Int
 | 0, _ => none
 | n22 + 1, v22 =>
  AL ((decide (v22 < (p1.fk.length : Int))))
   ((BD p1.fk v22).bind fun v25 =>
   (BD v25 v22).bind fun v26 =>
   AL ((!v26))
    (some 1)
    (BB N p1 j22 n22 (wI .i64 (v22 + 1))))
   (j22 ())
def DP (N : Nat) (p0 : Ab) (p1 : Av) : Option Int :=
 Ba (fun (v1 : Bool) =>
  AL v1
   (some 1)
   (Ba (fun (v7 : Bool) =>
    AL v7
     (some 4)
     ((BD p0.fb p1.fg).bind fun v12 =>
     (BD p0.fb p1.fj).bind fun v13 =>
     (CS N p1.fq v12 v13).bind fun v14 =>
     AL ((!v14))
      (some 6)
      (AL ((p1.ff != 4))
       (AL (((p1.fk.length : Int) != 0))
        (some 6)
        (some 0))
       ((BD p0.fb p1.fg).bind fun v18 =>
       (BD p0.fb p1.fg).bind fun v19 =>
       (CS N p1.fk v18 v19).bind fun v20 =>
       AL ((!v20))
        (some 6)
        (BB N p1 (fun (_ : Unit) =>
         some 0) N 0)))))
   fun j7 =>
   AL ((decide (p1.fg < 0)))
    (j7 true)
    (AL ((decide ((p0.fb.length : Int) ≤ p1.fg)))
     (j7 true)
     (AL ((decide (p1.fj < 0)))
      (j7 true)
      (j7 (decide ((p0.fb.length : Int) ≤ p1.fj)))))))
 fun j1 =>
 AL ((decide (p1.ff < 1)))
  (j1 true)
  (AL ((decide (4 < p1.ff)))
   (j1 true)
   (AL p1.fp
    ((AR N p1).bind fun v5 =>
    j1 v5)
    (j1 false)))
def A2 (N : Nat) (p0 : Ab) (j7 : Unit → Option Int) : Nat → Int → Option Int
 | 0, _ => none
 | n7 + 1, v7 =>
  AL ((decide (v7 < (p0.fb.length : Int))))
   ((BD p0.fb v7).bind fun v10 =>
   Ba (fun (v11 : Bool) =>
    AL v11
     (some 7)
     (A2 N p0 j7 n7 (wI .i64 (v7 + 1))))
   fun j11 =>
   AL ((decide (v10 < 1)))
    (j11 true)
    (AL ((decide (6 < v10)))
     (j11 true)
     ((BD p0.fm v7).bind fun v14 =>
     AL ((decide (v14 < 0)))
      (j11 true)
      ((BD p0.fm v7).bind fun v16 =>
      AL ((decide (v10 ≤ v16)))
       (j11 true)
       ((BD p0.fo v7).bind fun v18 =>
       AL ((decide (v18 < 0)))
        (j11 true)
        ((BD p0.fo v7).bind fun v20 =>
        j11 (decide (v10 ≤ v20))))))))
   (j7 ())
def A0 (N : Nat) (p0 : Ab) (j22 : Unit → Option Int) : Nat → Int → Option Int
 | 0, _ => none
 | n22 + 1, v22 =>
  AL ((decide (v22 < (p0.fe.length : Int))))
   ((BD p0.fe v22).bind fun v25 =>
   (DP N p0 v25).bind fun v26 =>
   AL ((v26 != 0))
    (some v26)
    (A0 N p0 j22 n22 (wI .i64 (v22 + 1))))
   (j22 ())
def BW (N : Nat) (p0 : Ab) : Option Int :=
 Ba (fun (v1 : Bool) =>
  AL v1
   (some 3)
   (Ba (fun (v4 : Bool) =>
    AL v4
     (some 6)
     (A2 N p0 (fun (_ : Unit) =>
      A0 N p0 (fun (_ : Unit) =>
       some 0) N 0) N 0))
   fun j4 =>
   AL (((p0.fm.length : Int) != (p0.fb.length : Int)))
    (j4 true)
    (j4 ((p0.fo.length : Int) != (p0.fb.length : Int)))))
 fun j1 =>
 AL ((decide (6 < (p0.fb.length : Int))))
  (j1 true)
  (j1 (decide (12 < (p0.fe.length : Int))))
def DY (N : Nat) (p0 : Ab) (j3 : ((List Int) × (List Int)) → Option (Ac × Int)) : Nat → ((List Int) × (List Int) × Int) → Option (Ac × Int)
 | 0, _ => none
 | n3 + 1, v3 =>
  AL ((decide (v3.2.2 < (p0.fb.length : Int))))
   ((BD p0.fm v3.2.2).bind fun v6 =>
   (Dj (v3.1.length + (([v6] : List Int)).length ≤ Do)).bind fun _ =>
   (Dj (v3.2.1.length + (([(-1)] : List Int)).length ≤ Do)).bind fun _ =>
   DY N p0 j3 n3 (v3.1 ++ (([v6] : List Int)), v3.2.1 ++ (([(-1)] : List Int)), (wI .i64 (v3.2.2 + 1))))
   (j3 (v3.1, v3.2.1))
def DT (N : Nat) (p0 : Ab) (j9 : ((List Int)) → Option (Ac × Int)) : Nat → ((List Int) × Int) → Option (Ac × Int)
 | 0, _ => none
 | n9 + 1, v9 =>
  AL ((decide (v9.2 < (p0.fe.length : Int))))
   (Ba (fun (v12 : Int) =>
    (Dj (v9.1.length + (([v12] : List Int)).length ≤ Do)).bind fun _ =>
    DT N p0 j9 n9 (v9.1 ++ (([v12] : List Int)), (wI .i64 (v9.2 + 1))))
   fun j12 =>
   (BD p0.fe v9.2).bind fun v13 =>
   (AR N v13).bind fun v14 =>
   AL v14
    ((BD p0.fe v9.2).bind fun v16 =>
    (BD p0.fm v16.fg).bind fun v17 =>
    (Dj (0 ≤ v17)).bind fun _ =>
    j12 (C8 .u8 1 v17))
    (j12 0))
   (j9 v9.1)
def Fs (N : Nat) (p0 : Ab) : Option (Ac × Int) :=
 (BW N p0).bind fun v1 =>
 AL ((v1 != 0))
  (some ((Ac.mk (([] : List Int)) (([] : List Int)) (([] : List Int))), v1))
  (DY N p0 (fun (v4 : (List Int) × (List Int)) =>
   DT N p0 (fun (v10 : (List Int)) =>
    some ((Ac.mk v4.1 v4.2 v10), 0)) N (([] : List Int), 0)) N (([] : List Int), ([] : List Int), 0))
def Fc (N : Nat) (p0 : Ab) (p1 : List (List Ad)) (j5 : ((List Ac)) → Option ((List Ac) × Int)) : Nat → (Ac × (List Ac) × Int) → Option ((List Ac) × Int)
 | 0, _ => none
 | n5 + 1, v5 =>
  AL ((decide (v5.2.2 < (p1.length : Int))))
   ((BD p1 v5.2.2).bind fun v8 =>
   (FJ N p0 v5.1 v8).bind fun v9 =>
   Ba (fun (v10 : Bool) =>
    AL v10
     (some (([] : List Ac), 13))
     ((CF N p0 v5.1 v8).bind fun v13 =>
     (Dj (v5.2.1.length + (([v13.1] : List Ac)).length ≤ Do)).bind fun _ =>
     Fc N p0 p1 j5 n5 (v13.1, v5.2.1 ++ (([v13.1] : List Ac)), (wI .i64 (v5.2.2 + 1)))))
   fun j10 =>
   AL ((v9.2 != 0))
    (j10 true)
    (j10 (!v9.1)))
   (j5 v5.2.1)
def GG (N : Nat) (p0 : Ab) (p1 : List (List Ad)) : Option ((List Ac) × Int) :=
 (Cg N p0).bind fun v1 =>
 AL ((v1 != 0))
  (some (([] : List Ac), v1))
  ((Gz N p0).bind fun v3 =>
  AL ((v3.2 != 0))
   (some (([] : List Ac), v3.2))
   (Fc N p0 p1 (fun (v6 : (List Ac)) =>
    some (v6, 0)) N (v3.1, ([v3.1] : List Ac), 0)))
def Ca (N : Nat) (p0 : List Ad) (p1 : List Ad) (j2 : Unit → Option Bool) : Nat → Int → Option Bool
 | 0, _ => none
 | n2 + 1, v2 =>
  AL ((decide (v2 < (p0.length : Int))))
   ((BD p0 v2).bind fun v5 =>
   (BD p1 v2).bind fun v6 =>
   AL ((!((v5.ff == v6.ff) && ((v5.fh == v6.fh) && ((v5.fi == v6.fi) && true)))))
    (some false)
    (Ca N p0 p1 j2 n2 (wI .i64 (v2 + 1))))
   (j2 ())
def CL (N : Nat) (p0 : List Ad) (p1 : List Ad) : Option Bool :=
 AL (((p0.length : Int) != (p1.length : Int)))
  (some false)
  (Ca N p0 p1 (fun (_ : Unit) =>
   some true) N 0)
def D6 (N : Nat) (p0 : List (List Ad)) (p1 : List (List Ad)) (j2 : Unit → Option Bool) : Nat → Int → Option Bool
 | 0, _ => none
 | n2 + 1, v2 =>
  AL ((decide (v2 < (p0.length : Int))))
   ((BD p0 v2).bind fun v5 =>
   (BD p1 v2).bind fun v6 =>
   (CL N v5 v6).bind fun v7 =>
   AL ((!v7))
    (some false)
    (D6 N p0 p1 j2 n2 (wI .i64 (v2 + 1))))
   (j2 ())
def FD (N : Nat) (p0 : List (List Ad)) (p1 : List (List Ad)) : Option Bool :=
 AL (((p0.length : Int) != (p1.length : Int)))
  (some false)
  (D6 N p0 p1 (fun (_ : Unit) =>
   some true) N 0)
def HV (N : Nat) (p0 : Ab) (p1 : List (List Ad)) : Option Bool :=
 (GG N p0 p1).bind fun v1 =>
 AL ((v1.2 != 0))
  (some false)
  ((BD v1.1 0).bind fun v3 =>
  (Et N p0 v3).bind fun v4 =>
  Ba (fun (v5 : Bool) =>
   some v5)
  fun j5 =>
  AL ((v4.2 == 0))
   (AL v4.1
    ((BD v1.1 ((wI .i64 ((v1.1.length : Int) - 1)))).bind fun v8 =>
    (H6 N p0 v8).bind fun v9 =>
    j5 v9)
    (j5 false))
   (j5 false))
def ET (N : Nat) (v4 : List Ad) (j5 : Int → Option Int) : Nat → (Int × Int) → Option Int
 | 0, _ => none
 | n5 + 1, v5 =>
  AL ((decide (v5.2 < (v4.length : Int))))
   (ET N v4 j5 n5 ((Pq 1000000000000000 ((wI .i64 (v5.1 * (Pq ((wI .i64 (v5.2 + 1))) 1000))))), (wI .i64 (v5.2 + 1))))
   (j5 v5.1)
def EX (N : Nat) (p0 : List (List Ad)) (j1 : Int → Option Int) : Nat → (Int × Int) → Option Int
 | 0, _ => none
 | n1 + 1, v1 =>
  AL ((decide (v1.2 < (p0.length : Int))))
   ((BD p0 v1.2).bind fun v4 =>
   ET N v4 (fun (v6 : Int) =>
    EX N p0 j1 n1 (v6, (wI .i64 (v1.2 + 1)))) N (v1.1, 0))
   (j1 v1.1)
def Hk (N : Nat) (p0 : List (List Ad)) : Option Int :=
 EX N p0 (fun (v2 : Int) =>
  some v2) N (1, 0)
def DR (N : Nat) : Option Bool :=
 (EO N).bind fun v1 =>
 (Jm N v1.1 v1.2).bind fun v2 =>
 (Fs N v1.1).bind fun v3 =>
 (EV N v1.1 v3.1 v1.2).bind fun v4 =>
 (Dj ((0 : Int) ≤ 2 ∧ 0 ≤ (2 : Int).toNat ∧ (2 : Int).toNat ≤ v1.2.length)).bind fun _ =>
 (FJ N v1.1 v3.1 (((v1.2.drop 0).take ((2 : Int).toNat - 0)))).bind fun v6 =>
 (GG N v1.1 v2.1).bind fun v7 =>
 Ba (fun (v8 : Bool) =>
  some v8)
 fun j8 =>
 AL ((v2.2 == 0))
  ((Dj ((0 : Int) ≤ 2 ∧ 0 ≤ (2 : Int).toNat ∧ (2 : Int).toNat ≤ v1.2.length)).bind fun _ =>
  (Dj ((0 : Int) ≤ 2 ∧ (2 : Int).toNat ≤ v1.2.length ∧ v1.2.length ≤ v1.2.length)).bind fun _ =>
  (FD N v2.1 (([((v1.2.drop 0).take ((2 : Int).toNat - 0)), ((v1.2.drop (2 : Int).toNat).take (v1.2.length - (2 : Int).toNat))] : List (List Ad)))).bind fun v12 =>
  AL v12
   (AL ((v4.2 == 0))
    ((BD v1.2 0).bind fun v15 =>
    (BD v1.2 2).bind fun v16 =>
    (BD v1.2 3).bind fun v17 =>
    (BD v1.2 1).bind fun v18 =>
    (CL N v4.1 (([v15, v16, v17, v18] : List Ad))).bind fun v19 =>
    AL v19
     (AL v6.1
      (AL ((v6.2 == 0))
       (AL ((v7.2 == 0))
        (AL (((v7.1.length : Int) == 3))
         ((HV N v1.1 v2.1).bind fun v25 =>
         AL v25
          ((Hk N v2.1).bind fun v27 =>
          j8 (v27 == 4))
          (j8 false))
         (j8 false))
        (j8 false))
       (j8 false))
      (j8 false))
     (j8 false))
    (j8 false))
   (j8 false))
  (j8 false)
def CH (_ : Nat) (p0 : List Int) (p1 : Int) : Option Int :=
 AL ((decide (p1 < (p0.length : Int))))
  ((BD p0 p1).bind fun v2 =>
  some ((wI .i64 v2)))
  (some 0)
def Bl (_ : Nat) (p0 : Ac) (p1 : Int) : Option Int :=
 (BD p0.fd p1).bind fun v1 =>
 (Dj (0 ≤ v1)).bind fun _ =>
 Ba (fun (v3 : Int) =>
  some v3)
 fun j3 =>
 (BD p0.fa p1).bind fun v4 =>
 AL ((decide (0 ≤ v4)))
  ((BD p0.fa p1).bind fun v6 =>
  (Dj (0 ≤ v6)).bind fun _ =>
  j3 (KW .u8 ((C8 .u8 1 v1)) ((C8 .u8 1 v6))))
  (j3 (C8 .u8 1 v1))
def B5 (N : Nat) (p0 : Ab) (p1 : Bj) (j1 : ((List Int) × (List Int)) → Option Ac) : Nat → ((List Int) × (List Int) × Int) → Option Ac
 | 0, _ => none
 | n1 + 1, v1 =>
  AL ((decide (v1.2.2 < (p0.fb.length : Int))))
   ((BD p0.fb v1.2.2).bind fun v4 =>
   (CH N p1.fd v1.2.2).bind fun v5 =>
   (Dj (v4 ≠ 0)).bind fun _ =>
   Ba (fun (v7 : Int) =>
    (Dj (v1.1.length + (([(Int.tmod v5 v4)] : List Int)).length ≤ Do)).bind fun _ =>
    (Dj (v1.2.1.length + (([v7] : List Int)).length ≤ Do)).bind fun _ =>
    B5 N p0 p1 j1 n1 (v1.1 ++ (([(Int.tmod v5 v4)] : List Int)), v1.2.1 ++ (([v7] : List Int)), (wI .i64 (v1.2.2 + 1))))
   fun j7 =>
   (CH N p1.fa v1.2.2).bind fun v8 =>
   (Dj (v4 ≠ 0)).bind fun _ =>
   AL ((decide (0 < (Int.tmod v8 v4))))
    ((Dj (v4 ≠ 0)).bind fun _ =>
    j7 (Int.tmod ((wI .i64 ((Int.tmod v5 v4) + (Int.tmod v8 v4)))) v4))
    (j7 (-1)))
   (j1 (v1.1, v1.2.1))
def A5 (N : Nat) (p0 : Ab) (p1 : Bj) (v2 : (List Int) × (List Int)) (j14 : ((List Int)) → Option Ac) : Nat → ((List Int) × Int) → Option Ac
 | 0, _ => none
 | n14 + 1, v14 =>
  AL ((decide (v14.2 < (p0.fe.length : Int))))
   ((BD p0.fe v14.2).bind fun v17 =>
   Ba (fun (v18 : Int) =>
    (Dj (v14.1.length + (([v18] : List Int)).length ≤ Do)).bind fun _ =>
    A5 N p0 p1 v2 j14 n14 (v14.1 ++ (([v18] : List Int)), (wI .i64 (v14.2 + 1))))
   fun j18 =>
   (AR N v17).bind fun v19 =>
   AL v19
    ((BD p0.fb v17.fg).bind fun v21 =>
    (Dj (0 ≤ v21)).bind fun _ =>
    (Bl N ((Ac.mk v2.1 v2.2 v14.1)) v17.fg).bind fun v23 =>
    (CH N p1.fc v14.2).bind fun v24 =>
    j18 (KW .u8 v23 ((EM .u8 ((wI .u8 v24)) ((wI .u8 ((C8 .u8 1 v21) - 1)))))))
    (j18 0))
   (j14 v14.1)
def DU (N : Nat) (p0 : Ab) (p1 : Bj) : Option Ac :=
 B5 N p0 p1 (fun (v2 : (List Int) × (List Int)) =>
  A5 N p0 p1 v2 (fun (v15 : (List Int)) =>
   some ((Ac.mk v2.1 v2.2 v15))) N (([] : List Int), 0)) N (([] : List Int), ([] : List Int), 0)
def BJ (N : Nat) (p0 : Ab) (p1 : Ac) (j7 : Unit → Option Int) : Nat → Int → Option Int
 | 0, _ => none
 | n7 + 1, v7 =>
  AL ((decide (v7 < (p0.fb.length : Int))))
   (Ba (fun (v10 : Bool) =>
    AL v10
     (some 7)
     ((BD p1.fd v7).bind fun v21 =>
     (BD p1.fa v7).bind fun v22 =>
     AL ((v21 == v22))
      (some 1)
      (BJ N p0 p1 j7 n7 (wI .i64 (v7 + 1)))))
   fun j10 =>
   (BD p1.fd v7).bind fun v11 =>
   AL ((decide (v11 < 0)))
    (j10 true)
    ((BD p1.fd v7).bind fun v13 =>
    (BD p0.fb v7).bind fun v14 =>
    AL ((decide (v14 ≤ v13)))
     (j10 true)
     ((BD p1.fa v7).bind fun v16 =>
     AL ((decide (v16 < (-1))))
      (j10 true)
      ((BD p1.fa v7).bind fun v18 =>
      (BD p0.fb v7).bind fun v19 =>
      j10 (decide (v19 ≤ v18))))))
   (j7 ())
def BC (N : Nat) (p0 : Ab) (p1 : Ac) (j24 : Unit → Option Int) : Nat → Int → Option Int
 | 0, _ => none
 | n24 + 1, v24 =>
  AL ((decide (v24 < (p0.fe.length : Int))))
   ((BD p0.fe v24).bind fun v27 =>
   (BD p0.fb v27.fg).bind fun v28 =>
   (Dj (0 ≤ v28)).bind fun _ =>
   Ba (fun (v30 : Bool) =>
    AL v30
     (some 1)
     (BC N p0 p1 j24 n24 (wI .i64 (v24 + 1))))
   fun j30 =>
   (AR N v27).bind fun v31 =>
   AL ((!v31))
    ((BD p1.fc v24).bind fun v33 =>
    AL ((v33 != 0))
     (j30 true)
     ((AR N v27).bind fun v35 =>
     AL v35
      ((BD p1.fc v24).bind fun v37 =>
      AL (((CC .u8 v37 ((wI .u8 ((C8 .u8 1 v28) - 1)))) != 0))
       (j30 true)
       ((Bl N p1 v27.fg).bind fun v39 =>
       (BD p1.fc v24).bind fun v40 =>
       j30 ((CC .u8 v39 v40) != 0)))
      (j30 false)))
    ((AR N v27).bind fun v41 =>
    AL v41
     ((BD p1.fc v24).bind fun v43 =>
     AL (((CC .u8 v43 ((wI .u8 ((C8 .u8 1 v28) - 1)))) != 0))
      (j30 true)
      ((Bl N p1 v27.fg).bind fun v45 =>
      (BD p1.fc v24).bind fun v46 =>
      j30 ((CC .u8 v45 v46) != 0)))
     (j30 false)))
   (j24 ())
def C2 (N : Nat) (p0 : Ab) (p1 : Ac) : Option Int :=
 (BW N p0).bind fun v1 =>
 AL ((v1 != 0))
  (some v1)
  (Ba (fun (v3 : Bool) =>
   AL v3
    (some 6)
    (BJ N p0 p1 (fun (_ : Unit) =>
     BC N p0 p1 (fun (_ : Unit) =>
      some 0) N 0) N 0))
  fun j3 =>
  AL (((p1.fd.length : Int) != (p0.fb.length : Int)))
   (j3 true)
   (AL (((p1.fa.length : Int) != (p0.fb.length : Int)))
    (j3 true)
    (j3 ((p1.fc.length : Int) != (p0.fe.length : Int)))))
def C3 (_ : Nat) (p0 : Ad) : Option Bool :=
 Ba (fun (v1 : Bool) =>
  some v1)
 fun j1 =>
 AL ((decide (1 ≤ p0.ff)))
  (AL ((decide (p0.ff ≤ 4)))
   (AL ((decide (0 ≤ p0.fh)))
    (AL ((decide (0 ≤ p0.fi)))
     (AL ((p0.ff == 1))
      (j1 true)
      (j1 (p0.fi == 0)))
     (j1 false))
    (j1 false))
   (j1 false))
  (j1 false)
def Cs (N : Nat) (p0 : List Ad) (v4 : Int) (j13 : Unit → Option Int) : Nat → Int → Option Int
 | 0, _ => none
 | n13 + 1, v13 =>
  AL ((decide (v13 < v4)))
   ((BD p0 v13).bind fun v16 =>
   (BD p0 v4).bind fun v17 =>
   AL (((v16.ff == v17.ff) && ((v16.fh == v17.fh) && ((v16.fi == v17.fi) && true))))
    (some 1)
    (Cs N p0 v4 j13 n13 (wI .i64 (v13 + 1))))
   (j13 ())
def BR (N : Nat) (p0 : List Ad) (j4 : Unit → Option Int) : Nat → Int → Option Int
 | 0, _ => none
 | n4 + 1, v4 =>
  AL ((decide (v4 < (p0.length : Int))))
   (Ba (fun (v7 : Bool) =>
    AL v7
     (some 1)
     (Cs N p0 v4 (fun (_ : Unit) =>
      BR N p0 j4 n4 (wI .i64 (v4 + 1))) N 0))
   fun j7 =>
   (BD p0 v4).bind fun v8 =>
   AL ((v8.ff == 4))
    (j7 true)
    ((BD p0 v4).bind fun v10 =>
    (C3 N v10).bind fun v11 =>
    j7 (!v11)))
   (j4 ())
def D5 (N : Nat) (p0 : List Ad) : Option Int :=
 Ba (fun (v1 : Bool) =>
  AL v1
   (some 6)
   (BR N p0 (fun (_ : Unit) =>
    some 0) N 0))
 fun j1 =>
 AL ((decide ((p0.length : Int) < 1)))
  (j1 true)
  (j1 (decide (5 < (p0.length : Int))))
def DA (_ : Nat) (p0 : Ac) : Option Ac :=
 (Dj ((([] : List Int)).length + p0.fd.length ≤ Do)).bind fun _ =>
 (Dj ((([] : List Int)).length + p0.fa.length ≤ Do)).bind fun _ =>
 (Dj ((([] : List Int)).length + p0.fc.length ≤ Do)).bind fun _ =>
 some ((Ac.mk ((([] : List Int)) ++ p0.fd) ((([] : List Int)) ++ p0.fa) ((([] : List Int)) ++ p0.fc)))
def BY (N : Nat) (p0 : Ac) (j1 : Int → Option ((List Ac))) : Nat → (Int × Int) → Option ((List Ac))
 | 0, _ => none
 | n1 + 1, v1 =>
  AL ((decide (v1.2 < (p0.fa.length : Int))))
   (Ba (fun (v4 : Int) =>
    BY N p0 j1 n1 (v4, (wI .i64 (v1.2 + 1))))
   fun j4 =>
   (BD p0.fa v1.2).bind fun v5 =>
   AL ((decide (0 ≤ v5)))
    (j4 (wI .i64 (v1.1 + 1)))
    (j4 v1.1))
   (j1 v1.1)
def Bv (N : Nat) (p0 : Ac) (v7 : (List Ac) × Int) (j12 : ((List Int)) → Option ((List Ac))) : Nat → ((List Int) × Int × Int) → Option ((List Ac))
 | 0, _ => none
 | n12 + 1, v12 =>
  AL ((decide (v12.2.2 < (p0.fa.length : Int))))
   (Ba (fun (v15 : (List Int) × Int) =>
    Bv N p0 v7 j12 n12 (v15.1, v15.2, (wI .i64 (v12.2.2 + 1))))
   fun j15 =>
   (BD p0.fa v12.2.2).bind fun v16 =>
   AL ((decide (v16 < 0)))
    (j15 (v12.1, v12.2.1))
    (Ba (fun (v18 : (List Int)) =>
     j15 (v18, (wI .i64 (v12.2.1 + 1))))
    fun j18 =>
    (Dj (0 ≤ v12.2.1)).bind fun _ =>
    AL (((Int.tmod ((EL .i64 v7.2 v12.2.1)) 2) == 1))
     ((BD v12.1 v12.2.2).bind fun _ =>
     j18 (v12.1.set ((v12.2.2).toNat) ((-1))))
     (j18 v12.1)))
   (j12 v12.1)
def Bi (N : Nat) (p0 : Ac) (v2 : Int) (j7 : ((List Ac)) → Option ((List Ac))) : Nat → ((List Ac) × Int) → Option ((List Ac))
 | 0, _ => none
 | n7 + 1, v7 =>
  (Dj (0 ≤ v2)).bind fun _ =>
  AL ((decide (v7.2 < (C8 .i64 1 v2))))
   ((DA N p0).bind fun v11 =>
   Bv N p0 v7 (fun (v13 : (List Int)) =>
    (Dj (v7.1.length + (([(Ac.mk v11.fd v13 v11.fc)] : List Ac)).length ≤ Do)).bind fun _ =>
    Bi N p0 v2 j7 n7 (v7.1 ++ (([(Ac.mk v11.fd v13 v11.fc)] : List Ac)), (wI .i64 (v7.2 + 1)))) N (v11.fa, 0, 0))
   (j7 v7.1)
def DF (N : Nat) (p0 : Ac) : Option ((List Ac)) :=
 BY N p0 (fun (v2 : Int) =>
  Bi N p0 v2 (fun (v8 : (List Ac)) =>
   some v8) N (([] : List Ac), 0)) N (0, 0)
def BU (_ : Nat) (p0 : Int) (p1 : Int) : Option Bool :=
 (Dj (0 ≤ p1)).bind fun _ =>
 some (((EM .u8 ((EL .u8 p0 p1)) 1) == 1))
def A9 (N : Nat) (p0 : Ab) (p1 : Ac) (v1 : (List Aj) × Int) (v4 : Av) (v10 : (List Aj) × Int) (j17 : ((List Aj) × Bool) → Option ((List Aj))) : Nat → ((List Aj) × Bool × Int) → Option ((List Aj))
 | 0, _ => none
 | n17 + 1, v17 =>
  (BD p0.fb v4.fj).bind fun v19 =>
  AL ((decide (v17.2.2 < v19)))
   (Ba (fun (v21 : (List Aj) × Bool) =>
    A9 N p0 p1 v1 v4 v10 j17 n17 (v21.1, v21.2, (wI .i64 (v17.2.2 + 1))))
   fun j21 =>
   (Bl N p1 v4.fj).bind fun v22 =>
   (BU N v22 v17.2.2).bind fun v23 =>
   AL ((!v23))
    (j21 (v17.1, v17.2.1))
    (Ba (fun (v25 : Bool) =>
     Ba (fun (v29 : Bool) =>
      AL v29
       ((Dj (v17.1.length + (([(Aj.mk v1.2 v10.2 v17.2.2)] : List Aj)).length ≤ Do)).bind fun _ =>
       j21 (v17.1 ++ (([(Aj.mk v1.2 v10.2 v17.2.2)] : List Aj)), v25))
       (j21 (v17.1, v25)))
     fun j29 =>
     AL ((!v4.fp))
      ((BD v4.fq v10.2).bind fun v31 =>
      (BD v31 v17.2.2).bind fun v32 =>
      j29 (!v32))
      (j29 false))
    fun j25 =>
    AL v17.2.1
     (j25 true)
     ((BD v4.fq v10.2).bind fun v27 =>
     (BD v27 v17.2.2).bind fun v28 =>
     j25 v28)))
   (j17 (v17.1, v17.2.1))
def Bn (N : Nat) (p0 : Ab) (p1 : Ac) (v1 : (List Aj) × Int) (v4 : Av) (v6 : Int) (j10 : ((List Aj)) → Option ((List Aj))) : Nat → ((List Aj) × Int) → Option ((List Aj))
 | 0, _ => none
 | n10 + 1, v10 =>
  (BD p0.fb v4.fg).bind fun v12 =>
  AL ((decide (v10.2 < v12)))
   (Ba (fun (v14 : (List Aj)) =>
    Bn N p0 p1 v1 v4 v6 j10 n10 (v14, (wI .i64 (v10.2 + 1))))
   fun j14 =>
   (BU N v6 v10.2).bind fun v15 =>
   AL ((!v15))
    (j14 v10.1)
    (A9 N p0 p1 v1 v4 v10 (fun (v18 : (List Aj) × Bool) =>
     Ba (fun (v35 : Bool) =>
      AL v35
       ((Dj (v18.1.length + (([(Aj.mk v1.2 v10.2 ((-1)))] : List Aj)).length ≤ Do)).bind fun _ =>
       j14 (v18.1 ++ (([(Aj.mk v1.2 v10.2 ((-1)))] : List Aj))))
       (j14 v18.1))
     fun j35 =>
     AL v4.fp
      (j35 (!v18.2))
      (j35 false)) N (v10.1, false, 0)))
   (j10 v10.1)
def B0 (N : Nat) (p0 : Ab) (p1 : Ac) (j1 : ((List Aj)) → Option ((List Aj))) : Nat → ((List Aj) × Int) → Option ((List Aj))
 | 0, _ => none
 | n1 + 1, v1 =>
  AL ((decide (v1.2 < (p0.fe.length : Int))))
   ((BD p0.fe v1.2).bind fun v4 =>
   (Bl N p1 v4.fg).bind fun v5 =>
   Ba (fun (v6 : Int) =>
    Bn N p0 p1 v1 v4 v6 (fun (v11 : (List Aj)) =>
     B0 N p0 p1 j1 n1 (v11, (wI .i64 (v1.2 + 1)))) N (v1.1, 0))
   fun j6 =>
   (AR N v4).bind fun v7 =>
   AL v7
    ((BD p1.fc v1.2).bind fun v9 =>
    j6 v9)
    (j6 v5))
   (j1 v1.1)
def DO (N : Nat) (p0 : Ab) (p1 : Ac) : Option ((List Aj)) :=
 B0 N p0 p1 (fun (v2 : (List Aj)) =>
  some v2) N (([] : List Aj), 0)
def Dz (N : Nat) (p0 : Ab) (p1 : Ac) : Option Bool :=
 (DO N p0 p1).bind fun v1 =>
 some (((v1.length : Int) == 0))
def BG (N : Nat) (p0 : Ab) (v1 : (List Ac)) (j2 : Unit → Option Bool) : Nat → Int → Option Bool
 | 0, _ => none
 | n2 + 1, v2 =>
  AL ((decide (v2 < (v1.length : Int))))
   ((BD v1 v2).bind fun v5 =>
   (Dz N p0 v5).bind fun v6 =>
   AL ((!v6))
    (some false)
    (BG N p0 v1 j2 n2 (wI .i64 (v2 + 1))))
   (j2 ())
def Cq (N : Nat) (p0 : Ab) (p1 : Ac) : Option Bool :=
 (DF N p1).bind fun v1 =>
 BG N p0 v1 (fun (_ : Unit) =>
  some true) N 0
def Dy (N : Nat) (v1 : (List (List Int)) × Int) (v4 : (List (List Int)) × Int) (v7 : (List (List Int)) × Int) (j11 : Bool → Option ((List (List Int)))) : Nat → (Bool × Int) → Option ((List (List Int)))
 | 0, _ => none
 | n11 + 1, v11 =>
  (BD v1.1 v4.2).bind fun v13 =>
  AL ((decide (v11.2 < (v13.length : Int))))
   (Ba (fun (v15 : Bool) =>
    Dy N v1 v4 v7 j11 n11 (v15, (wI .i64 (v11.2 + 1))))
   fun j15 =>
   AL v11.1
    (j15 true)
    ((BD v1.1 v4.2).bind fun v17 =>
    (BD v17 v11.2).bind fun v18 =>
    j15 (v18 == v7.2)))
   (j11 v11.1)
def DL (N : Nat) (p0 : Int) (v1 : (List (List Int)) × Int) (v4 : (List (List Int)) × Int) (j7 : ((List (List Int))) → Option ((List (List Int)))) : Nat → ((List (List Int)) × Int) → Option ((List (List Int)))
 | 0, _ => none
 | n7 + 1, v7 =>
  AL ((decide (v7.2 < p0)))
   (Ba (fun (v10 : (List (List Int))) =>
    DL N p0 v1 v4 j7 n7 (v10, (wI .i64 (v7.2 + 1))))
   fun j10 =>
   Dy N v1 v4 v7 (fun (v12 : Bool) =>
    AL ((!v12))
     ((BD v1.1 v4.2).bind fun v20 =>
     (Dj ((([] : List Int)).length + v20.length ≤ Do)).bind fun _ =>
     (Dj (((([] : List Int)) ++ v20).length + (([v7.2] : List Int)).length ≤ Do)).bind fun _ =>
     (Dj (v7.1.length + (([((([] : List Int)) ++ v20) ++ (([v7.2] : List Int))] : List (List Int))).length ≤ Do)).bind fun _ =>
     j10 (v7.1 ++ (([((([] : List Int)) ++ v20) ++ (([v7.2] : List Int))] : List (List Int)))))
     (j10 v7.1)) N (false, 0))
   (j7 v7.1)
def DK (N : Nat) (p0 : Int) (v1 : (List (List Int)) × Int) (j4 : ((List (List Int))) → Option ((List (List Int)))) : Nat → ((List (List Int)) × Int) → Option ((List (List Int)))
 | 0, _ => none
 | n4 + 1, v4 =>
  AL ((decide (v4.2 < (v1.1.length : Int))))
   (DL N p0 v1 v4 (fun (v8 : (List (List Int))) =>
    DK N p0 v1 j4 n4 (v8, (wI .i64 (v4.2 + 1)))) N (v4.1, 0))
   (j4 v4.1)
def DM (N : Nat) (p0 : Int) (j1 : ((List (List Int))) → Option ((List (List Int)))) : Nat → ((List (List Int)) × Int) → Option ((List (List Int)))
 | 0, _ => none
 | n1 + 1, v1 =>
  AL ((decide (v1.2 < p0)))
   (DK N p0 v1 (fun (v5 : (List (List Int))) =>
    DM N p0 j1 n1 (v5, (wI .i64 (v1.2 + 1)))) N (([] : List (List Int)), 0))
   (j1 v1.1)
def DB (N : Nat) (p0 : Int) : Option ((List (List Int))) :=
 DM N p0 (fun (v2 : (List (List Int))) =>
  some v2) N (([([] : List Int)] : List (List Int)), 0)
def Bx (N : Nat) (p0 : Ab) (p2 : Ad) (j12 : ((List Int)) → Option (Ac × Bool)) : Nat → ((List Int) × Int) → Option (Ac × Bool)
 | 0, _ => none
 | n12 + 1, v12 =>
  AL ((decide (v12.2 < (p0.fe.length : Int))))
   (Ba (fun (v15 : (List Int)) =>
    Bx N p0 p2 j12 n12 (v15, (wI .i64 (v12.2 + 1))))
   fun j15 =>
   Ba (fun (v16 : Bool) =>
    AL v16
     ((BD v12.1 v12.2).bind fun v22 =>
     (Dj (0 ≤ p2.fi)).bind fun _ =>
     (BD v12.1 v12.2).bind fun _ =>
     j15 (v12.1.set ((v12.2).toNat) ((KW .u8 v22 ((C8 .u8 1 p2.fi))))))
     (j15 v12.1))
   fun j16 =>
   (BD p0.fe v12.2).bind fun v17 =>
   AL ((v17.fg == p2.fh))
    ((BD p0.fe v12.2).bind fun v19 =>
    (AR N v19).bind fun v20 =>
    j16 v20)
    (j16 false))
   (j12 v12.1)
def Bm (N : Nat) (p0 : Ab) (p1 : Ac) (p2 : Ad) (v32 : Av) (v35 : Int) (j38 : Unit → Option (Ac × Bool)) : Nat → Int → Option (Ac × Bool)
 | 0, _ => none
 | n38 + 1, v38 =>
  (BD p0.fb v32.fg).bind fun v40 =>
  AL ((decide (v38 < v40)))
   (Ba (fun (v42 : Bool) =>
    Ba (fun (v47 : Bool) =>
     AL v47
      (some ((Ac.mk (([] : List Int)) (([] : List Int)) (([] : List Int))), false))
      (Bm N p0 p1 p2 v32 v35 j38 n38 (wI .i64 (v38 + 1))))
    fun j47 =>
    AL v42
     (AL ((v32.ff == 4))
      ((BD v32.fk v38).bind fun v50 =>
      (BD p1.fd v32.fg).bind fun v51 =>
      (BD v50 v51).bind fun v52 =>
      j47 (!v52))
      (j47 false))
     (j47 false))
   fun j42 =>
   (BD p1.fc p2.fh).bind fun v43 =>
   (BU N v43 v38).bind fun v44 =>
   AL v44
    ((BU N v35 v38).bind fun v46 =>
    j42 (!v46))
    (j42 false))
   (j38 ())
def C0 (N : Nat) (p0 : Ab) (p1 : Ac) (p2 : Ad) : Option (Ac × Bool) :=
 (Dj ((([] : List Int)).length + p1.fd.length ≤ Do)).bind fun _ =>
 (Dj ((([] : List Int)).length + p1.fa.length ≤ Do)).bind fun _ =>
 (Dj ((([] : List Int)).length + p1.fc.length ≤ Do)).bind fun _ =>
 Ba (fun (v4 : (List Int) × (List Int) × (List Int)) =>
  some ((Ac.mk v4.1 v4.2.1 v4.2.2), true))
 fun j4 =>
 AL ((p2.ff == 1))
  (Ba (fun (v6 : Bool) =>
   AL v6
    (some ((Ac.mk (([] : List Int)) (([] : List Int)) (([] : List Int))), false))
    ((BD ((([] : List Int)) ++ p1.fa) p2.fh).bind fun _ =>
    Bx N p0 p2 (fun (v13 : (List Int)) =>
     j4 ((([] : List Int)) ++ p1.fd, ((([] : List Int)) ++ p1.fa).set ((p2.fh).toNat) p2.fi, v13)) N ((([] : List Int)) ++ p1.fc, 0)))
  fun j6 =>
  (BD p1.fa p2.fh).bind fun v7 =>
  AL ((decide (0 ≤ v7)))
   (j6 true)
   ((BD p1.fd p2.fh).bind fun v9 =>
   j6 (p2.fi == v9)))
  (AL ((p2.ff == 2))
   ((BD p1.fa p2.fh).bind fun v26 =>
   AL ((decide (v26 < 0)))
    (some ((Ac.mk (([] : List Int)) (([] : List Int)) (([] : List Int))), false))
    ((BD p1.fa p2.fh).bind fun v28 =>
    (BD ((([] : List Int)) ++ p1.fd) p2.fh).bind fun _ =>
    (BD ((([] : List Int)) ++ p1.fa) p2.fh).bind fun _ =>
    j4 (((([] : List Int)) ++ p1.fd).set ((p2.fh).toNat) v28, ((([] : List Int)) ++ p1.fa).set ((p2.fh).toNat) ((-1)), (([] : List Int)) ++ p1.fc)))
   (AL ((p2.ff == 3))
    ((BD p0.fe p2.fh).bind fun v32 =>
    (AR N v32).bind fun v33 =>
    AL ((!v33))
     (some ((Ac.mk (([] : List Int)) (([] : List Int)) (([] : List Int))), false))
     ((Bl N p1 v32.fg).bind fun v35 =>
     (BD p1.fc p2.fh).bind fun v36 =>
     AL ((v36 == v35))
      (some ((Ac.mk (([] : List Int)) (([] : List Int)) (([] : List Int))), false))
      (Bm N p0 p1 p2 v32 v35 (fun (_ : Unit) =>
       (BD ((([] : List Int)) ++ p1.fc) p2.fh).bind fun _ =>
       j4 ((([] : List Int)) ++ p1.fd, (([] : List Int)) ++ p1.fa, ((([] : List Int)) ++ p1.fc).set ((p2.fh).toNat) v35)) N 0)))
    ((BD p1.fa p2.fh).bind fun v55 =>
    AL ((decide (v55 < 0)))
     (some ((Ac.mk (([] : List Int)) (([] : List Int)) (([] : List Int))), false))
     ((BD ((([] : List Int)) ++ p1.fa) p2.fh).bind fun _ =>
     j4 ((([] : List Int)) ++ p1.fd, ((([] : List Int)) ++ p1.fa).set ((p2.fh).toNat) ((-1)), (([] : List Int)) ++ p1.fc)))))
def DQ (N : Nat) (p0 : Ab) (p1 : Ac) (p2 : Ad) : Option (Ac × Int) :=
 (C2 N p0 p1).bind fun v1 =>
 AL ((v1 != 0))
  (some ((Ac.mk (([] : List Int)) (([] : List Int)) (([] : List Int))), v1))
  ((C3 N p2).bind fun v3 =>
  AL ((!v3))
   (some ((Ac.mk (([] : List Int)) (([] : List Int)) (([] : List Int))), 1))
   (Ba (fun (v5 : Bool) =>
    AL v5
     (some ((Ac.mk (([] : List Int)) (([] : List Int)) (([] : List Int))), 4))
     (Ba (fun (v11 : Bool) =>
      AL v11
       (some ((Ac.mk (([] : List Int)) (([] : List Int)) (([] : List Int))), 4))
       ((C0 N p0 p1 p2).bind fun v15 =>
       AL ((!v15.2))
        (some ((Ac.mk (([] : List Int)) (([] : List Int)) (([] : List Int))), 11))
        (some (v15.1, 0))))
     fun j11 =>
     AL ((p2.ff == 1))
      ((BD p0.fb p2.fh).bind fun v13 =>
      j11 (decide (v13 ≤ p2.fi)))
      (j11 false)))
   fun j5 =>
   AL ((p2.ff == 3))
    (AL ((decide ((p0.fe.length : Int) ≤ p2.fh)))
     (j5 true)
     (AL ((p2.ff != 3))
      (j5 (decide ((p0.fb.length : Int) ≤ p2.fh)))
      (j5 false)))
    (AL ((p2.ff != 3))
     (j5 (decide ((p0.fb.length : Int) ≤ p2.fh)))
     (j5 false))))
def B8 (N : Nat) (p0 : Ab) (p2 : List Ad) (j1 : Ac → Option (Ac × Bool)) : Nat → ((List Int) × (List Int) × (List Int) × Int) → Option (Ac × Bool)
 | 0, _ => none
 | n1 + 1, v1 =>
  AL ((decide (v1.2.2.2 < (p2.length : Int))))
   ((BD p2 v1.2.2.2).bind fun v4 =>
   (DQ N p0 ((Ac.mk v1.1 v1.2.1 v1.2.2.1)) v4).bind fun v5 =>
   Ba (fun (v6 : Bool) =>
    AL v6
     (some ((Ac.mk (([] : List Int)) (([] : List Int)) (([] : List Int))), false))
     (B8 N p0 p2 j1 n1 (v5.1.fd, v5.1.fa, v5.1.fc, (wI .i64 (v1.2.2.2 + 1)))))
   fun j6 =>
   AL ((v5.2 != 0))
    (j6 true)
    ((Cq N p0 v5.1).bind fun v8 =>
    j6 (!v8)))
   (j1 (Ac.mk v1.1 v1.2.1 v1.2.2.1))
def CE (N : Nat) (p0 : Ab) (p1 : Ac) (p2 : List Ad) : Option (Ac × Bool) :=
 B8 N p0 p2 (fun (v2 : Ac) =>
  some (v2, true)) N (p1.fd, p1.fa, p1.fc, 0)
def B6 (N : Nat) (p0 : List Ad) (p1 : List Int) (j1 : ((List Ad)) → Option ((List Ad))) : Nat → ((List Ad) × Int) → Option ((List Ad))
 | 0, _ => none
 | n1 + 1, v1 =>
  AL ((decide (v1.2 < (p1.length : Int))))
   ((BD p1 v1.2).bind fun v4 =>
   (BD p0 v4).bind fun v5 =>
   (Dj (v1.1.length + (([v5] : List Ad)).length ≤ Do)).bind fun _ =>
   B6 N p0 p1 j1 n1 (v1.1 ++ (([v5] : List Ad)), (wI .i64 (v1.2 + 1))))
   (j1 v1.1)
def Dd (N : Nat) (p0 : List Ad) (p1 : List Int) : Option ((List Ad)) :=
 B6 N p0 p1 (fun (v2 : (List Ad)) =>
  some v2) N (([] : List Ad), 0)
def CD (N : Nat) (p0 : List Int) (p1 : List Int) (j1 : Unit → Option Int) : Nat → Int → Option Int
 | 0, _ => none
 | n1 + 1, v1 =>
  Ba (fun (v3 : Bool) =>
   AL v3
    ((BD p0 v1).bind fun v6 =>
    (BD p1 v1).bind fun v7 =>
    AL ((decide (v6 < v7)))
     (some ((-1)))
     ((BD p0 v1).bind fun v9 =>
     (BD p1 v1).bind fun v10 =>
     AL ((decide (v10 < v9)))
      (some 1)
      (CD N p0 p1 j1 n1 (wI .i64 (v1 + 1)))))
    (j1 ()))
  fun j3 =>
  AL ((decide (v1 < (p0.length : Int))))
   (j3 (decide (v1 < (p1.length : Int))))
   (j3 false)
def CM (N : Nat) (p0 : List Int) (p1 : List Int) : Option Int :=
 CD N p0 p1 (fun (_ : Unit) =>
  AL ((decide ((p0.length : Int) < (p1.length : Int))))
   (some ((-1)))
   (AL ((decide ((p1.length : Int) < (p0.length : Int))))
    (some 1)
    (some 0))) N 0
def B7 (N : Nat) (p0 : List Int) (j1 : ((List Int)) → Option ((List Int))) : Nat → ((List Int) × Int) → Option ((List Int))
 | 0, _ => none
 | n1 + 1, v1 =>
  AL ((decide (v1.2 < (p0.length : Int))))
   ((BD p0 v1.2).bind fun v4 =>
   (Dj (v1.1.length + (([(wI .i64 v4)] : List Int)).length ≤ Do)).bind fun _ =>
   B7 N p0 j1 n1 (v1.1 ++ (([(wI .i64 v4)] : List Int)), (wI .i64 (v1.2 + 1))))
   (j1 v1.1)
def CB (N : Nat) (p0 : List Int) : Option ((List Int)) :=
 B7 N p0 (fun (v2 : (List Int)) =>
  some v2) N (([] : List Int), 0)
def Dc (N : Nat) (p0 : Ac) (p1 : Ac) : Option Int :=
 (CM N p0.fd p1.fd).bind fun v1 =>
 AL ((v1 != 0))
  (some v1)
  ((CM N p0.fa p1.fa).bind fun v3 =>
  AL ((v3 != 0))
   (some v3)
   ((CB N p0.fc).bind fun v5 =>
   (CB N p1.fc).bind fun v6 =>
   (CM N v5 v6).bind fun v7 =>
   some v7))
def DS (N : Nat) (p0 : Ac) (p1 : Ac) : Option Bool :=
 (Dc N p0 p1).bind fun v1 =>
 some ((v1 == 0))
def CA (N : Nat) (p0 : Ab) (p1 : Ac) (p2 : List Ad) (v8 : (List (List Int))) (v9 : Ac × Bool) (j10 : Unit → Option ((List Ad) × Int)) : Nat → Int → Option ((List Ad) × Int)
 | 0, _ => none
 | n10 + 1, v10 =>
  AL ((decide (v10 < (v8.length : Int))))
   ((BD v8 v10).bind fun v13 =>
   (Dd N p2 v13).bind fun v14 =>
   (CE N p0 p1 v14).bind fun v15 =>
   Ba (fun (v16 : Bool) =>
    AL v16
     (some (v14, 0))
     (CA N p0 p1 p2 v8 v9 j10 n10 (wI .i64 (v10 + 1))))
   fun j16 =>
   AL ((!v15.2))
    (j16 true)
    ((DS N v15.1 v9.1).bind fun v18 =>
    j16 (!v18)))
   (j10 ())
def DH (N : Nat) (p0 : Ab) (p1 : Ac) (p2 : List Ad) : Option ((List Ad) × Int) :=
 (C2 N p0 p1).bind fun v1 =>
 AL ((v1 != 0))
  (some (([] : List Ad), v1))
  ((D5 N p2).bind fun v3 =>
  AL ((v3 != 0))
   (some (([] : List Ad), v3))
   ((Cq N p0 p1).bind fun v5 =>
   AL ((!v5))
    ((Dj ((([] : List Ad)).length + p2.length ≤ Do)).bind fun _ =>
    some ((([] : List Ad)) ++ p2, 0))
    ((DB N ((p2.length : Int))).bind fun v8 =>
    (CE N p0 p1 p2).bind fun v9 =>
    CA N p0 p1 p2 v8 v9 (fun (_ : Unit) =>
     some (([] : List Ad), 15)) N 0)))
def CZ (N : Nat) (p0 : BE) (p1 : Bj) (p2 : List Ad) : Option Bool :=
 (DX N p0).bind fun v1 =>
 Ba (fun (v2 : Bool) =>
  AL v2
   ((DR N).bind fun v7 =>
   some v7)
   ((DU N v1.1 p1).bind fun v8 =>
   (EV N v1.1 v8 p2).bind fun v9 =>
   (DH N v1.1 v8 p2).bind fun v10 =>
   Ba (fun (v11 : Bool) =>
    some v11)
   fun j11 =>
   AL ((v9.2 == v10.2))
    ((CL N v9.1 v10.1).bind fun v13 =>
    j11 v13)
    (j11 false)))
 fun j2 =>
 (DR N).bind fun v3 =>
 AL ((!v3))
  (j2 true)
  (AL ((!v1.2))
   (j2 true)
   (j2 (decide (7 < (p2.length : Int)))))
def Jf {α : Type} (w : α → Prop) (xs : List α) : Prop := ∀ x, x ∈ xs → w x
def Tb (n : Int) : Prop := (Lit.int .i64 n).wf = true
def IB (n : Int) : Prop := (Lit.int .u8 n).wf = true
def UB (n : Int) : Prop := (Lit.int .u16 n).wf = true
def GZ (x : FV) : Prop := IB x.ff ∧ IB x.fg ∧ IB x.fj ∧ (fun _ => True) x.fp ∧ UB x.ft ∧ UB x.fu ∧ True
def En (x : BE) : Prop := (Jf IB) x.fb ∧ (Jf IB) x.fm ∧ (Jf IB) x.fo ∧ (Jf GZ) x.fr ∧ True
def Eh (x : Bj) : Prop := (Jf IB) x.fd ∧ (Jf IB) x.fa ∧ (Jf IB) x.fc ∧ True
def Jp (x : Ad) : Prop := Tb x.ff ∧ Tb x.fh ∧ Tb x.fi ∧ True
open Go.RowKit
open Go.Proofs
abbrev K5 (x : FV) : List C := [.pure (.val (.int .u8 x.ff)), .pure (.val (.int .u8 x.fg)), .pure (.val (.int .u8 x.fj)), .pure (.val (.bool x.fp)), .pure (.val (.int .u16 x.ft)), .pure (.val (.int .u16 x.fu))]
abbrev Cl (x : BE) : List C := [sC (x.fb.map B3), sC (x.fm.map B3), sC (x.fo.map B3), sC (x.fr.map FA)]
abbrev CN (x : Bj) : List C := [sC (x.fd.map B3), sC (x.fa.map B3), sC (x.fc.map B3)]
abbrev Cd (x : Ad) : List C := [iC x.ff, iC x.fh, iC x.fi]
abbrev A7 (x : Av) : List C := [iC x.ff, iC x.fg, iC x.fj, .pure (.val (.bool x.fp)), sC (x.fq.map (Fg eB)), sC (x.fk.map (Fg eB))]
abbrev Ah (x : Ab) : List C := [sC (x.fb.map An), sC (x.fm.map An), sC (x.fo.map An), sC (x.fe.map AQ)]
abbrev Az (x : Ac) : List C := [sC (x.fd.map An), sC (x.fa.map An), sC (x.fc.map B3)]
abbrev GJ (x : Aj) : List C := [iC x.fv, iC x.fw, iC x.fy]
theorem Ay : Tryz.prog.follows .mixedOrders = true := by kernel_rfl
theorem wq {X : Hx} {y : Code} {id : Nat} {ops : Array Oper} {dr : Bool} {Q : Exit → St → Prop} {st : St} {n : Nat} (hn : ops.size = n) (h : A4 Tryz.prog X ops dr (fun st' => W Tryz.prog X y Q st') n 0 st []) : W Tryz.prog X (.seq (.region id ops dr) y) Q st := XQ Ay hn h
theorem wp {X : Hx} {y z : Code} {id : Nat} {ops : Array Oper} {dr : Bool} {Q : Exit → St → Prop} {st : St} {n : Nat} (hn : ops.size = n) (h : A4 Tryz.prog X ops dr (fun st' => W Tryz.prog X y (ND (W Tryz.prog X z Q) Q) st') n 0 st []) : W Tryz.prog X (.seq (.seq (.region id ops dr) y) z) Q st := AN (XQ Ay hn h)
theorem Pm : Ee Tryz.prog 22 false = true := by kernel_rfl
theorem Vk : Ee Tryz.prog 23 false = true := by kernel_rfl
theorem WS : Ee Tryz.prog 25 true = true := by kernel_rfl
theorem Xg : Ee Tryz.prog 27 true = true := by kernel_rfl
theorem Ro : Ee Tryz.prog 28 false = true := by kernel_rfl
theorem AW : Ee Tryz.prog 29 false = true := by kernel_rfl
theorem BL : Ee Tryz.prog 3 false = true := by kernel_rfl
theorem GF : Ee Tryz.prog 30 false = true := by kernel_rfl
theorem CT : Ee Tryz.prog 32 true = true := by kernel_rfl
theorem F5 : Ee Tryz.prog 36 false = true := by kernel_rfl
theorem A3 : Ee Tryz.prog 38 true = true := by kernel_rfl
theorem Qu : Ee Tryz.prog 4 false = true := by kernel_rfl
theorem Vy : Ee Tryz.prog 5 false = true := by kernel_rfl
theorem F7 : Ee Tryz.prog 54 true = true := by kernel_rfl
theorem We : Ee Tryz.prog 58 false = true := by kernel_rfl
theorem WH : Ee Tryz.prog 60 true = true := by kernel_rfl
theorem Jj : Ee Tryz.prog 61 false = true := by kernel_rfl
theorem GB : Ee Tryz.prog 63 true = true := by kernel_rfl
theorem I6 : Ee Tryz.prog 74 false = true := by kernel_rfl
theorem XS : Ee Tryz.prog 9 false = true := by kernel_rfl
theorem LN : Ee Tryz.prog 93 true = true := by kernel_rfl
theorem NT : Ee Tryz.prog 96 false = true := by kernel_rfl
theorem Wy : EI Tryz.prog 28 24 = true := by kernel_rfl
theorem VK : EI Tryz.prog 29 24 = true := by kernel_rfl
theorem Ja : EI Tryz.prog 3 8 = true := by kernel_rfl
theorem SC : EI Tryz.prog 38 72 = true := by kernel_rfl
theorem U8 : EI Tryz.prog 4 1 = true := by kernel_rfl
theorem QA : EI Tryz.prog 54 24 = true := by kernel_rfl
theorem Wp : EI Tryz.prog 63 80 = true := by kernel_rfl
theorem Nj : EI Tryz.prog 74 1 = true := by kernel_rfl
theorem Qy : EI Tryz.prog 93 24 = true := by kernel_rfl
theorem V4 : EI Tryz.prog 96 24 = true := by kernel_rfl
theorem N9 : Cw Tryz.prog 25 0 0 = true := by kernel_rfl
theorem T4 : Cw Tryz.prog 25 1 1 = true := by kernel_rfl
theorem Ti : Cw Tryz.prog 25 2 2 = true := by kernel_rfl
theorem OC : Cw Tryz.prog 25 3 3 = true := by kernel_rfl
theorem TO : Cw Tryz.prog 27 0 0 = true := by kernel_rfl
theorem TY : Cw Tryz.prog 27 1 1 = true := by kernel_rfl
theorem SZ : Cw Tryz.prog 27 2 2 = true := by kernel_rfl
theorem Bg : Cw Tryz.prog 32 0 0 = true := by kernel_rfl
theorem F1 : Cw Tryz.prog 32 1 1 = true := by kernel_rfl
theorem Ia : Cw Tryz.prog 32 2 2 = true := by kernel_rfl
theorem Ce : Cw Tryz.prog 32 3 3 = true := by kernel_rfl
theorem Cf : Cw Tryz.prog 38 0 0 = true := by kernel_rfl
theorem Bf : Cw Tryz.prog 38 1 1 = true := by kernel_rfl
theorem BZ : Cw Tryz.prog 38 2 2 = true := by kernel_rfl
theorem DW : Cw Tryz.prog 54 0 0 = true := by kernel_rfl
theorem D7 : Cw Tryz.prog 54 1 1 = true := by kernel_rfl
theorem Fy : Cw Tryz.prog 54 2 2 = true := by kernel_rfl
theorem TV : Cw Tryz.prog 60 0 0 = true := by kernel_rfl
theorem TS : Cw Tryz.prog 60 1 1 = true := by kernel_rfl
theorem ST : Cw Tryz.prog 60 2 2 = true := by kernel_rfl
theorem Tl : Cw Tryz.prog 60 3 3 = true := by kernel_rfl
theorem S5 : Cw Tryz.prog 60 4 4 = true := by kernel_rfl
theorem TI : Cw Tryz.prog 60 5 5 = true := by kernel_rfl
theorem E8 : Cw Tryz.prog 63 0 0 = true := by kernel_rfl
theorem Ci : Cw Tryz.prog 63 1 1 = true := by kernel_rfl
theorem Hw : Cw Tryz.prog 63 2 2 = true := by kernel_rfl
theorem H8 : Cw Tryz.prog 63 3 3 = true := by kernel_rfl
theorem IL : Cw Tryz.prog 63 4 4 = true := by kernel_rfl
theorem FX : Cw Tryz.prog 63 5 5 = true := by kernel_rfl
theorem Vg : AA Tryz.prog 10 = true := by kernel_rfl
theorem Wf : AA Tryz.prog 100 = true := by kernel_rfl
theorem Uk : AA Tryz.prog 101 = true := by kernel_rfl
theorem Uc : AA Tryz.prog 102 = true := by kernel_rfl
theorem QD : AA Tryz.prog 103 = true := by kernel_rfl
theorem VV : AA Tryz.prog 104 = true := by kernel_rfl
theorem V5 : AA Tryz.prog 105 = true := by kernel_rfl
theorem Wb : AA Tryz.prog 106 = true := by kernel_rfl
theorem Wu : AA Tryz.prog 107 = true := by kernel_rfl
theorem VO : AA Tryz.prog 109 = true := by kernel_rfl
theorem VE : AA Tryz.prog 110 = true := by kernel_rfl
theorem VP : AA Tryz.prog 111 = true := by kernel_rfl
theorem V6 : AA Tryz.prog 112 = true := by kernel_rfl
theorem Uv : AA Tryz.prog 117 = true := by kernel_rfl
theorem VT : AA Tryz.prog 118 = true := by kernel_rfl
theorem VM : AA Tryz.prog 119 = true := by kernel_rfl
theorem U7 : AA Tryz.prog 12 = true := by kernel_rfl
theorem Wo : AA Tryz.prog 125 = true := by kernel_rfl
theorem W2 : AA Tryz.prog 13 = true := by kernel_rfl
theorem Vf : AA Tryz.prog 14 = true := by kernel_rfl
theorem Xs : AA Tryz.prog 15 = true := by kernel_rfl
theorem XG : AA Tryz.prog 17 = true := by kernel_rfl
theorem Xi : AA Tryz.prog 18 = true := by kernel_rfl
theorem VG : AA Tryz.prog 20 = true := by kernel_rfl
theorem MS : AA Tryz.prog 21 = true := by kernel_rfl
theorem VR : AA Tryz.prog 22 = true := by kernel_rfl
theorem Xa : AA Tryz.prog 23 = true := by kernel_rfl
theorem W7 : AA Tryz.prog 24 = true := by kernel_rfl
theorem Wa : AA Tryz.prog 25 = true := by kernel_rfl
theorem WG : AA Tryz.prog 26 = true := by kernel_rfl
theorem UG : AA Tryz.prog 27 = true := by kernel_rfl
theorem Q5 : AA Tryz.prog 28 = true := by kernel_rfl
theorem TZ : AA Tryz.prog 29 = true := by kernel_rfl
theorem VW : AA Tryz.prog 30 = true := by kernel_rfl
theorem Vp : AA Tryz.prog 31 = true := by kernel_rfl
theorem XC : AA Tryz.prog 32 = true := by kernel_rfl
theorem Ts : AA Tryz.prog 33 = true := by kernel_rfl
theorem SS : AA Tryz.prog 34 = true := by kernel_rfl
theorem Wg : AA Tryz.prog 35 = true := by kernel_rfl
theorem WN : AA Tryz.prog 36 = true := by kernel_rfl
theorem WR : AA Tryz.prog 37 = true := by kernel_rfl
theorem WX : AA Tryz.prog 38 = true := by kernel_rfl
theorem V9 : AA Tryz.prog 39 = true := by kernel_rfl
theorem W8 : AA Tryz.prog 40 = true := by kernel_rfl
theorem Wc : AA Tryz.prog 41 = true := by kernel_rfl
theorem Xy : AA Tryz.prog 42 = true := by kernel_rfl
theorem XD : AA Tryz.prog 43 = true := by kernel_rfl
theorem Vr : AA Tryz.prog 44 = true := by kernel_rfl
theorem Xu : AA Tryz.prog 45 = true := by kernel_rfl
theorem Wi : AA Tryz.prog 46 = true := by kernel_rfl
theorem VI : AA Tryz.prog 48 = true := by kernel_rfl
theorem U3 : AA Tryz.prog 50 = true := by kernel_rfl
theorem Uz : AA Tryz.prog 51 = true := by kernel_rfl
theorem UC : AA Tryz.prog 52 = true := by kernel_rfl
theorem Vd : AA Tryz.prog 53 = true := by kernel_rfl
theorem Xx : AA Tryz.prog 54 = true := by kernel_rfl
theorem Xo : AA Tryz.prog 55 = true := by kernel_rfl
theorem VJ : AA Tryz.prog 56 = true := by kernel_rfl
theorem Xk : AA Tryz.prog 57 = true := by kernel_rfl
theorem XB : AA Tryz.prog 58 = true := by kernel_rfl
theorem WE : AA Tryz.prog 59 = true := by kernel_rfl
theorem W5 : AA Tryz.prog 60 = true := by kernel_rfl
theorem WB : AA Tryz.prog 61 = true := by kernel_rfl
theorem W6 : AA Tryz.prog 62 = true := by kernel_rfl
theorem WW : AA Tryz.prog 63 = true := by kernel_rfl
theorem XL : AA Tryz.prog 64 = true := by kernel_rfl
theorem W0 : AA Tryz.prog 65 = true := by kernel_rfl
theorem Sl : AA Tryz.prog 66 = true := by kernel_rfl
theorem Xz : AA Tryz.prog 67 = true := by kernel_rfl
theorem WT : AA Tryz.prog 68 = true := by kernel_rfl
theorem Xl : AA Tryz.prog 69 = true := by kernel_rfl
theorem XV : AA Tryz.prog 7 = true := by kernel_rfl
theorem XJ : AA Tryz.prog 70 = true := by kernel_rfl
theorem Xd : AA Tryz.prog 71 = true := by kernel_rfl
theorem Xv : AA Tryz.prog 72 = true := by kernel_rfl
theorem SX : AA Tryz.prog 75 = true := by kernel_rfl
theorem WV : AA Tryz.prog 76 = true := by kernel_rfl
theorem Xr : AA Tryz.prog 77 = true := by kernel_rfl
theorem Xw : AA Tryz.prog 78 = true := by kernel_rfl
theorem VH : AA Tryz.prog 79 = true := by kernel_rfl
theorem XM : AA Tryz.prog 8 = true := by kernel_rfl
theorem Xq : AA Tryz.prog 80 = true := by kernel_rfl
theorem Wq : AA Tryz.prog 81 = true := by kernel_rfl
theorem XI : AA Tryz.prog 82 = true := by kernel_rfl
theorem WL : AA Tryz.prog 83 = true := by kernel_rfl
theorem WP : AA Tryz.prog 84 = true := by kernel_rfl
theorem Xb : AA Tryz.prog 85 = true := by kernel_rfl
theorem XF : AA Tryz.prog 86 = true := by kernel_rfl
theorem WY : AA Tryz.prog 87 = true := by kernel_rfl
theorem WQ : AA Tryz.prog 88 = true := by kernel_rfl
theorem Uy : AA Tryz.prog 89 = true := by kernel_rfl
theorem XU : AA Tryz.prog 9 = true := by kernel_rfl
theorem V0 : AA Tryz.prog 90 = true := by kernel_rfl
theorem XA : AA Tryz.prog 91 = true := by kernel_rfl
theorem Wk : AA Tryz.prog 92 = true := by kernel_rfl
theorem Xj : AA Tryz.prog 93 = true := by kernel_rfl
theorem WI : AA Tryz.prog 95 = true := by kernel_rfl
theorem V1 : AA Tryz.prog 96 = true := by kernel_rfl
theorem VA : AA Tryz.prog 97 = true := by kernel_rfl
theorem Xh : AA Tryz.prog 99 = true := by kernel_rfl
theorem Qn : MN Tryz.prog 126 .u64 = true := by kernel_rfl
theorem QP : MN Tryz.prog 137 .u32 = true := by kernel_rfl
theorem Um : MN Tryz.prog 140 .u64 = true := by kernel_rfl
theorem Tr : MN Tryz.prog 3 .i64 = true := by kernel_rfl
theorem W1 : MN Tryz.prog 74 .u8 = true := by kernel_rfl
theorem Wm : Ie Tryz.prog 32 = some [(0, 1), (1, 1), (2, 1), (3, 1)] := by kernel_rfl
theorem F3 : Ie Tryz.prog 38 = some [(0, 1), (1, 1), (2, 1)] := by kernel_rfl
theorem SY : Ie Tryz.prog 54 = some [(0, 1), (1, 1), (2, 1)] := by kernel_rfl
theorem WU : Ie Tryz.prog 63 = some [(0, 1), (1, 1), (2, 1), (3, 1), (4, 1), (5, 1)] := by kernel_rfl
theorem MZ : Ie Tryz.prog 93 = some [(0, 1), (1, 1), (2, 1)] := by kernel_rfl
theorem R8 : RF Tryz.prog 54 = some [0, 0, 0] := by kernel_rfl
theorem Ge : sliceB Tryz.prog 117 93 = true := by kernel_rfl
theorem RO : sliceB Tryz.prog 133 9 = true := by kernel_rfl
theorem ML : sliceB Tryz.prog 22 5 = true := by kernel_rfl
theorem SD : sliceB Tryz.prog 23 60 = true := by kernel_rfl
theorem Bo : sliceB Tryz.prog 28 54 = true := by kernel_rfl
theorem Au : sliceB Tryz.prog 29 3 = true := by kernel_rfl
theorem DJ : sliceB Tryz.prog 30 63 = true := by kernel_rfl
theorem Cv : sliceB Tryz.prog 36 74 = true := by kernel_rfl
theorem Ix : sliceB Tryz.prog 47 28 = true := by kernel_rfl
theorem FI : sliceB Tryz.prog 61 96 = true := by kernel_rfl
theorem GR : sliceB Tryz.prog 70 38 = true := by kernel_rfl
theorem JW : sliceB Tryz.prog 86 29 = true := by kernel_rfl
theorem GE : sliceB Tryz.prog 96 4 = true := by kernel_rfl
theorem RK : (Tryz.prog.underlying 126).isSome = true := by kernel_rfl
theorem Qq : (Tryz.prog.underlying 137).isSome = true := by kernel_rfl
theorem Ug : (Tryz.prog.underlying 140).isSome = true := by kernel_rfl
theorem XH : (Tryz.prog.underlying 3).isSome = true := by kernel_rfl
theorem Vh : (Tryz.prog.underlying 5).isSome = true := by kernel_rfl
theorem Xf : (Tryz.prog.underlying 74).isSome = true := by kernel_rfl
theorem Xm : QK Tryz.prog 9 = true := by kernel_rfl
theorem XE : GD Tryz.prog 25 4 = true := by kernel_rfl
theorem Xt : GD Tryz.prog 27 3 = true := by kernel_rfl
theorem OQ : GD Tryz.prog 28 1 = true := by kernel_rfl
theorem KD : GD Tryz.prog 29 1 = true := by kernel_rfl
theorem Cz : GD Tryz.prog 3 1 = true := by kernel_rfl
theorem WZ : GD Tryz.prog 30 1 = true := by kernel_rfl
theorem Cy : GD Tryz.prog 32 4 = true := by kernel_rfl
theorem Wt : GD Tryz.prog 36 1 = true := by kernel_rfl
theorem AF : GD Tryz.prog 38 3 = true := by kernel_rfl
theorem Qg : GD Tryz.prog 4 1 = true := by kernel_rfl
theorem XK : GD Tryz.prog 5 1 = true := by kernel_rfl
theorem Ch : GD Tryz.prog 54 3 = true := by kernel_rfl
theorem UQ : GD Tryz.prog 60 6 = true := by kernel_rfl
theorem Wh : GD Tryz.prog 61 1 = true := by kernel_rfl
theorem Du : GD Tryz.prog 63 6 = true := by kernel_rfl
theorem EP : GD Tryz.prog 74 1 = true := by kernel_rfl
theorem XP : GD Tryz.prog 9 1 = true := by kernel_rfl
theorem Fx : GD Tryz.prog 93 3 = true := by kernel_rfl
theorem LW : GD Tryz.prog 96 1 = true := by kernel_rfl
theorem TJ : DV Tryz.prog 28 = some (.slice none 0 0) := by kernel_rfl
theorem Vm : DV Tryz.prog 29 = some (.slice none 0 0) := by kernel_rfl
theorem I0 : DV Tryz.prog 3 = some (.int .i64 0) := by kernel_rfl
theorem Pn : DV Tryz.prog 32 = some (.agg #[.slice none 0 0, .slice none 0 0, .slice none 0 0, .slice none 0 0]) := by kernel_rfl
theorem Cc : DV Tryz.prog 38 = some (.agg #[.slice none 0 0, .slice none 0 0, .slice none 0 0]) := by kernel_rfl
theorem Vw : DV Tryz.prog 4 = some (.bool false) := by kernel_rfl
theorem IS : DV Tryz.prog 54 = some (.agg #[.int .i64 0, .int .i64 0, .int .i64 0]) := by kernel_rfl
theorem Xp : DV Tryz.prog 60 = some (.agg #[.int .u8 0, .int .u8 0, .int .u8 0, .bool false, .int .u16 0, .int .u16 0]) := by kernel_rfl
theorem KR : DV Tryz.prog 63 = some (.agg #[.int .i64 0, .int .i64 0, .int .i64 0, .bool false, .slice none 0 0, .slice none 0 0]) := by kernel_rfl
theorem Mn : DV Tryz.prog 74 = some (.int .u8 0) := by kernel_rfl
theorem XR : DV Tryz.prog 9 = some (.string ⟨#[]⟩) := by kernel_rfl
theorem HB : DV Tryz.prog 93 = some (.agg #[.int .i64 0, .int .i64 0, .int .i64 0]) := by kernel_rfl
theorem VC : DV Tryz.prog 96 = some (.slice none 0 0) := by kernel_rfl
set_option maxRecDepth 10000
theorem HL (N : Nat) (p0 : List Int) (p1 : Int) (r : Int) (h : Dm N p0 p1 = some r) : Aq Tryz.prog 20 [pD (.sl (p0.map B3)), iD p1] [] (iD r) := by
 unfold Dm at h
 refine cw (n := 14) (rs := [.tmp 4]) Tryz.func20 fun w0 S0 => ?_
 refine wq rfl (qa rfl (Aa (wp rfl (qw 2 rfl (AB ML rfl (AT rfl (Aa ?_)))))))
 refine Be h (fun h => ?_) fun h => ?_
 ·refine wq rfl (qw 2 rfl ?_)
  refine BS h fun v2 a2 b2 h => qi ML XK a2 (Af b2) rfl (qk Vy rfl (Iu Vh Tr rfl (qe rfl ?_)))
  obtain rfl := sj h
  refine Ae (sm [] [(4, iD ((wI .i64 v2)))] [] rfl rfl) (Ap ?_)
  exact ⟨⟨[_], tm, rfl⟩, tv⟩
 ·refine Al (wq rfl (qe rfl ?_))
  obtain rfl := sj h
  refine Ae (sm [] [(4, iD 0)] [] rfl rfl) (Ap ?_)
  exact ⟨⟨[_], tm, rfl⟩, tv⟩
theorem Bz (N : Nat) (p0 : Av) (r : Bool) (h : AR N p0 = some r) : Aq Tryz.prog 21 [.e (.agg (A7 p0))] [] (bD r) := by
 unfold AR at h
 refine cw (n := 11) (rs := [.tmp 2]) Tryz.func21 fun w0 S0 => ?_
 refine wq rfl (qb rfl (qe rfl ?_))
 refine AK h (fun v1 => mk [(2, bD v1)] []) (fun j1 h => ?_) (fun v1 h => ?_)
 ·refine Ag Ay rfl (qf E8 rfl (ql BL rfl (Bs rfl (qm rfl ?_))))
  refine Dr 6 h rfl (fun h => ?_) fun h => ?_
  ·refine qw 3 rfl (qp rfl (qe rfl ?_))
   exact sn [] h
  ·refine qf E8 rfl (ql BL rfl (Bs rfl (qp rfl (qe rfl ?_))))
   exact sn [] h
 ·obtain rfl := sj h
  refine Ae (sm [] [(2, bD v1)] [] rfl rfl) (Ap ?_)
  exact ⟨⟨[_], tm, rfl⟩, tv⟩
theorem H1 (N : Nat) (p0 : Int) (p1 : Int) (p2 : Int) (p3 : Bool) (r : (List (List Bool))) (h : Dl N p0 p1 p2 p3 = some r) : Aq Tryz.prog 22 [iD p0, iD p1, pD (.val (.int .u16 p2)), bD p3] [(1, r.map (Fg eB))] (oD (.own 0)) := by
 unfold Dl at h
 refine cw (n := 47) (rs := [.tmp 8]) Tryz.func22 fun w0 S0 => ?_
 refine wq rfl (qa rfl (Aa (wq rfl (qa rfl (Aa (wp rfl (qe rfl ?_)))))))
 refine AH (L := BP N p0 p1 p2 p3) h (fun v1 => mk [(0, iD p0), (1, iD p1), (2, pD (.val (.int .u16 p2))), (3, bD p3), (9, oD (.own 2001)), (10, iD v1.2)] [(2001, .vec 1 (v1.1.map (Fg eB)))]) (fun v2 => mk [(9, oD (.own 2002))] [(2002, .vec 1 (v2.map (Fg eB)))]) (fun _ _ => rfl) ((B2 9 2010 1 rfl rfl rfl).trans (sm [(2001, 2010)] _ _ rfl rfl)) (fun j1 n1 v1 h => ?_) (fun v2 s h hs => ?_)
 ·unfold BP at h
  refine wp rfl (qw 2 rfl (AT rfl (Aa ?_)))
  refine Be h (fun h => ?_) fun h => ?_
  ·refine Al (AN (AM (wq rfl (qa rfl (Aa (wp rfl (qe rfl ?_)))))))
   refine AH (L := BQ N p1 p2 p3 v1) h (fun v4 => mk [(0, iD p0), (1, iD p1), (2, pD (.val (.int .u16 p2))), (3, bD p3), (9, oD (.own 2003)), (10, iD v1.2), (11, oD (.own 2004)), (12, iD v4.2)] [(2003, .vec 1 (v1.1.map (Fg eB))), (2004, .vec 1 (v4.1.map eB))]) (fun v5 => mk [(0, iD p0), (1, iD p1), (2, pD (.val (.int .u16 p2))), (3, bD p3), (9, oD (.own 2005)), (10, iD v1.2), (11, oD (.own 2006))] [(2005, .vec 1 (v1.1.map (Fg eB))), (2006, .vec 1 (v5.map eB))]) (fun _ _ => rfl) ((B2 11 2009 1 rfl rfl rfl).trans (sm [(2003, 2001), (2004, 2009)] _ _ rfl rfl)) (fun j4 n4 v4 h => ?_) (fun v5 s h hs => ?_)
   ·unfold BQ at h
    refine wp rfl (qw 2 rfl (AT rfl (Aa ?_)))
    refine Be h (fun h => ?_) fun h => ?_
    ·refine Al ?_
     refine AK h (fun v7 => mk [(0, iD p0), (1, iD p1), (2, pD (.val (.int .u16 p2))), (3, bD p3), (9, oD (.own 2007)), (10, iD v1.2), (11, oD (.own 2008)), (12, iD v4.2)] [(2007, .vec 1 (v1.1.map (Fg eB))), (2008, .vec 1 (v7.map eB))]) (fun j7 h => ?_) (fun v7 h => ?_)
     ·refine AM (Ag Ay rfl (qw 3 rfl ?_))
      refine Dr 25 h rfl (fun h => ?_) fun h => ?_
      ·refine qw 2 rfl (Bs rfl (qp rfl (qm rfl ?_)))
       refine Dr 30 h rfl (fun h => ?_) fun h => ?_
       ·refine qw 8 rfl (qp rfl (D4 GE Qg Vw rfl ?_))
        refine Ex h fun c10 h => DC (f := eB) GE GE Qg U8 Vw c10 rfl (qe rfl ?_)
        exact sn [(2007, 2003), (2008, 41)] h
       ·refine qw 2 rfl (Km rfl (qm rfl (Bd rfl ?_)))
        refine Ex h fun c11 h => Iv rfl c11 (IX rfl (by decide) (Bs rfl (qp rfl (D4 GE Qg Vw rfl ?_))))
        refine Ex h fun c12 h => DC (f := eB) GE GE Qg U8 Vw c12 rfl (qe rfl ?_)
        exact sn [(2007, 2003), (2008, 41)] h
      ·refine qw 3 rfl (qp rfl (qw 3 rfl (Km rfl (qm rfl (Bd rfl ?_)))))
       refine Ex h fun c13 h => Iv rfl c13 (IX rfl (by decide) (Bs rfl (qp rfl (D4 GE Qg Vw rfl ?_))))
       refine Ex h fun c14 h => DC (f := eB) GE GE Qg U8 Vw c14 rfl (qe rfl ?_)
       exact sn [(2007, 2003), (2008, 41)] h
     ·refine Ag Ay rfl (qm rfl (Bd rfl (qe rfl ?_)))
      exact sn [(2003, 2007), (2004, 2008)] h
    ·refine AS ?_
     exact sn [(2005, 2003), (2006, 2004)] h
   ·refine Ae hs (Ag Ay rfl (qw 2 rfl (C6 (AU 2006 _ _ rfl rfl) (D4 FI LW VC rfl ?_))))
    refine Ex h fun c15 h => DC (f := (Fg eB)) FI FI LW V4 VC c15 rfl (qa rfl (Aa (Ag Ay rfl (qm rfl (Bd rfl (qe rfl ?_))))))
    exact sn [(2001, 45)] h
  ·refine AS ?_
   exact sn [(2002, 2001)] h
 ·refine Ae hs (wq rfl (qm rfl (qe rfl ?_)))
  obtain rfl := sj h
  refine Ae (sm [(1000, 2002)] [(8, oD (.own 1000))] [(1000, .vec 1 (v2.map (Fg eB)))] rfl rfl) (Ap ?_)
  exact ⟨⟨[_], tm, rfl⟩, ⟨rfl, tv⟩⟩
theorem K3 (N : Nat) (p0 : BE) (r : Ab × Bool) (h : DX N p0 = some r) : Aq Tryz.prog 7 [.e (.agg (Cl p0))] [(1, r.1.fb.map An), (1, r.1.fm.map An), (1, r.1.fo.map An), (6, r.1.fe.map AQ)] (.tup [.agg [.own 0, .own 1, .own 2, .own 3], .one (.pure (.val (.bool r.2)))]) := by
 unfold DX at h
 refine cw (n := 152) (rs := [.cell 2 32, .tmp 3]) Tryz.func7 fun w0 S0 => ?_
 refine wq rfl (qb rfl (qz Pn rfl (qa rfl (Aa (AN ?_)))))
 refine AK h (fun v1 => mk [(1, oD (.ptr 1 0)), (2, oD (.ptr 2 0)), (19, bD v1)] [(1, .box (Cl p0)), (2, .box [.pure (.nil0), .pure (.nil0), .pure (.nil0), .pure (.nil0)])]) (fun j1 h => ?_) (fun v1 h => ?_)
 ·refine Ag Ay rfl (qf N9 rfl (ql Pm rfl (AB ML rfl (EN rfl (qm rfl ?_)))))
  refine Dr 14 h rfl (fun h => ?_) fun h => ?_
  ·refine qw 4 rfl (qp rfl (Aa ?_))
   exact sn [] h
  ·refine qf OC rfl (ql Vk rfl (AB SD rfl (EN rfl (qp rfl (Aa ?_)))))
   exact sn [] h
 ·refine Be h (fun h => ?_) fun h => ?_
  ·refine wq rfl (A8 Pn Wm rfl (qs Cy rfl (qe rfl ?_)))
   obtain rfl := sj h
   refine Ae ((Ax 2 0 2001 1 _ rfl rfl rfl rfl).trans ((Ax 2 1 2002 1 _ rfl rfl rfl rfl).trans ((Ax 2 2 2003 1 _ rfl rfl rfl rfl).trans ((Ax 2 3 2004 6 _ rfl rfl rfl rfl).trans (sm [(1000, 2001), (1001, 2002), (1002, 2003), (1003, 2004)] [(2, oD (.ptr 2 0)), (3, bD false)] [(2, .box [.own 1000, .own 1001, .own 1002, .own 1003]), (1000, .vec 1 ((([] : List Int)).map An)), (1001, .vec 1 ((([] : List Int)).map An)), (1002, .vec 1 ((([] : List Int)).map An)), (1003, .vec 6 ((([] : List Av)).map AQ))] rfl rfl))))) (Ap ?_)
   exact ⟨⟨[_, _], ⟨.cellN _ _ _ _ _ _ _ rfl rfl CT Cy rfl rfl (GS rfl), tm⟩, rfl⟩, ⟨rfl, rfl, rfl, rfl, tv⟩⟩
  ·refine Al (wq rfl (qz Pn rfl (Aa (wp rfl (qe rfl ?_)))))
   refine AH (L := B4 N p0) h (fun v4 => mk [(1, oD (.ptr 1 0)), (2, oD (.ptr 2 0)), (4, oD (.ptr 4 0)), (5, iD v4.2.2.2)] [(1, .box (Cl p0)), (2, .box [.pure (.nil0), .pure (.nil0), .pure (.nil0), .pure (.nil0)]), (4, .box [.own 2005, .own 2006, .own 2007, .pure (.nil0)]), (2005, .vec 1 (v4.1.map An)), (2006, .vec 1 (v4.2.1.map An)), (2007, .vec 1 (v4.2.2.1.map An))]) (fun v5 => mk [(1, oD (.ptr 1 0)), (2, oD (.ptr 2 0)), (4, oD (.ptr 4 0))] [(1, .box (Cl p0)), (2, .box [.pure (.nil0), .pure (.nil0), .pure (.nil0), .pure (.nil0)]), (4, .box [.own 2008, .own 2009, .own 2010, .pure (.nil0)]), (2008, .vec 1 (v5.1.map An)), (2009, .vec 1 (v5.2.1.map An)), (2010, .vec 1 (v5.2.2.map An))]) (fun _ _ => rfl) ((Ax 4 0 2011 1 _ rfl rfl rfl rfl).trans ((Ax 4 1 2012 1 _ rfl rfl rfl rfl).trans ((Ax 4 2 2013 1 _ rfl rfl rfl rfl).trans (sm [(2005, 2011), (2006, 2012), (2007, 2013)] _ _ rfl rfl)))) (fun j4 n4 v4 h => ?_) (fun v5 s h hs => ?_)
   ·unfold B4 at h
    refine wp rfl (qm rfl (qf N9 rfl (ql Pm rfl (AB ML rfl (AT rfl (Aa ?_))))))
    refine Be h (fun h => ?_) fun h => ?_
    ·refine Al (AN (AM (wq rfl (qf N9 rfl (ql Pm rfl (qm rfl ?_))))))
     refine BS h fun v7 a7 b7 h => qi ML XK a7 (Af b7) rfl (qk Vy rfl (IX rfl (by decide) (Iu Vh Tr rfl (Bd rfl (qa rfl (Aa (wq rfl (qf Bg rfl (ql AW rfl (qm rfl (D4 Au Cz I0 rfl ?_)))))))))))
     refine Ex h fun c8 h => DC (f := An) Au Au Cz Ja I0 c8 rfl (qf Bg rfl (qs KD rfl (Aa (wq rfl (qf F1 rfl (ql AW rfl (qf T4 rfl (ql Pm rfl (qm rfl ?_)))))))))
     refine BT h fun v9 a9 h => Ar [] (HL N p0.fm v4.2.2.2 v9 a9) VG rfl (qm rfl ?_)
     refine Ex h fun c10 h => IX rfl c10 (D4 Au Cz I0 rfl ?_)
     refine Ex h fun c11 h => DC (f := An) Au Au Cz Ja I0 c11 rfl (qf F1 rfl (qs KD rfl (AI (by kernel_rfl) (Ag Ay rfl (qf Ia rfl (ql AW rfl (qf Ti rfl (ql Pm rfl (qm rfl ?_)))))))))
     refine BT h fun v12 a12 h => Ar [] (HL N p0.fo v4.2.2.2 v12 a12) VG rfl (qm rfl ?_)
     refine Ex h fun c13 h => IX rfl c13 (D4 Au Cz I0 rfl ?_)
     refine Ex h fun c14 h => DC (f := An) Au Au Cz Ja I0 c14 rfl (qf Ia rfl (qs KD rfl (AI (by kernel_rfl) (Ag Ay rfl (qm rfl (Bd rfl (qe rfl ?_)))))))
     exact sn [(2005, 40), (2006, 51), (2007, 62)] h
    ·refine AS ?_
     exact sn [(2008, 2005), (2009, 2006), (2010, 2007)] h
   ·refine Ae hs (wp rfl (qe rfl ?_))
    refine AH (L := Bh N p0 v5) h (fun v15 => mk [(1, oD (.ptr 1 0)), (2, oD (.ptr 2 0)), (4, oD (.ptr 4 0)), (7, iD v15.2)] [(1, .box (Cl p0)), (2, .box [.pure (.nil0), .pure (.nil0), .pure (.nil0), .pure (.nil0)]), (4, .box [.own 2014, .own 2015, .own 2016, .own 2017]), (2014, .vec 1 (v5.1.map An)), (2015, .vec 1 (v5.2.1.map An)), (2016, .vec 1 (v5.2.2.map An)), (2017, .vec 6 (v15.1.map AQ))]) (fun v16 => mk [(2, oD (.ptr 2 0)), (4, oD (.ptr 4 0))] [(2, .box [.pure (.nil0), .pure (.nil0), .pure (.nil0), .pure (.nil0)]), (4, .box [.own 2018, .own 2019, .own 2020, .own 2021]), (2018, .vec 1 (v5.1.map An)), (2019, .vec 1 (v5.2.1.map An)), (2020, .vec 1 (v5.2.2.map An)), (2021, .vec 6 (v16.map AQ))]) (fun _ _ => rfl) ((Ax 4 3 2039 6 _ rfl rfl rfl rfl).trans (sm [(2014, 2008), (2015, 2009), (2016, 2010), (2017, 2039)] _ _ rfl rfl)) (fun j15 n15 v15 h => ?_) (fun v16 s h hs => ?_)
    ·unfold Bh at h
     refine AN ?_
     refine AK h (fun v17 => mk [(1, oD (.ptr 1 0)), (2, oD (.ptr 2 0)), (4, oD (.ptr 4 0)), (7, iD v15.2), (74, bD v17)] [(1, .box (Cl p0)), (2, .box [.pure (.nil0), .pure (.nil0), .pure (.nil0), .pure (.nil0)]), (4, .box [.own 2022, .own 2023, .own 2024, .own 2025]), (2022, .vec 1 (v5.1.map An)), (2023, .vec 1 (v5.2.1.map An)), (2024, .vec 1 (v5.2.2.map An)), (2025, .vec 6 (v15.1.map AQ))]) (fun j17 h => ?_) (fun v17 h => ?_)
     ·refine Ag Ay rfl (qm rfl (qf OC rfl (ql Vk rfl (AB SD rfl (AT rfl (qm rfl ?_))))))
      refine Dr 69 h rfl (fun h => ?_) fun h => ?_
      ·refine qf Bg rfl (ql AW rfl (FF Au rfl (EN rfl (qp rfl (Aa ?_)))))
       exact sn [(2022, 2014), (2023, 2015), (2024, 2016), (2025, 2017)] h
      ·refine qw 4 rfl (qp rfl (Aa ?_))
       exact sn [(2022, 2014), (2023, 2015), (2024, 2016), (2025, 2017)] h
     ·refine Be h (fun h => ?_) fun h => ?_
      ·refine Al (AN (AM (wq rfl (qf OC rfl (ql Vk rfl (qm rfl ?_))))))
       refine BS h fun v20 a20 b20 h => qi SD UQ a20 (Af b20) rfl (qK WH UQ rfl (qz Xp rfl (qs UQ rfl (Aa (wq rfl (qf TV rfl (ql Vy rfl (IX rfl (by decide) (Iu Vh Tr rfl (Bd rfl (qf TS rfl (ql Vy rfl (Iu Vh Tr rfl (qf Bg rfl (ql AW rfl (FF Au rfl ?_))))))))))))))))
       refine Ex h fun c21 h => IX rfl c21 (qf ST rfl (ql Vy rfl (Iu Vh Tr rfl (qf Bg rfl (ql AW rfl (FF Au rfl ?_))))))
       refine Ex h fun c22 h => IX rfl c22 (A8 KR WU rfl (qz KR rfl (qs Du rfl (AI (by kernel_rfl) ?_))))
       refine AK h (fun v23 => mk [(1, oD (.ptr 1 0)), (2, oD (.ptr 2 0)), (4, oD (.ptr 4 0)), (7, iD v15.2), (8, oD (.ptr 8 0)), (9, oD (.ptr 9 0))] [(1, .box (Cl p0)), (2, .box [.pure (.nil0), .pure (.nil0), .pure (.nil0), .pure (.nil0)]), (4, .box [.own 2026, .own 2027, .own 2028, .own 2029]), (8, .box (K5 v20)), (9, .box [iC ((wI .i64 (1 + (wI .i64 ((Int.tmod v20.ff 4)))))), iC ((Int.tmod ((wI .i64 v20.fg)) ((v5.1.length : Int)))), iC ((Int.tmod ((wI .i64 v20.fj)) ((v5.1.length : Int)))), .pure (.val (.bool v23)), .pure (.nil0), .pure (.nil0)]), (2026, .vec 1 (v5.1.map An)), (2027, .vec 1 (v5.2.1.map An)), (2028, .vec 1 (v5.2.2.map An)), (2029, .vec 6 (v15.1.map AQ))]) (fun j23 h => ?_) (fun v23 h => ?_)
       ·refine Ag Ay rfl (qf Tl rfl (ql Qu rfl (qm rfl ?_)))
        refine Dr 104 h rfl (fun h => ?_) fun h => ?_
        ·refine qL GB Du rfl ?_
         refine BT h fun v25 a25 h => Ar [] (Bz N ((Av.mk ((wI .i64 (1 + (wI .i64 ((Int.tmod v20.ff 4)))))) ((Int.tmod ((wI .i64 v20.fg)) ((v5.1.length : Int)))) ((Int.tmod ((wI .i64 v20.fj)) ((v5.1.length : Int)))) false (([] : List (List Bool))) (([] : List (List Bool))))) v25 a25) MS rfl (BX rfl (qp rfl (qf H8 rfl (qs Qg rfl (Aa ?_)))))
         exact sn [(2026, 2022), (2027, 2023), (2028, 2024), (2029, 2025)] h
        ·refine qw 3 rfl (qp rfl (qf H8 rfl (qs Qg rfl (Aa ?_))))
         exact sn [(2026, 2022), (2027, 2023), (2028, 2024), (2029, 2025)] h
       ·refine wq rfl (qf Bg rfl (ql AW rfl (qf Ci rfl (ql BL rfl ?_))))
        refine BS h fun v26 a26 b26 h => qI Au Cz a26 (Af b26) rfl (qj BL (Af b26) rfl (qf Bg rfl (ql AW rfl (qf Hw rfl (ql BL rfl ?_)))))
        refine BS h fun v27 a27 b27 h => qI Au Cz a27 (Af b27) rfl (qj BL (Af b27) rfl (qf S5 rfl (ql We rfl ?_)))
        refine BT h fun v28 a28 h => Ar [2030] (H1 N v26 v27 v20.ft false v28 a28) VR rfl (qf IL rfl (qs Wh rfl (AI (by kernel_rfl) ?_)))
        refine AK h (fun v29 => mk [(1, oD (.ptr 1 0)), (2, oD (.ptr 2 0)), (4, oD (.ptr 4 0)), (7, iD v15.2), (9, oD (.ptr 9 0))] [(1, .box (Cl p0)), (2, .box [.pure (.nil0), .pure (.nil0), .pure (.nil0), .pure (.nil0)]), (4, .box [.own 2031, .own 2032, .own 2033, .own 2034]), (9, .box [iC ((wI .i64 (1 + (wI .i64 ((Int.tmod v20.ff 4)))))), iC ((Int.tmod ((wI .i64 v20.fg)) ((v5.1.length : Int)))), iC ((Int.tmod ((wI .i64 v20.fj)) ((v5.1.length : Int)))), .pure (.val (.bool v23)), .own 2035, .own 2036]), (2031, .vec 1 (v5.1.map An)), (2032, .vec 1 (v5.2.1.map An)), (2033, .vec 1 (v5.2.2.map An)), (2034, .vec 6 (v15.1.map AQ)), (2035, .vec 1 (v28.map (Fg eB))), (2036, .vec 1 (v29.map (Fg eB)))]) (fun j29 h => ?_) (fun v29 h => ?_)
        ·refine wq rfl (qf E8 rfl (ql BL rfl (Bs rfl (Aa ?_))))
         refine Be h (fun h => ?_) fun h => ?_
         ·refine Ag Ay rfl (qf Bg rfl (ql AW rfl (qf Ci rfl (ql BL rfl ?_))))
          refine BS h fun v31 a31 b31 h => qI Au Cz a31 (Af b31) rfl (qj BL (Af b31) rfl (qf Bg rfl (ql AW rfl (qf Ci rfl (ql BL rfl ?_)))))
          refine BS h fun v32 a32 b32 h => qI Au Cz a32 (Af b32) rfl (qj BL (Af b32) rfl (qf TI rfl (ql We rfl ?_)))
          refine BT h fun v33 a33 h => Ar [2037] (H1 N v31 v32 v20.fu true v33 a33) VR rfl (qf FX rfl (qs Wh rfl (AI (by kernel_rfl) ?_)))
          exact sn [(2031, 2026), (2032, 2027), (2033, 2028), (2034, 2029), (2035, 2030), (2036, 2037)] h
         ·refine Al ?_
          exact Th _ h ((Ax 9 5 2038 1 _ rfl rfl rfl rfl).trans (sm [(2031, 2026), (2032, 2027), (2033, 2028), (2034, 2029), (2035, 2030), (2036, 2038)] _ _ rfl rfl))
        ·refine Ag Ay rfl (qf Ce rfl (ql GF rfl (qL GB Du rfl (C6 (AU 2035 _ _ rfl rfl) (C6 (AU 2036 _ _ rfl rfl) (D4 DJ Du KR rfl ?_))))))
         refine Ex h fun c34 h => DC (f := AQ) DJ DJ Du Wp KR c34 rfl (qf Ce rfl (qs WZ rfl (Aa (Ag Ay rfl (qm rfl (Bd rfl (qe rfl ?_)))))))
         exact sn [(2014, 2031), (2015, 2032), (2016, 2033), (2017, 149)] h
      ·refine AS ?_
       exact sn [(2018, 2022), (2019, 2023), (2020, 2024), (2021, 2025)] h
    ·refine Ae hs (wq rfl (qL CT Cy rfl (qs Cy rfl (qe rfl ?_))))
     obtain rfl := sj h
     refine Ae (sm [(1000, 2018), (1001, 2019), (1002, 2020), (1003, 2021)] [(2, oD (.ptr 2 0)), (3, bD true)] [(2, .box [.own 1000, .own 1001, .own 1002, .own 1003]), (1000, .vec 1 (v5.1.map An)), (1001, .vec 1 (v5.2.1.map An)), (1002, .vec 1 (v5.2.2.map An)), (1003, .vec 6 (v16.map AQ))] rfl rfl) (Ap ?_)
     exact ⟨⟨[_, _], ⟨.cellN _ _ _ _ _ _ _ rfl rfl CT Cy rfl rfl (GS rfl), tm⟩, rfl⟩, ⟨rfl, rfl, rfl, rfl, tv⟩⟩
theorem I4 (N : Nat) (r : Ab × (List Ad)) (h : EO N = some r) : Aq Tryz.prog 23 [] [(1, r.1.fb.map An), (1, r.1.fm.map An), (1, r.1.fo.map An), (3, r.2.map Ai)] (.tup [.agg [.own 0, .own 1, .own 2, sC (r.1.fe.map AQ)], .one (.own 3)]) := by
 unfold EO at h
 refine cw (n := 13) (rs := [.cell 0 32, .tmp 1]) Tryz.func23 fun w0 S0 => ?_
 refine wq rfl (qz Pn rfl (qa rfl (Aa (wq rfl (D4 Au Cz I0 rfl (D4 Au Cz I0 rfl (D4 Au Cz I0 rfl (A8 Pn Wm rfl (qz Pn rfl (qs Cy rfl (Aa (wq rfl (qL CT Cy rfl (A8 IS SY rfl (A8 IS SY rfl (A8 IS SY rfl (A8 IS SY rfl (D4 Bo Ch IS rfl (qs Cy rfl (qe rfl ?_))))))))))))))))))))
 obtain rfl := sj h
 refine Ae ((E3 0 _ rfl).trans (sm [(1000, 3), (1001, 4), (1002, 5), (1003, 12)] [(0, oD (.ptr 0 0)), (1, oD (.own 1003))] [(0, .box [.own 1000, .own 1001, .own 1002, sC ((([] : List Av)).map AQ)]), (1000, .vec 1 ((([2, 2] : List Int)).map An)), (1001, .vec 1 ((([0, 0] : List Int)).map An)), (1002, .vec 1 ((([1, 1] : List Int)).map An)), (1003, .vec 3 ((([(Ad.mk 1 0 1), (Ad.mk 1 1 1), (Ad.mk 2 0 0), (Ad.mk 2 1 0)] : List Ad)).map Ai))] rfl rfl)) (Ap ?_)
 exact ⟨⟨[_, _], ⟨.cellN _ _ _ _ _ _ _ rfl rfl CT Cy rfl rfl (GS rfl), tm⟩, rfl⟩, ⟨rfl, rfl, rfl, rfl, tv⟩⟩
theorem Gq (N : Nat) (p0 : Int) (p1 : Int) (r : Bool) (h : Dp N p0 p1 = some r) : Aq Tryz.prog 75 [iD p0, iD p1] [] (bD r) := by
 unfold Dp at h
 refine cw (n := 12) (rs := [.tmp 4]) Tryz.func75 fun w0 S0 => ?_
 refine wq rfl (qe rfl ?_)
 refine AK h (fun v1 => mk [(4, bD v1)] []) (fun j1 h => ?_) (fun v1 h => ?_)
 ·refine Ag Ay rfl (qm rfl (El rfl (qm rfl ?_)))
  refine Dr 7 h rfl (fun h => ?_) fun h => ?_
  ·refine qw 2 rfl (AT rfl (qp rfl (qe rfl ?_)))
   exact sn [] h
  ·refine qw 3 rfl (qp rfl (qe rfl ?_))
   exact sn [] h
 ·obtain rfl := sj h
  refine Ae (sm [] [(4, bD v1)] [] rfl rfl) (Ap ?_)
  exact ⟨⟨[_], tm, rfl⟩, tv⟩
theorem Oo (N : Nat) (p0 : Int) (p1 : Bool) (r : Bool) (h : FM N p0 p1 = some r) : Aq Tryz.prog 95 [iD p0, bD p1] [] (bD r) := by
 unfold FM at h
 refine cw (n := 23) (rs := [.tmp 4]) Tryz.func95 fun w0 S0 => ?_
 refine wq rfl (qe rfl ?_)
 refine AK h (fun v1 => mk [(4, bD v1)] []) (fun j1 h => ?_) (fun v1 h => ?_)
 ·refine Ag Ay rfl (qm rfl (Bs rfl (qm rfl ?_)))
  refine Dr 7 h rfl (fun h => ?_) fun h => ?_
  ·refine qw 2 rfl (qp rfl (qw 4 rfl (qu rfl (qu rfl (qw 2 rfl (qu rfl (qu rfl (qn rfl (qp rfl (qe rfl ?_))))))))))
   exact sn [] h
  ·refine qm rfl (Bs rfl (qp rfl (qm rfl ?_)))
   refine Dr 11 h rfl (fun h => ?_) fun h => ?_
   ·refine qw 3 rfl (qu rfl (qu rfl (qw 2 rfl (qu rfl (qu rfl (qn rfl (qp rfl (qe rfl ?_))))))))
    exact sn [] h
   ·refine qm rfl (Bs rfl (qm rfl ?_))
    refine Dr 14 h rfl (fun h => ?_) fun h => ?_
    ·refine qw 2 rfl (qp rfl (qw 2 rfl (BX rfl (qp rfl (qp rfl (qe rfl ?_))))))
     exact sn [] h
    ·refine qm rfl (Bs rfl (qp rfl (qm rfl ?_)))
     refine Dr 18 h rfl (fun h => ?_) fun h => ?_
     ·refine qm rfl (BX rfl (qp rfl (qp rfl (qe rfl ?_))))
      exact sn [] h
     ·refine qw 2 rfl (qp rfl (qp rfl (qe rfl ?_)))
      exact sn [] h
 ·obtain rfl := sj h
  refine Ae (sm [] [(4, bD v1)] [] rfl rfl) (Ap ?_)
  exact ⟨⟨[_], tm, rfl⟩, tv⟩
theorem K6 (N : Nat) (p0 : List Bool) (p1 : Int) (r : Bool) (h : Db N p0 p1 = some r) : Aq Tryz.prog 107 [pD (.sl (p0.map eB)), oD (.rop [.val (.int .i64 p1)])] [] (bD r) := by
 unfold Db at h
 refine cw (n := 8) (rs := [.tmp 3]) Tryz.func107 fun w0 S0 => ?_
 refine wq rfl (qa rfl (Aa (wq rfl (qm rfl (AB GE rfl (qk BL rfl (BF rfl (qe rfl ?_))))))))
 obtain rfl := sj h
 refine Ae (sm [] [(3, bD (((p0.length : Int) != p1)))] [] rfl rfl) (Ap ?_)
 exact ⟨⟨[_], tm, rfl⟩, tv⟩
theorem Hj (N : Nat) (p0 : List (List Bool)) (p1 : (List Bool) → Option Bool) (r : Int) (h : CO N p0 p1 = some r) : Aq Tryz.prog 112 [pD (.sl (p0.map (Fg eB))), oD (.clo (MI (Rs false (Fg eB)) tB p1))] [] (iD r) := by
 unfold CO at h
 refine cw (n := 19) (rs := [.tmp 4]) Tryz.func112 fun w0 S0 => ?_
 refine wq rfl (qa rfl (Aa (wp rfl (qm rfl (AB FI rfl (qm rfl (Aa ?_)))))))
 refine AH (L := Bb N p0 p1) h (fun v1 => mk [(0, pD (.sl (p0.map (Fg eB)))), (1, oD (.clo (MI (Rs false (Fg eB)) tB p1))), (7, iD ((p0.length : Int))), (8, iD v1)] []) (fun v2 => mk [] []) (fun _ _ => rfl) (sm [] _ _ rfl rfl) (fun j1 n1 v1 h => ?_) (fun v2 s h hs => ?_)
 ·unfold Bb at h
  refine wq rfl (AT rfl (Aa (AN ?_)))
  refine Be h (fun h => ?_) fun h => ?_
  ·refine Al (AN (AM (wq rfl (qm rfl (qa rfl (Aa (wq rfl (qw 3 rfl ?_))))))))
   refine BS h fun v4 a4 b4 h => qi FI LW a4 (Af b4) rfl (qk NT rfl ?_)
   refine BT h fun v5 a5 h => QC (ds0 := [_]) (ar := (Rs false (Fg eB)) v4) (.p rfl) rfl rfl ⟨rfl, tv⟩ rfl rfl rfl (Qo (QS _ _ (Wx WJ)) a5) ?_
   refine Aa ?_
   refine Be h (fun h => ?_) fun h => ?_
   ·refine wq rfl (qm rfl (qe rfl ?_))
    obtain rfl := sj h
    refine Ae (sm [] [(4, iD v1)] [] rfl rfl) (Ap ?_)
    exact ⟨⟨[_], tm, rfl⟩, tv⟩
   ·refine Al (Ag Ay rfl (Bd rfl (qm rfl (Aa ?_))))
    exact sn [] h
  ·refine AS ?_
   exact sn [] h
 ·refine Ae hs (wq rfl (qe rfl ?_))
  obtain rfl := sj h
  refine Ae (sm [] [(4, iD ((-1)))] [] rfl rfl) (Ap ?_)
  exact ⟨⟨[_], tm, rfl⟩, tv⟩
theorem GN (N : Nat) (p0 : List (List Bool)) (p1 : (List Bool) → Option Bool) (r : Bool) (h : Ck N p0 p1 = some r) : Aq Tryz.prog 106 [pD (.sl (p0.map (Fg eB))), oD (.clo (MI (Rs false (Fg eB)) tB p1))] [] (bD r) := by
 unfold Ck at h
 refine cw (n := 9) (rs := [.tmp 4]) Tryz.func106 fun w0 S0 => ?_
 refine wq rfl (qa rfl (Aa (wq rfl (qw 2 rfl ?_))))
 refine BT h fun v1 a1 h => Ar [] (Hj N p0 p1 v1 a1) V6 rfl (El rfl (qe rfl ?_))
 obtain rfl := sj h
 refine Ae (sm [] [(4, bD ((decide (0 ≤ v1))))] [] rfl rfl) (Ap ?_)
 exact ⟨⟨[_], tm, rfl⟩, tv⟩
theorem Jl (N : Nat) (p0 : List (List Bool)) (p1 : Int) (p2 : Int) (r : Bool) (h : Ef N p0 p1 p2 = some r) : Aq Tryz.prog 96 [pD (.sl (p0.map (Fg eB))), iD p1, iD p2] [] (bD r) := by
 unfold Ef at h
 refine cw (n := 17) (rs := [.tmp 6]) Tryz.func96 fun w0 S0 => ?_
 refine wq rfl (qb rfl (qe rfl ?_))
 refine AK h (fun v1 => mk [(6, bD v1)] []) (fun j1 h => ?_) (fun v1 h => ?_)
 ·refine Ag Ay rfl (qm rfl (AB FI rfl (qm rfl (Bs rfl (qm rfl ?_)))))
  refine Dr 11 h rfl (fun h => ?_) fun h => ?_
  ·refine qm rfl (C6 (KV 5 [.val (.int .i64 p2)] rfl rfl) ?_)
   refine Qd (capD := [_]) (MI (Rs false (Fg eB)) tB ((fun (x : List Bool) => Db N x p2))) (.g rfl rfl) Wu rfl ⟨rfl, tv⟩ rfl (fun ar t ht => by obtain ⟨x, r, rfl, hq, rfl⟩ := NK ht; exact K6 N x p2 r hq) ?_
   refine BT h fun v3 a3 h => Ar [] (GN N p0 ((fun (x : List Bool) => Db N x p2)) v3 a3) Wb rfl (BX rfl (qp rfl (qe rfl ?_)))
   exact sn [] h
  ·refine qw 4 rfl (qp rfl (qe rfl ?_))
   exact sn [] h
 ·obtain rfl := sj h
  refine Ae (sm [] [(6, bD v1)] [] rfl rfl) (Ap ?_)
  exact ⟨⟨[_], tm, rfl⟩, tv⟩
theorem M2 (N : Nat) (p0 : Ab) (p1 : Av) (r : Int) (h : Fq N p0 p1 = some r) : Aq Tryz.prog 76 [.e (.agg (Ah p0)), .e (.agg (A7 p1))] [] (iD r) := by
 unfold Fq at h
 refine cw (n := 87) (rs := [.tmp 4]) Tryz.func76 fun w0 S0 => ?_
 refine wq rfl (qb rfl (qb rfl (qa rfl (Aa (wp rfl (qf E8 rfl (ql BL rfl (qf H8 rfl (ql Qu rfl ?_)))))))))
 refine BT h fun v1 a1 h => Ar [] (Oo N p1.ff p1.fp v1 a1) WI rfl (BX rfl (Aa ?_))
 refine Be h (fun h => ?_) fun h => ?_
 ·refine wq rfl (qe rfl ?_)
  obtain rfl := sj h
  refine Ae (sm [] [(4, iD 1)] [] rfl rfl) (Ap ?_)
  exact ⟨⟨[_], tm, rfl⟩, tv⟩
 ·refine Al (AN ?_)
  refine AK h (fun v3 => mk [(2, oD (.ptr 2 0)), (3, oD (.ptr 3 0)), (29, bD v3)] [(2, .box (Ah p0)), (3, .box (A7 p1))]) (fun j3 h => ?_) (fun v3 h => ?_)
  ·refine Ag Ay rfl (qf Ci rfl (ql BL rfl (qf Bg rfl (ql AW rfl (AB Au rfl ?_)))))
   refine BT h fun v4 a4 h => Ar [] (Gq N p1.fg ((p0.fb.length : Int)) v4 a4) SX rfl (BX rfl (qm rfl ?_))
   refine Dr 21 h rfl (fun h => ?_) fun h => ?_
   ·refine qw 7 rfl (qp rfl (Aa ?_))
    exact sn [] h
   ·refine qf Hw rfl (ql BL rfl (qf Bg rfl (ql AW rfl (AB Au rfl ?_))))
    refine BT h fun v6 a6 h => Ar [] (Gq N p1.fj ((p0.fb.length : Int)) v6 a6) SX rfl (BX rfl (qp rfl (Aa ?_)))
    exact sn [] h
  ·refine Be h (fun h => ?_) fun h => ?_
   ·refine wq rfl (qe rfl ?_)
    obtain rfl := sj h
    refine Ae (sm [] [(4, iD 4)] [] rfl rfl) (Ap ?_)
    exact ⟨⟨[_], tm, rfl⟩, tv⟩
   ·refine Al (wq rfl (qf Bg rfl (ql AW rfl (qf Ci rfl (ql BL rfl ?_)))))
    refine BS h fun v8 a8 b8 h => qi Au Cz a8 (Af b8) rfl (qk BL rfl (qa rfl (Aa (wq rfl (qf E8 rfl (ql BL rfl (Bs rfl (qa rfl (Aa (AN ?_))))))))))
    refine AK h (fun v9 => mk [(3, oD (.ptr 3 0)), (70, bD v9)] [(3, .box (A7 p1))]) (fun j9 h => ?_) (fun v9 h => ?_)
    ·refine Ag Ay rfl (qf IL rfl (ql Jj rfl (qm rfl (qf Bg rfl (ql AW rfl (qf Hw rfl (ql BL rfl ?_)))))))
     refine BS h fun v10 a10 b10 h => qi Au Cz a10 (Af b10) rfl (qk BL rfl ?_)
     refine BT h fun v11 a11 h => Ar [] (Jl N p1.fq v8 v10 v11 a11) V1 rfl (BX rfl (qm rfl ?_))
     refine Dr 50 h rfl (fun h => ?_) fun h => ?_
     ·refine qw 2 rfl (qu rfl (qu rfl (qu rfl (qu rfl (qu rfl (qu rfl (qn rfl (qp rfl (qw 4 rfl (qu rfl (qu rfl (qu rfl (qu rfl (qn rfl (qp rfl (AI (by kernel_rfl) ?_))))))))))))))))
      exact sn [] h
     ·refine qw 2 rfl ?_
      refine Dr 52 h rfl (fun h => ?_) fun h => ?_
      ·refine qf FX rfl (ql Jj rfl (qw 2 rfl ?_))
       refine BT h fun v14 a14 h => Ar [] (Jl N p1.fk v8 v8 v14 a14) V1 rfl (BX rfl (qp rfl (qp rfl (qm rfl ?_))))
       refine Dr 61 h rfl (fun h => ?_) fun h => ?_
       ·refine qw 3 rfl (qu rfl (qu rfl (qu rfl (qu rfl (qn rfl (qp rfl (AI (by kernel_rfl) ?_)))))))
        exact sn [] h
       ·refine qm rfl (BX rfl (qm rfl ?_))
        refine Dr 64 h rfl (fun h => ?_) fun h => ?_
        ·refine qf FX rfl (ql Jj rfl (AB FI rfl (EN rfl (qp rfl (qp rfl (AI (by kernel_rfl) ?_))))))
         exact sn [] h
        ·refine qw 4 rfl (qp rfl (qp rfl (AI (by kernel_rfl) ?_)))
         exact sn [] h
      ·refine qw 6 rfl (qp rfl (qp rfl (qw 2 rfl (BX rfl (qm rfl ?_)))))
       refine Dr 64 h rfl (fun h => ?_) fun h => ?_
       ·refine qf FX rfl (ql Jj rfl (AB FI rfl (EN rfl (qp rfl (qp rfl (AI (by kernel_rfl) ?_))))))
        exact sn [] h
       ·refine qw 4 rfl (qp rfl (qp rfl (AI (by kernel_rfl) ?_)))
        exact sn [] h
    ·refine Be h (fun h => ?_) fun h => ?_
     ·refine wq rfl (qe rfl ?_)
      obtain rfl := sj h
      refine Ae (sm [] [(4, iD 6)] [] rfl rfl) (Ap ?_)
      exact ⟨⟨[_], tm, rfl⟩, tv⟩
     ·refine Al (wp rfl (qf FX rfl (ql Jj rfl (AB FI rfl (qm rfl (Aa ?_))))))
      refine AH (L := Cx N p1) h (fun v19 => mk [(3, oD (.ptr 3 0)), (73, iD ((p1.fk.length : Int))), (74, iD v19)] [(3, .box (A7 p1))]) (fun v20 => mk [] []) (fun _ _ => rfl) (sm [] _ _ rfl rfl) (fun j19 n19 v19 h => ?_) (fun v20 s h hs => ?_)
      ·unfold Cx at h
       refine wq rfl (AT rfl (Aa (AN ?_)))
       refine Be h (fun h => ?_) fun h => ?_
       ·refine Al (AN (AM (wq rfl (qm rfl (qa rfl (Aa (wq rfl (qf FX rfl (ql Jj rfl (qm rfl ?_))))))))))
        refine BS h fun v22 a22 b22 h => qi FI LW a22 (Af b22) rfl (qk NT rfl (qm rfl ?_))
        refine BS h fun v23 a23 b23 h => qi GE Qg a23 (Af b23) rfl (qk Qu rfl (BX rfl (Aa ?_)))
        refine Be h (fun h => ?_) fun h => ?_
        ·refine wq rfl (qe rfl ?_)
         obtain rfl := sj h
         refine Ae (sm [] [(4, iD 1)] [] rfl rfl) (Ap ?_)
         exact ⟨⟨[_], tm, rfl⟩, tv⟩
        ·refine Al (Ag Ay rfl (Bd rfl (qm rfl (Aa ?_))))
         exact sn [] h
       ·refine AS ?_
        exact sn [] h
      ·refine Ae hs (wq rfl (qe rfl ?_))
       obtain rfl := sj h
       refine Ae (sm [] [(4, iD 0)] [] rfl rfl) (Ap ?_)
       exact ⟨⟨[_], tm, rfl⟩, tv⟩
theorem Fv (N : Nat) (p0 : Ab) (r : Int) (h : Cg N p0 = some r) : Aq Tryz.prog 50 [.e (.agg (Ah p0))] [] (iD r) := by
 unfold Cg at h
 refine cw (n := 81) (rs := [.tmp 2]) Tryz.func50 fun w0 S0 => ?_
 refine wq rfl (qb rfl (qa rfl (Aa (wq rfl (qf Bg rfl (ql AW rfl (AB Au rfl (qa rfl (Aa (AN ?_))))))))))
 refine AK h (fun v1 => mk [(1, oD (.ptr 1 0)), (3, iD ((p0.fb.length : Int))), (19, bD v1)] [(1, .box (Ah p0))]) (fun j1 h => ?_) (fun v1 h => ?_)
 ·refine Ag Ay rfl (qm rfl (EN rfl (qm rfl ?_)))
  refine Dr 14 h rfl (fun h => ?_) fun h => ?_
  ·refine qw 4 rfl (qp rfl (Aa ?_))
   exact sn [] h
  ·refine qf Ce rfl (ql GF rfl (AB DJ rfl (EN rfl (qp rfl (Aa ?_)))))
   exact sn [] h
 ·refine Be h (fun h => ?_) fun h => ?_
  ·refine wq rfl (qe rfl ?_)
   obtain rfl := sj h
   refine Ae (sm [] [(2, iD 3)] [] rfl rfl) (Ap ?_)
   exact ⟨⟨[_], tm, rfl⟩, tv⟩
  ·refine Al (AN ?_)
   refine AK h (fun v4 => mk [(1, oD (.ptr 1 0)), (31, bD v4)] [(1, .box (Ah p0))]) (fun j4 h => ?_) (fun v4 h => ?_)
   ·refine Ag Ay rfl (qf F1 rfl (ql AW rfl (AB Au rfl (qm rfl (BF rfl (qm rfl ?_))))))
    refine Dr 25 h rfl (fun h => ?_) fun h => ?_
    ·refine qw 5 rfl (qp rfl (Aa ?_))
     exact sn [] h
    ·refine qf Ia rfl (ql AW rfl (AB Au rfl (qm rfl (BF rfl (qp rfl (Aa ?_))))))
     exact sn [] h
   ·refine Be h (fun h => ?_) fun h => ?_
    ·refine wq rfl (qe rfl ?_)
     obtain rfl := sj h
     refine Ae (sm [] [(2, iD 6)] [] rfl rfl) (Ap ?_)
     exact ⟨⟨[_], tm, rfl⟩, tv⟩
    ·refine Al (wp rfl (qf Bg rfl (ql AW rfl (AB Au rfl (qm rfl (Aa ?_))))))
     refine AH (L := By N p0) h (fun v7 => mk [(1, oD (.ptr 1 0)), (33, pD (.sl (p0.fb.map An))), (34, iD ((p0.fb.length : Int))), (35, iD v7)] [(1, .box (Ah p0))]) (fun v8 => mk [(1, oD (.ptr 1 0))] [(1, .box (Ah p0))]) (fun _ _ => rfl) (sm [] _ _ rfl rfl) (fun j7 n7 v7 h => ?_) (fun v8 s h hs => ?_)
     ·unfold By at h
      refine wq rfl (AT rfl (Aa (AN ?_)))
      refine Be h (fun h => ?_) fun h => ?_
      ·refine Al (AN (AM (wq rfl (qm rfl ?_))))
       refine BS h fun v10 a10 b10 h => qi Au Cz a10 (Af b10) rfl (qk BL rfl (qa rfl (qe rfl ?_)))
       refine AK h (fun v11 => mk [(1, oD (.ptr 1 0)), (33, pD (.sl (p0.fb.map An))), (34, iD ((p0.fb.length : Int))), (35, iD v7), (65, bD v11)] [(1, .box (Ah p0))]) (fun j11 h => ?_) (fun v11 h => ?_)
       ·refine Ag Ay rfl (qm rfl (AT rfl (qm rfl ?_)))
        refine Dr 42 h rfl (fun h => ?_) fun h => ?_
        ·refine qw 2 rfl (qp rfl (qw 9 rfl (qp rfl (qw 9 rfl (qp rfl (Aa ?_))))))
         exact sn [] h
        ·refine qm rfl (EN rfl (qp rfl (qm rfl ?_)))
         refine Dr 46 h rfl (fun h => ?_) fun h => ?_
         ·refine qw 8 rfl (qp rfl (qw 9 rfl (qp rfl (Aa ?_))))
          exact sn [] h
         ·refine qf F1 rfl (ql AW rfl (qm rfl ?_))
          refine BS h fun v14 a14 b14 h => qi Au Cz a14 (Af b14) rfl (qk BL rfl (qm rfl ?_))
          refine BT h fun v15 a15 h => Ar [] (Gq N v14 v10 v15 a15) SX rfl (BX rfl (qp rfl (qm rfl ?_)))
          refine Dr 56 h rfl (fun h => ?_) fun h => ?_
          ·refine qw 8 rfl (qp rfl (Aa ?_))
           exact sn [] h
          ·refine qf Ia rfl (ql AW rfl (qm rfl ?_))
           refine BS h fun v17 a17 b17 h => qi Au Cz a17 (Af b17) rfl (qk BL rfl (qm rfl ?_))
           refine BT h fun v18 a18 h => Ar [] (Gq N v17 v10 v18 a18) SX rfl (BX rfl (qp rfl (Aa ?_)))
           exact sn [] h
       ·refine Be h (fun h => ?_) fun h => ?_
        ·refine wq rfl (qe rfl ?_)
         obtain rfl := sj h
         refine Ae (sm [] [(2, iD 7)] [] rfl rfl) (Ap ?_)
         exact ⟨⟨[_], tm, rfl⟩, tv⟩
        ·refine Al (Ag Ay rfl (Bd rfl (qm rfl (Aa ?_))))
         exact sn [] h
      ·refine AS ?_
       exact sn [] h
     ·refine Ae hs (wp rfl (qf Ce rfl (ql GF rfl (AB DJ rfl (qm rfl (Aa ?_))))))
      refine AH (L := Br N p0) h (fun v20 => mk [(1, oD (.ptr 1 0)), (68, pD (.sl (p0.fe.map AQ))), (69, iD ((p0.fe.length : Int))), (70, iD v20)] [(1, .box (Ah p0))]) (fun v21 => mk [] []) (fun _ _ => rfl) (sm [] _ _ rfl rfl) (fun j20 n20 v20 h => ?_) (fun v21 s h hs => ?_)
      ·unfold Br at h
       refine wq rfl (AT rfl (Aa (AN ?_)))
       refine Be h (fun h => ?_) fun h => ?_
       ·refine Al (AN (AM (wq rfl ?_)))
        refine BS h fun v23 a23 b23 h => qi DJ Du a23 (Af b23) rfl (qK GB Du rfl (qz KR rfl (qs Du rfl (Aa (wq rfl (qL CT Cy rfl (qL GB Du rfl ?_)))))))
        refine BT h fun v24 a24 h => Ar [] (M2 N p0 v23 v24 a24) WV rfl (qa rfl (Aa (wq rfl (qm rfl (BF rfl (Aa ?_))))))
        refine Be h (fun h => ?_) fun h => ?_
        ·refine wq rfl (qm rfl (qe rfl ?_))
         obtain rfl := sj h
         refine Ae (sm [] [(2, iD v24)] [] rfl rfl) (Ap ?_)
         exact ⟨⟨[_], tm, rfl⟩, tv⟩
        ·refine Al (Ag Ay rfl (Bd rfl (qm rfl (Aa ?_))))
         exact sn [] h
       ·refine AS ?_
        exact sn [] h
      ·refine Ae hs (wq rfl (qe rfl ?_))
       obtain rfl := sj h
       refine Ae (sm [] [(2, iD 0)] [] rfl rfl) (Ap ?_)
       exact ⟨⟨[_], tm, rfl⟩, tv⟩
theorem Di (N : Nat) (p0 : List Int) (r : (List Int)) (h : Bq N p0 = some r) : Aq Tryz.prog 66 [pD (.sl (p0.map An))] [(1, r.map An)] (oD (.own 0)) := by
 unfold Bq at h
 refine cw (n := 8) (rs := [.tmp 2]) Tryz.func66 fun w0 S0 => ?_
 refine wq rfl (qa rfl (Aa (wp rfl (qm rfl ?_))))
 refine Oz (.p rfl) rfl Au ?_
 refine Aa ?_
 refine N5 rfl (fun c2 => ?_) ?_
 ·have c2 := List.map_eq_nil_iff.1 c2
  rw [c2] at h
  have h : (some (([] : List Int))) = some r := h
  refine wq rfl (qe rfl ?_)
  obtain rfl := sj h
  refine Ae ((B2 2 2001 1 rfl rfl rfl).trans (sm [(1000, 2001)] [(2, oD (.own 1000))] [(1000, .vec 1 ((([] : List Int)).map An))] rfl rfl)) (Ap ?_)
  exact ⟨⟨[_], tm, rfl⟩, ⟨rfl, tv⟩⟩
 ·refine Al (wq rfl (D4 Au Cz I0 rfl (qm rfl ?_)))
  refine Ex h fun c1 h => HJ (f := An) Au Au Cz Ja I0 (fun _ => rfl) c1 rfl (qe rfl ?_)
  obtain rfl := sj h
  refine Ae (sm [(1000, 7)] [(2, oD (.own 1000))] [(1000, .vec 1 (((([] : List Int)) ++ p0).map An))] rfl rfl) (Ap ?_)
  exact ⟨⟨[_], tm, rfl⟩, ⟨rfl, tv⟩⟩
theorem Kq (N : Nat) (p0 : Int) (p1 : Int) (r : Int × Int) (h : F4 N p0 p1 = some r) : Aq Tryz.prog 104 [pD (.val (.int .u32 p0)), pD (.val (.int .u32 p1))] [] (.tup [.one (.pure (.val (.int .u32 r.1))), .one (.pure (.val (.int .u32 r.2)))]) := by
 unfold F4 at h
 refine cw (n := 17) (rs := [.tmp 4, .tmp 5]) Tryz.func104 fun w0 S0 => ?_
 refine wq rfl (qa rfl (qa rfl (Aa (wq rfl (qm rfl (Iu Qq Um rfl (qm rfl (Iu Qq Um rfl (Km rfl (qa rfl (Aa (wq rfl (qm rfl (Iv rfl (by decide) (Iu Ug QP rfl (qm rfl (Iu Ug QP rfl (qa rfl (qe rfl ?_)))))))))))))))))))
 obtain rfl := sj h
 refine Ae (sm [] [(4, pD (.val (.int .u32 ((wI .u32 ((EL .u64 ((wI .u64 ((wI .u64 p0) * (wI .u64 p1)))) 32))))))), (5, pD (.val (.int .u32 ((wI .u32 ((wI .u64 ((wI .u64 p0) * (wI .u64 p1)))))))))] [] rfl rfl) (Ap ?_)
 exact ⟨⟨[_, _], ⟨.tmp _ _ rfl, tm⟩, rfl⟩, tv⟩
theorem Kv (N : Nat) (p0 : Int) (p1 : Int) (r : Int × Int) (h : F6 N p0 p1 = some r) : Aq Tryz.prog 105 [pD (.val (.int .u64 p0)), pD (.val (.int .u64 p1))] [] (.tup [.one (.pure (.val (.int .u64 r.1))), .one (.pure (.val (.int .u64 r.2)))]) := by
 unfold F6 at h
 refine cw (n := 51) (rs := [.tmp 4, .tmp 5]) Tryz.func105 fun w0 S0 => ?_
 refine wq rfl (qa rfl (qa rfl (Aa (wq rfl (qm rfl (KS rfl (qa rfl (Aa (wq rfl (qm rfl (Iv rfl (by decide) (qa rfl (Aa (wq rfl (qm rfl (KS rfl (qa rfl (Aa (wq rfl (qm rfl (Iv rfl (by decide) (qa rfl (Aa (wq rfl (qw 2 rfl (Km rfl (qa rfl (Aa (wq rfl (qw 2 rfl ?_))))))))))))))))))))))))))))))
 refine Km rfl (qm rfl (Iv rfl (by decide) (Bd rfl (qa rfl (Aa (wq rfl (qm rfl (KS rfl (qa rfl (Aa (wq rfl (qm rfl (Iv rfl (by decide) (qa rfl (Aa (wq rfl (qw 3 rfl (Km rfl (Bd rfl (qa rfl (Aa (wq rfl (qw 2 rfl (Km rfl (qm rfl (Bd rfl (qm rfl (Iv rfl (by decide) (Bd rfl (qa rfl (Aa (AN ?_))))))))))))))))))))))))))))))))
 refine Ag Ay rfl (qw 2 rfl (Km rfl (qe rfl ?_)))
 obtain rfl := sj h
 refine Ae (sm [] [(4, pD (.val (.int .u64 ((wI .u64 ((wI .u64 ((wI .u64 ((EL .u64 p0 32) * (EL .u64 p1 32))) + (EL .u64 ((wI .u64 ((wI .u64 ((EL .u64 p0 32) * (EM .u64 p1 4294967295))) + (EL .u64 ((wI .u64 ((EM .u64 p0 4294967295) * (EM .u64 p1 4294967295)))) 32)))) 32))) + (EL .u64 ((wI .u64 ((EM .u64 ((wI .u64 ((wI .u64 ((EL .u64 p0 32) * (EM .u64 p1 4294967295))) + (EL .u64 ((wI .u64 ((EM .u64 p0 4294967295) * (EM .u64 p1 4294967295)))) 32)))) 4294967295) + (wI .u64 ((EM .u64 p0 4294967295) * (EL .u64 p1 32)))))) 32))))))), (5, pD (.val (.int .u64 ((wI .u64 (p0 * p1))))))] [] rfl rfl) (Ap ?_)
 exact ⟨⟨[_, _], ⟨.tmp _ _ rfl, tm⟩, rfl⟩, tv⟩
theorem LL (N : Nat) (p0 : Int) (p1 : Int) (r : Int × Int) (h : GV N p0 p1 = some r) : Aq Tryz.prog 91 [pD (.val (.int .u64 p0)), pD (.val (.int .u64 p1))] [] (.tup [.one (.pure (.val (.int .u64 r.1))), .one (.pure (.val (.int .u64 r.2)))]) := by
 unfold GV at h
 refine cw (n := 30) (rs := [.tmp 4, .tmp 5]) Tryz.func91 fun w0 S0 => ?_
 refine wq rfl (qa rfl (qa rfl (Aa (AN ?_))))
 refine Be h (fun h => ?_) fun h => ?_
 ·refine wq rfl (qm rfl (Iu RK QP rfl (qm rfl (Iu RK QP rfl ?_))))
  refine BT h fun v2 a2 h => Ar [] (Kq N ((wI .u32 p0)) ((wI .u32 p1)) v2 a2) VV rfl (qm rfl (qx rfl (qx rfl (qa rfl (qa rfl (Aa (wq rfl (qm rfl (Iu Qq Qn rfl (qm rfl (Iu Qq Qn rfl (qa rfl (qe rfl ?_)))))))))))))
  obtain rfl := sj h
  refine Ae (sm [] [(4, pD (.val (.int .u64 ((wI .u64 v2.1))))), (5, pD (.val (.int .u64 ((wI .u64 v2.2)))))] [] rfl rfl) (Ap ?_)
  exact ⟨⟨[_, _], ⟨.tmp _ _ rfl, tm⟩, rfl⟩, tv⟩
 ·refine Al (wq rfl (qw 2 rfl ?_))
  refine BT h fun v3 a3 h => Ar [] (Kv N p0 p1 v3 a3) V5 rfl (qm rfl (qx rfl (qx rfl (qa rfl (qa rfl (Aa (wq rfl (qw 2 rfl (qa rfl (qe rfl ?_))))))))))
  obtain rfl := sj h
  refine Ae (sm [] [(4, pD (.val (.int .u64 v3.1))), (5, pD (.val (.int .u64 v3.2)))] [] rfl rfl) (Ap ?_)
  exact ⟨⟨[_, _], ⟨.tmp _ _ rfl, tm⟩, rfl⟩, tv⟩
theorem IA (N : Nat) (p0 : List Int) (p1 : Int) (r : (List Int)) (h : Ev N p0 p1 = some r) : Aq Tryz.prog 67 [pD (.sl (p0.map An)), iD p1] [(1, r.map An)] (oD (.own 0)) := by
 unfold Ev at h
 refine cw (n := 48) (rs := [.tmp 4]) Tryz.func67 fun w0 S0 => ?_
 refine wq rfl (qe rfl ?_)
 refine AK h (fun v1 => mk [(0, pD (.sl (p0.map An))), (1, iD p1)] []) (fun j1 h => ?_) (fun v1 h => ?_)
 ·refine wq rfl (qm rfl (AT rfl (Aa ?_)))
  refine Be h (fun h => ?_) fun h => ?_
  ·refine Ag Ay rfl ?_
   cases h
  ·refine Al ?_
   exact sn [] h
 ·refine wq rfl (qm rfl (AB Au rfl (Iu XH Qn rfl (qm rfl (Iu XH Qn rfl ?_)))))
  refine BT h fun v3 a3 h => Ar [] (LL N ((wI .u64 ((p0.length : Int)))) ((wI .u64 p1)) v3 a3) XA rfl (qm rfl (qx rfl (qx rfl (qa rfl (qe rfl ?_)))))
  refine AK h (fun v4 => mk [(0, pD (.sl (p0.map An))), (6, pD (.val (.int .u64 v3.2)))] []) (fun j4 h => ?_) (fun v4 h => ?_)
  ·refine AK h (fun v5 => mk [(0, pD (.sl (p0.map An))), (6, pD (.val (.int .u64 v3.2))), (26, bD v5)] []) (fun j5 h => ?_) (fun v5 h => ?_)
   ·refine Ag Ay rfl (qm rfl (EN rfl (qm rfl ?_)))
    refine Dr 23 h rfl (fun h => ?_) fun h => ?_
    ·refine qw 2 rfl (qp rfl (Aa ?_))
     exact sn [] h
    ·refine qm rfl (EN rfl (qp rfl (Aa ?_)))
     exact sn [] h
   ·refine Be h (fun h => ?_) fun h => ?_
    ·refine Ag Ay rfl ?_
     cases h
    ·refine Al ?_
     exact sn [] h
  ·refine wq rfl (qm rfl (Iu RK Tr rfl ?_))
   refine Ex h fun c8 h => Lq (.p rfl) rfl rfl rfl Au Cz Ja (IE rfl) I0 rfl rfl rfl c8.1 c8.2.1 c8.2.2 (QL An _ ((0 : Int))) ?_
   refine qa rfl (Aa (wq rfl (qw 2 rfl ?_)))
   refine Qv An (List.replicate ((wI .i64 v3.2)).toNat ((0 : Int))) p0 (.p rfl) rfl (Je An _ _ (List.replicate ((wI .i64 v3.2)).toNat ((0 : Int)))) rfl rfl (Tt An _ _ (fun _ => rfl)) tv Au Cz ?_
   refine qa rfl (Aa (AN ?_))
   refine AH (L := C5 N) h (fun v9 => mk [(7, oD (.own 2001)), (8, iD v9.2)] [(2001, .vec 1 (v9.1.map An))]) (fun v10 => mk [(7, oD (.own 2002))] [(2002, .vec 1 (v10.map An))]) (fun _ _ => rfl) (sm [(2001, 30)] _ _ rfl rfl) (fun j9 n9 v9 h => ?_) (fun v10 s h hs => ?_)
   ·unfold C5 at h
    refine wp rfl (qw 2 rfl (FF Au rfl (AT rfl (Aa ?_))))
    refine Be h (fun h => ?_) fun h => ?_
    ·refine Al (AM (Ag Ay rfl (qw 3 rfl ?_)))
     obtain ⟨c12, h⟩ := Gx h
     have w13 : ((v9.2).toNat) + ((v9.1.length - (v9.2).toNat)) ≤ v9.1.length := by have := c12.2.1; have := c12.2.2; omega
     refine Jv An v9.1 (.p rfl) rfl (Je An _ _ v9.1) rfl Au Cz (.some _ _ _ _ c12.1) (.none _) ⟨rfl, tv⟩ tv c12.2.1 (by rw [Nat.zero_add]; exact c12.2.2) (Nat.zero_add _) rfl ?_
     refine qw 2 rfl ?_
     obtain ⟨c14, h⟩ := Gx h
     have w15 : 0 + ((v9.2).toNat) ≤ v9.1.length := by have := c14.2.1; have := c14.2.2; omega
     refine Jv An v9.1 (.p rfl) rfl (Je An _ _ v9.1) rfl Au Cz (.none _) (.some _ _ _ _ c14.1) tv ⟨rfl, tv⟩ c14.2.1 (by rw [Nat.zero_add]; exact c14.2.2) (Nat.zero_add _) rfl ?_
     refine Qv An v9.1 (((v9.1.drop 0).take ((v9.2).toNat))) (.p rfl) rfl (JC An _ _ ((v9.2).toNat) ((v9.1.length - (v9.2).toNat)) v9.1 w13) rfl rfl (NO An _ _ 0 ((v9.2).toNat) v9.1 w15) ⟨rfl, tv⟩ Au Cz ?_
     refine Bd rfl (qa rfl (AI (by kernel_rfl) ?_))
     exact sn [] h
    ·refine AS ?_
     exact sn [(2002, 2001)] h
   ·refine Ae hs (wq rfl (qm rfl (qe rfl ?_)))
    obtain rfl := sj h
    refine Ae (sm [(1000, 2002)] [(4, oD (.own 1000))] [(1000, .vec 1 (v10.map An))] rfl rfl) (Ap ?_)
    exact ⟨⟨[_], tm, rfl⟩, ⟨rfl, tv⟩⟩
theorem IQ (N : Nat) (p0 : Av) (r : Bool) (h : Er N p0 = some r) : Aq Tryz.prog 51 [.e (.agg (A7 p0))] [] (bD r) := by
 unfold Er at h
 refine cw (n := 11) (rs := [.tmp 2]) Tryz.func51 fun w0 S0 => ?_
 refine wq rfl (qb rfl (qe rfl ?_))
 refine AK h (fun v1 => mk [(2, bD v1)] []) (fun j1 h => ?_) (fun v1 h => ?_)
 ·refine Ag Ay rfl (qf E8 rfl (ql BL rfl (Bs rfl (qm rfl ?_))))
  refine Dr 6 h rfl (fun h => ?_) fun h => ?_
  ·refine qw 3 rfl (qp rfl (qe rfl ?_))
   exact sn [] h
  ·refine qf E8 rfl (ql BL rfl (Bs rfl (qp rfl (qe rfl ?_))))
   exact sn [] h
 ·obtain rfl := sj h
  refine Ae (sm [] [(2, bD v1)] [] rfl rfl) (Ap ?_)
  exact ⟨⟨[_], tm, rfl⟩, tv⟩
theorem I8 (N : Nat) (p0 : Ab) (r : Ac × Int) (h : Gz N p0 = some r) : Aq Tryz.prog 44 [.e (.agg (Ah p0))] [(1, r.1.fd.map An), (1, r.1.fa.map An), (1, r.1.fc.map B3)] (.tup [.agg [.own 0, .own 1, .own 2], .one (iC r.2)]) := by
 unfold Gz at h
 refine cw (n := 50) (rs := [.cell 2 38, .tmp 3]) Tryz.func44 fun w0 S0 => ?_
 refine wq rfl (qb rfl (qz Cc rfl (qa rfl (Aa (wp rfl (qL CT Cy rfl ?_))))))
 refine BT h fun v1 a1 h => Ar [] (Fv N p0 v1 a1) U3 rfl (qa rfl (Aa (wq rfl (qm rfl (BF rfl (Aa ?_))))))
 refine Be h (fun h => ?_) fun h => ?_
 ·refine wq rfl (A8 Cc F3 rfl (qm rfl (qs AF rfl (qe rfl ?_))))
  obtain rfl := sj h
  refine Ae ((Ax 2 0 2001 1 _ rfl rfl rfl rfl).trans ((Ax 2 1 2002 1 _ rfl rfl rfl rfl).trans ((Ax 2 2 2003 1 _ rfl rfl rfl rfl).trans (sm [(1000, 2001), (1001, 2002), (1002, 2003)] [(2, oD (.ptr 2 0)), (3, iD v1)] [(2, .box [.own 1000, .own 1001, .own 1002]), (1000, .vec 1 ((([] : List Int)).map An)), (1001, .vec 1 ((([] : List Int)).map An)), (1002, .vec 1 ((([] : List Int)).map B3))] rfl rfl)))) (Ap ?_)
  exact ⟨⟨[_, _], ⟨.cellN _ _ _ _ _ _ _ rfl rfl A3 AF rfl rfl (GS rfl), tm⟩, rfl⟩, ⟨rfl, rfl, rfl, tv⟩⟩
 ·refine Al (wq rfl (qf F1 rfl (ql AW rfl ?_)))
  refine BT h fun v3 a3 h => Ar [2004] (Di N p0.fm v3 a3) Sl rfl (D4 Au Cz I0 rfl (qf F1 rfl (ql AW rfl (AB Au rfl ?_))))
  refine BT h fun v4 a4 h => G6 [2005] [17] (IA N (([(-1)] : List Int)) ((p0.fm.length : Int)) v4 a4) Xz (IN (fun _ => rfl) E4) rfl (qf Ce rfl (ql GF rfl (AB DJ rfl ?_)))
  refine Ex h fun c5 h => Lq (.p rfl) rfl rfl rfl Cv EP Nj (IE rfl) Mn rfl rfl rfl c5.1 c5.2.1 c5.2.2 (QL B3 _ ((0 : Int))) ?_
  refine A8 Cc F3 rfl (qz Cc rfl (qs AF rfl (AI (by kernel_rfl) (wp rfl (qf Ce rfl (ql GF rfl (AB DJ rfl (qm rfl (Aa ?_)))))))))
  refine AH (L := F0 N p0) h (fun v6 => mk [(1, oD (.ptr 1 0)), (2, oD (.ptr 2 0)), (5, oD (.ptr 5 0)), (28, pD (.sl (p0.fe.map AQ))), (29, iD ((p0.fe.length : Int))), (30, iD v6.2)] [(1, .box (Ah p0)), (2, .box [.pure (.nil0), .pure (.nil0), .pure (.nil0)]), (5, .box [.own 2006, .own 2007, .own 2008]), (2006, .vec 1 (v3.map An)), (2007, .vec 1 (v4.map An)), (2008, .vec 1 (v6.1.map B3))]) (fun v7 => mk [(2, oD (.ptr 2 0)), (5, oD (.ptr 5 0))] [(2, .box [.pure (.nil0), .pure (.nil0), .pure (.nil0)]), (5, .box [.own 2009, .own 2010, .own 2011]), (2009, .vec 1 (v3.map An)), (2010, .vec 1 (v4.map An)), (2011, .vec 1 (v7.map B3))]) (fun _ _ => rfl) (sm [(2006, 2004), (2007, 2005), (2008, 25)] _ _ rfl rfl) (fun j6 n6 v6 h => ?_) (fun v7 s h hs => ?_)
  ·unfold F0 at h
   refine wq rfl (AT rfl (Aa (AN ?_)))
   refine Be h (fun h => ?_) fun h => ?_
   ·refine Al ?_
    refine AK h (fun v9 => mk [(1, oD (.ptr 1 0)), (2, oD (.ptr 2 0)), (5, oD (.ptr 5 0)), (28, pD (.sl (p0.fe.map AQ))), (29, iD ((p0.fe.length : Int))), (30, iD v6.2)] [(1, .box (Ah p0)), (2, .box [.pure (.nil0), .pure (.nil0), .pure (.nil0)]), (5, .box [.own 2012, .own 2013, .own 2014]), (2012, .vec 1 (v3.map An)), (2013, .vec 1 (v4.map An)), (2014, .vec 1 (v9.map B3))]) (fun j9 h => ?_) (fun v9 h => ?_)
    ·refine AM (wq rfl (qm rfl ?_))
     refine BS h fun v10 a10 b10 h => qi DJ Du a10 (Af b10) rfl (qK GB Du rfl (qz KR rfl (qa rfl (qs Du rfl (Aa (wq rfl (qL GB Du rfl ?_)))))))
     refine BT h fun v11 a11 h => Ar [] (IQ N v10 v11 a11) Uz rfl (Aa ?_)
     refine Be h (fun h => ?_) fun h => ?_
     ·refine Ag Ay rfl (qf BZ rfl (ql F5 rfl (qm rfl (qf F1 rfl (ql AW rfl (qf Ci rfl (ql BL rfl ?_)))))))
      refine BS h fun v13 a13 b13 h => qi Au Cz a13 (Af b13) rfl (qk BL rfl ?_)
      refine Ex h fun c14 h => HU rfl c14 ?_
      refine BS h fun v15 a15 b15 h => qI Cv EP a15 (Af b15) rfl ?_
      refine Ek rfl rfl rfl rfl (Af b15) rfl EP rfl (IE rfl) (Ej B3 v6.1 _ ((C8 .u8 1 v13))) ?_
      refine AI (by kernel_rfl) ?_
      exact sn [(2012, 2006), (2013, 2007), (2014, 2008)] h
     ·refine Al ?_
      exact sn [(2012, 2006), (2013, 2007), (2014, 2008)] h
    ·refine Ag Ay rfl (Bd rfl (qm rfl (Aa ?_)))
     exact sn [(2006, 2012), (2007, 2013), (2008, 2014)] h
   ·refine AS ?_
    exact sn [(2009, 2006), (2010, 2007), (2011, 2008)] h
  ·refine Ae hs (wq rfl (qL A3 AF rfl (qs AF rfl (qe rfl ?_))))
   obtain rfl := sj h
   refine Ae (sm [(1000, 2009), (1001, 2010), (1002, 2011)] [(2, oD (.ptr 2 0)), (3, iD 0)] [(2, .box [.own 1000, .own 1001, .own 1002]), (1000, .vec 1 (v3.map An)), (1001, .vec 1 (v4.map An)), (1002, .vec 1 (v7.map B3))] rfl rfl) (Ap ?_)
   exact ⟨⟨[_, _], ⟨.cellN _ _ _ _ _ _ _ rfl rfl A3 AF rfl rfl (GS rfl), tm⟩, rfl⟩, ⟨rfl, rfl, rfl, tv⟩⟩
theorem In (N : Nat) (p0 : Ac) (p1 : Int) (r : Int) (h : Ed N p0 p1 = some r) : Aq Tryz.prog 52 [.e (.agg (Az p0)), iD p1] [] (pD (.val (.int .u8 r))) := by
 unfold Ed at h
 refine cw (n := 27) (rs := [.tmp 4]) Tryz.func52 fun w0 S0 => ?_
 refine wq rfl (qb rfl (qa rfl (Aa (wq rfl (qf Cf rfl (ql AW rfl (qm rfl ?_)))))))
 refine BS h fun v1 a1 b1 h => qi Au Cz a1 (Af b1) rfl (qk BL rfl ?_)
 refine Ex h fun c2 h => HU rfl c2 (qe rfl ?_)
 refine AK h (fun v3 => mk [(5, pD (.val (.int .u8 v3)))] []) (fun j3 h => ?_) (fun v3 h => ?_)
 ·refine wq rfl (qf Bf rfl (ql AW rfl (qm rfl ?_)))
  refine BS h fun v4 a4 b4 h => qi Au Cz a4 (Af b4) rfl (qk BL rfl (El rfl (Aa ?_)))
  refine Be h (fun h => ?_) fun h => ?_
  ·refine Ag Ay rfl (qm rfl (qf Bf rfl (ql AW rfl (qm rfl ?_))))
   refine BS h fun v6 a6 b6 h => qi Au Cz a6 (Af b6) rfl (qk BL rfl ?_)
   refine Ex h fun c7 h => HU rfl c7 (Q2 rfl (qe rfl ?_))
   exact sn [] h
  ·refine Al ?_
   exact sn [] h
 ·refine wq rfl (qm rfl (qe rfl ?_))
  obtain rfl := sj h
  refine Ae (sm [] [(4, pD (.val (.int .u8 v3)))] [] rfl rfl) (Ap ?_)
  exact ⟨⟨[_], tm, rfl⟩, tv⟩
theorem Ih (N : Nat) (p0 : Ab) (p1 : Ac) (r : Int) (h : Ei N p0 p1 = some r) : Aq Tryz.prog 29 [.e (.agg (Ah p0)), .e (.agg (Az p1))] [] (iD r) := by
 unfold Ei at h
 refine cw (n := 135) (rs := [.tmp 4]) Tryz.func29 fun w0 S0 => ?_
 refine wq rfl (qb rfl (qb rfl (qa rfl (Aa (wp rfl (qL CT Cy rfl ?_))))))
 refine BT h fun v1 a1 h => Ar [] (Fv N p0 v1 a1) U3 rfl (qa rfl (Aa (wq rfl (qm rfl (BF rfl (Aa ?_))))))
 refine Be h (fun h => ?_) fun h => ?_
 ·refine wq rfl (qm rfl (qe rfl ?_))
  obtain rfl := sj h
  refine Ae (sm [] [(4, iD v1)] [] rfl rfl) (Ap ?_)
  exact ⟨⟨[_], tm, rfl⟩, tv⟩
 ·refine Al (AN ?_)
  refine AK h (fun v3 => mk [(2, oD (.ptr 2 0)), (3, oD (.ptr 3 0)), (41, bD v3)] [(2, .box (Ah p0)), (3, .box (Az p1))]) (fun j3 h => ?_) (fun v3 h => ?_)
  ·refine Ag Ay rfl (qf Cf rfl (ql AW rfl (AB Au rfl (qf Bg rfl (ql AW rfl (AB Au rfl (BF rfl (qm rfl ?_))))))))
   refine Dr 24 h rfl (fun h => ?_) fun h => ?_
   ·refine qw 7 rfl (qp rfl (qw 8 rfl (qp rfl (Aa ?_))))
    exact sn [] h
   ·refine qf Bf rfl (ql AW rfl (AB Au rfl (qf Bg rfl (ql AW rfl (AB Au rfl (BF rfl (qp rfl (qm rfl ?_))))))))
    refine Dr 33 h rfl (fun h => ?_) fun h => ?_
    ·refine qw 7 rfl (qp rfl (Aa ?_))
     exact sn [] h
    ·refine qf BZ rfl (ql F5 rfl (AB Cv rfl (qf Ce rfl (ql GF rfl (AB DJ rfl (BF rfl (qp rfl (Aa ?_))))))))
     exact sn [] h
  ·refine Be h (fun h => ?_) fun h => ?_
   ·refine wq rfl (qe rfl ?_)
    obtain rfl := sj h
    refine Ae (sm [] [(4, iD 6)] [] rfl rfl) (Ap ?_)
    exact ⟨⟨[_], tm, rfl⟩, tv⟩
   ·refine Al (wp rfl (qf Bg rfl (ql AW rfl (AB Au rfl (qm rfl (Aa ?_))))))
    refine AH (L := Dq N p0 p1) h (fun v7 => mk [(2, oD (.ptr 2 0)), (3, oD (.ptr 3 0)), (43, pD (.sl (p0.fb.map An))), (44, iD ((p0.fb.length : Int))), (45, iD v7)] [(2, .box (Ah p0)), (3, .box (Az p1))]) (fun v8 => mk [(2, oD (.ptr 2 0)), (3, oD (.ptr 3 0))] [(2, .box (Ah p0)), (3, .box (Az p1))]) (fun _ _ => rfl) (sm [] _ _ rfl rfl) (fun j7 n7 v7 h => ?_) (fun v8 s h hs => ?_)
    ·unfold Dq at h
     refine wq rfl (AT rfl (Aa (AN ?_)))
     refine Be h (fun h => ?_) fun h => ?_
     ·refine Al (AN (AM (wq rfl (qm rfl ?_))))
      refine BS h fun v10 a10 b10 h => qi Au Cz a10 (Af b10) rfl (qk BL rfl (qa rfl (qa rfl (Aa (AN ?_)))))
      refine AK h (fun v11 => mk [(2, oD (.ptr 2 0)), (3, oD (.ptr 3 0)), (6, iD v7), (43, pD (.sl (p0.fb.map An))), (44, iD ((p0.fb.length : Int))), (45, iD v7), (81, bD v11)] [(2, .box (Ah p0)), (3, .box (Az p1))]) (fun j11 h => ?_) (fun v11 h => ?_)
      ·refine Ag Ay rfl (qf Cf rfl (ql AW rfl (qm rfl ?_)))
       refine BS h fun v12 a12 b12 h => qi Au Cz a12 (Af b12) rfl (qk BL rfl (AT rfl (qm rfl ?_)))
       refine Dr 56 h rfl (fun h => ?_) fun h => ?_
       ·refine qw 7 rfl (qp rfl (qw 7 rfl (qp rfl (qw 8 rfl (qp rfl (Aa ?_))))))
        exact sn [] h
       ·refine qf Cf rfl (ql AW rfl (qm rfl ?_))
        refine BS h fun v14 a14 b14 h => qi Au Cz a14 (Af b14) rfl (qk BL rfl (qm rfl (El rfl (qp rfl (qm rfl ?_)))))
        refine Dr 65 h rfl (fun h => ?_) fun h => ?_
        ·refine qw 6 rfl (qp rfl (qw 8 rfl (qp rfl (Aa ?_))))
         exact sn [] h
        ·refine qf Bf rfl (ql AW rfl (qm rfl ?_))
         refine BS h fun v16 a16 b16 h => qi Au Cz a16 (Af b16) rfl (qk BL rfl (AT rfl (qp rfl (qm rfl ?_))))
         refine Dr 73 h rfl (fun h => ?_) fun h => ?_
         ·refine qw 7 rfl (qp rfl (Aa ?_))
          exact sn [] h
         ·refine qf Bf rfl (ql AW rfl (qm rfl ?_))
          refine BS h fun v18 a18 b18 h => qi Au Cz a18 (Af b18) rfl (qk BL rfl (qm rfl (El rfl (qp rfl (Aa ?_)))))
          exact sn [] h
      ·refine Be h (fun h => ?_) fun h => ?_
       ·refine wq rfl (qe rfl ?_)
        obtain rfl := sj h
        refine Ae (sm [] [(4, iD 7)] [] rfl rfl) (Ap ?_)
        exact ⟨⟨[_], tm, rfl⟩, tv⟩
       ·refine Al (wq rfl (qf Cf rfl (ql AW rfl (qm rfl ?_))))
        refine BS h fun v20 a20 b20 h => qi Au Cz a20 (Af b20) rfl (qk BL rfl (qf Bf rfl (ql AW rfl (qm rfl ?_))))
        refine BS h fun v21 a21 b21 h => qi Au Cz a21 (Af b21) rfl (qk BL rfl (Bs rfl (AI (by kernel_rfl) ?_)))
        refine Be h (fun h => ?_) fun h => ?_
        ·refine wq rfl (qe rfl ?_)
         obtain rfl := sj h
         refine Ae (sm [] [(4, iD 1)] [] rfl rfl) (Ap ?_)
         exact ⟨⟨[_], tm, rfl⟩, tv⟩
        ·refine Al (Ag Ay rfl (Bd rfl (qm rfl (Aa ?_))))
         exact sn [] h
     ·refine AS ?_
      exact sn [] h
    ·refine Ae hs (wp rfl (qf Ce rfl (ql GF rfl (AB DJ rfl (qm rfl (Aa ?_))))))
     refine AH (L := CX N p0 p1) h (fun v23 => mk [(2, oD (.ptr 2 0)), (3, oD (.ptr 3 0)), (95, pD (.sl (p0.fe.map AQ))), (96, iD ((p0.fe.length : Int))), (97, iD v23)] [(2, .box (Ah p0)), (3, .box (Az p1))]) (fun v24 => mk [] []) (fun _ _ => rfl) (sm [] _ _ rfl rfl) (fun j23 n23 v23 h => ?_) (fun v24 s h hs => ?_)
     ·unfold CX at h
      refine wq rfl (AT rfl (Aa (AN ?_)))
      refine Be h (fun h => ?_) fun h => ?_
      ·refine Al (AN (AM (wq rfl (qm rfl ?_))))
       refine BS h fun v26 a26 b26 h => qi DJ Du a26 (Af b26) rfl (qK GB Du rfl (qz KR rfl (qa rfl (qs Du rfl (Aa (wq rfl (qa rfl (qe rfl ?_))))))))
       refine AK h (fun v27 => mk [(2, oD (.ptr 2 0)), (3, oD (.ptr 3 0)), (8, iD v23), (10, pD (.val (.int .u8 v27.1))), (11, pD (.val (.int .u8 v27.2))), (95, pD (.sl (p0.fe.map AQ))), (96, iD ((p0.fe.length : Int))), (97, iD v23)] [(2, .box (Ah p0)), (3, .box (Az p1))]) (fun j27 h => ?_) (fun v27 h => ?_)
       ·refine wq rfl (qL GB Du rfl ?_)
        refine BT h fun v28 a28 h => Ar [] (IQ N v26 v28 a28) Uz rfl (Aa ?_)
        refine Be h (fun h => ?_) fun h => ?_
        ·refine Ag Ay rfl (qL A3 AF rfl (qf Ci rfl (ql BL rfl ?_)))
         refine BT h fun v30 a30 h => Ar [] (In N p1 v26.fg v30 a30) UC rfl (qf Bg rfl (ql AW rfl (qf Ci rfl (ql BL rfl ?_))))
         refine BS h fun v31 a31 b31 h => qi Au Cz a31 (Af b31) rfl (qk BL rfl ?_)
         refine Ex h fun c32 h => HU rfl c32 (NQ rfl (qa rfl (qa rfl (AI (by kernel_rfl) ?_))))
         exact sn [] h
        ·refine Al ?_
         exact sn [] h
       ·refine AK h (fun v33 => mk [(2, oD (.ptr 2 0)), (3, oD (.ptr 3 0)), (95, pD (.sl (p0.fe.map AQ))), (96, iD ((p0.fe.length : Int))), (97, iD v23), (133, bD v33)] [(2, .box (Ah p0)), (3, .box (Az p1))]) (fun j33 h => ?_) (fun v33 h => ?_)
        ·refine Ag Ay rfl (qm rfl (qf BZ rfl (ql F5 rfl (qm rfl ?_))))
         refine BS h fun v34 a34 b34 h => qi Cv EP a34 (Af b34) rfl (qk I6 rfl (H2 rfl (BF rfl (qm rfl ?_))))
         refine Dr 124 h rfl (fun h => ?_) fun h => ?_
         ·refine qw 8 rfl (qp rfl (Aa ?_))
          exact sn [] h
         ·refine qf BZ rfl (ql F5 rfl (qm rfl ?_))
          refine BS h fun v36 a36 b36 h => qi Cv EP a36 (Af b36) rfl (qk I6 rfl (qm rfl (H2 rfl (BF rfl (qp rfl (Aa ?_))))))
          exact sn [] h
        ·refine Be h (fun h => ?_) fun h => ?_
         ·refine wq rfl (qe rfl ?_)
          obtain rfl := sj h
          refine Ae (sm [] [(4, iD 1)] [] rfl rfl) (Ap ?_)
          exact ⟨⟨[_], tm, rfl⟩, tv⟩
         ·refine Al (Ag Ay rfl (Bd rfl (qm rfl (Aa ?_))))
          exact sn [] h
      ·refine AS ?_
       exact sn [] h
     ·refine Ae hs (wq rfl (qe rfl ?_))
      obtain rfl := sj h
      refine Ae (sm [] [(4, iD 0)] [] rfl rfl) (Ap ?_)
      exact ⟨⟨[_], tm, rfl⟩, tv⟩
theorem ED (N : Nat) (p0 : List Int) (r : (List Int)) (h : Bu N p0 = some r) : Aq Tryz.prog 97 [pD (.sl (p0.map B3))] [(1, r.map B3)] (oD (.own 0)) := by
 unfold Bu at h
 refine cw (n := 8) (rs := [.tmp 2]) Tryz.func97 fun w0 S0 => ?_
 refine wq rfl (qa rfl (Aa (wp rfl (qm rfl ?_))))
 refine Oz (.p rfl) rfl Cv ?_
 refine Aa ?_
 refine N5 rfl (fun c2 => ?_) ?_
 ·have c2 := List.map_eq_nil_iff.1 c2
  rw [c2] at h
  have h : (some (([] : List Int))) = some r := h
  refine wq rfl (qe rfl ?_)
  obtain rfl := sj h
  refine Ae ((B2 2 2001 1 rfl rfl rfl).trans (sm [(1000, 2001)] [(2, oD (.own 1000))] [(1000, .vec 1 ((([] : List Int)).map B3))] rfl rfl)) (Ap ?_)
  exact ⟨⟨[_], tm, rfl⟩, ⟨rfl, tv⟩⟩
 ·refine Al (wq rfl (D4 Cv EP Mn rfl (qm rfl ?_)))
  refine Ex h fun c1 h => HJ (f := B3) Cv Cv EP Nj Mn (fun _ => rfl) c1 rfl (qe rfl ?_)
  obtain rfl := sj h
  refine Ae (sm [(1000, 7)] [(2, oD (.own 1000))] [(1000, .vec 1 (((([] : List Int)) ++ p0).map B3))] rfl rfl) (Ap ?_)
  exact ⟨⟨[_], tm, rfl⟩, ⟨rfl, tv⟩⟩
theorem N1 (N : Nat) (p0 : Ab) (p1 : Ac) (r : (List Ac) × Int) (h : FK N p0 p1 = some r) : Aq Tryz.prog 77 [.e (.agg (Ah p0)), .e (.agg (Az p1))] [(3, r.1.map Cj)] (.tup [.one (.own 0), .one (iC r.2)]) := by
 unfold FK at h
 refine cw (n := 75) (rs := [.tmp 4, .tmp 5]) Tryz.func77 fun w0 S0 => ?_
 refine wq rfl (qb rfl (qb rfl (qa rfl (qa rfl (Aa (wp rfl (qL CT Cy rfl (qL A3 AF rfl ?_))))))))
 refine BT h fun v1 a1 h => Ar [] (Ih N p0 p1 v1 a1) TZ rfl (qa rfl (Aa (wq rfl (qm rfl (BF rfl (Aa ?_))))))
 refine Be h (fun h => ?_) fun h => ?_
 ·refine wq rfl (qm rfl (qa rfl (qe rfl ?_)))
  obtain rfl := sj h
  refine Ae ((B2 4 2001 3 rfl rfl rfl).trans (sm [(1000, 2001)] [(4, oD (.own 1000)), (5, iD v1)] [(1000, .vec 3 ((([] : List Ac)).map Cj))] rfl rfl)) (Ap ?_)
  exact ⟨⟨[_, _], ⟨.tmp _ _ rfl, tm⟩, rfl⟩, ⟨rfl, tv⟩⟩
 ·refine Al (wq rfl (qa rfl (Aa (wp rfl (qf Bf rfl (ql AW rfl (AB Au rfl (qm rfl (Aa ?_)))))))))
  refine AH (L := C1 N p1) h (fun v3 => mk [(3, oD (.ptr 3 0)), (7, oD (.own 2002)), (22, pD (.sl (p1.fa.map An))), (23, iD ((p1.fa.length : Int))), (24, iD v3.2)] [(3, .box (Az p1)), (2002, .vec 1 (v3.1.map An))]) (fun v4 => mk [(3, oD (.ptr 3 0)), (7, oD (.own 2003))] [(3, .box (Az p1)), (2003, .vec 1 (v4.map An))]) (fun _ _ => rfl) ((B2 7 2005 1 rfl rfl rfl).trans (sm [(2002, 2005)] _ _ rfl rfl)) (fun j3 n3 v3 h => ?_) (fun v4 s h hs => ?_)
  ·unfold C1 at h
   refine wq rfl (AT rfl (Aa (AN ?_)))
   refine Be h (fun h => ?_) fun h => ?_
   ·refine Al ?_
    refine AK h (fun v6 => mk [(3, oD (.ptr 3 0)), (7, oD (.own 2004)), (22, pD (.sl (p1.fa.map An))), (23, iD ((p1.fa.length : Int))), (24, iD v3.2)] [(3, .box (Az p1)), (2004, .vec 1 (v6.map An))]) (fun j6 h => ?_) (fun v6 h => ?_)
    ·refine AM (wq rfl (qm rfl ?_))
     refine BS h fun v7 a7 b7 h => qi Au Cz a7 (Af b7) rfl (qk BL rfl (qa rfl (qa rfl (Aa (wq rfl (qm rfl (El rfl (Aa ?_))))))))
     refine Be h (fun h => ?_) fun h => ?_
     ·refine Ag Ay rfl (qw 2 rfl (D4 Au Cz I0 rfl ?_))
      refine Ex h fun c9 h => DC (f := An) Au Au Cz Ja I0 c9 rfl (qe rfl ?_)
      exact sn [(2004, 34)] h
     ·refine Al ?_
      exact sn [(2004, 2002)] h
    ·refine Ag Ay rfl (Bd rfl (qm rfl (Aa ?_)))
     exact sn [(2002, 2004)] h
   ·refine AS ?_
    exact sn [(2003, 2002)] h
  ·refine Ae hs (wq rfl (qa rfl (Aa (wp rfl (qm rfl (FF Au rfl ?_))))))
   refine Ex h fun c10 h => HU rfl c10 (qm rfl (Aa ?_))
   refine AH (L := Cp N p1 v4) h (fun v11 => mk [(3, oD (.ptr 3 0)), (7, oD (.own 2006)), (10, oD (.own 2007)), (38, iD ((C8 .i64 1 ((v4.length : Int))))), (39, iD v11.2)] [(3, .box (Az p1)), (2006, .vec 1 (v4.map An)), (2007, .vec 3 (v11.1.map Cj))]) (fun v12 => mk [(10, oD (.own 2008))] [(2008, .vec 3 (v12.map Cj))]) (fun _ _ => rfl) ((B2 10 2027 3 rfl rfl rfl).trans (sm [(2006, 2003), (2007, 2027)] _ _ rfl rfl)) (fun j11 n11 v11 h => ?_) (fun v12 s h hs => ?_)
   ·unfold Cp at h
    refine wq rfl (AT rfl (Aa (AN ?_)))
    refine Be h (fun h => ?_) fun h => ?_
    ·refine Al (AN (AM (wq rfl (qm rfl (qa rfl (Aa (wq rfl (qf Cf rfl (ql AW rfl ?_)))))))))
     refine BT h fun v14 a14 h => Ar [2009] (Di N p1.fd v14 a14) Sl rfl (qf Bf rfl (ql AW rfl ?_))
     refine BT h fun v15 a15 h => Ar [2010] (Di N p1.fa v15 a15) Sl rfl (qf BZ rfl (ql F5 rfl ?_))
     refine BT h fun v16 a16 h => Ar [2011] (ED N p1.fc v16 a16) VA rfl (A8 Cc F3 rfl (qz Cc rfl (qs AF rfl (AI (by kernel_rfl) (wp rfl (qm rfl (FF Au rfl (qm rfl (Aa ?_)))))))))
     refine AH (L := Cn N v4 v11) h (fun v17 => mk [(3, oD (.ptr 3 0)), (7, oD (.own 2015)), (10, oD (.own 2016)), (11, iD v11.2), (12, oD (.ptr 12 0)), (38, iD ((C8 .i64 1 ((v4.length : Int))))), (39, iD v11.2), (52, oD (.own 2015)), (53, iD ((v4.length : Int))), (54, iD v17.2)] [(3, .box (Az p1)), (12, .box [.own 2012, .own 2013, .own 2014]), (2012, .vec 1 (v14.map An)), (2013, .vec 1 (v17.1.map An)), (2014, .vec 1 (v16.map B3)), (2015, .vec 1 (v4.map An)), (2016, .vec 3 (v11.1.map Cj))]) (fun v18 => mk [(3, oD (.ptr 3 0)), (7, oD (.own 2020)), (10, oD (.own 2021)), (12, oD (.ptr 12 0)), (38, iD ((C8 .i64 1 ((v4.length : Int))))), (39, iD v11.2)] [(3, .box (Az p1)), (12, .box [.own 2017, .own 2018, .own 2019]), (2017, .vec 1 (v14.map An)), (2018, .vec 1 (v18.map An)), (2019, .vec 1 (v16.map B3)), (2020, .vec 1 (v4.map An)), (2021, .vec 3 (v11.1.map Cj))]) (fun _ _ => rfl) (sm [(2012, 2009), (2013, 2010), (2014, 2011), (2015, 2006), (2016, 2007)] _ _ rfl rfl) (fun j17 n17 v17 h => ?_) (fun v18 s h hs => ?_)
     ·unfold Cn at h
      refine wq rfl (AT rfl (Aa (AN ?_)))
      refine Be h (fun h => ?_) fun h => ?_
      ·refine Al ?_
       refine AK h (fun v20 => mk [(3, oD (.ptr 3 0)), (7, oD (.own 2025)), (10, oD (.own 2026)), (11, iD v11.2), (12, oD (.ptr 12 0)), (38, iD ((C8 .i64 1 ((v4.length : Int))))), (39, iD v11.2), (52, oD (.own 2025)), (53, iD ((v4.length : Int))), (54, iD v17.2)] [(3, .box (Az p1)), (12, .box [.own 2022, .own 2023, .own 2024]), (2022, .vec 1 (v14.map An)), (2023, .vec 1 (v20.map An)), (2024, .vec 1 (v16.map B3)), (2025, .vec 1 (v4.map An)), (2026, .vec 3 (v11.1.map Cj))]) (fun j20 h => ?_) (fun v20 h => ?_)
       ·refine AM (wq rfl (qm rfl ?_))
        refine BS h fun v21 a21 b21 h => qI Au Cz a21 (Af b21) rfl (qj BL (Af b21) rfl (qa rfl (qa rfl (Aa (wq rfl (qw 2 rfl ?_))))))
        refine Ex h fun c22 h => Iv rfl c22 (KS rfl (Bs rfl (Aa ?_)))
        refine Be h (fun h => ?_) fun h => ?_
        ·refine Ag Ay rfl (qf Bf rfl (ql AW rfl (qm rfl ?_)))
         refine BS h fun v24 a24 b24 h => qI Au Cz a24 (Af b24) rfl ?_
         refine Ek rfl rfl rfl rfl (Af b24) rfl Cz rfl (IE rfl) (Ej An v17.1 _ ((-1))) ?_
         refine Aa ?_
         exact sn [(2022, 2012), (2023, 2013), (2024, 2014), (2025, 2015), (2026, 2016)] h
        ·refine Al ?_
         exact sn [(2022, 2012), (2023, 2013), (2024, 2014), (2025, 2015), (2026, 2016)] h
       ·refine Ag Ay rfl (Bd rfl (qm rfl (Aa ?_)))
        exact sn [(2012, 2022), (2013, 2023), (2014, 2024), (2015, 2025), (2016, 2026)] h
      ·refine AS ?_
       exact sn [(2017, 2012), (2018, 2013), (2019, 2014), (2020, 2015), (2021, 2016)] h
     ·refine Ae hs (Ag Ay rfl (qm rfl (qL A3 AF rfl (C6 (AU 2017 _ _ rfl rfl) (C6 (AU 2018 _ _ rfl rfl) (C6 (AU 2019 _ _ rfl rfl) (D4 GR AF Cc rfl ?_)))))))
      refine Ex h fun c25 h => DC (f := Cj) GR GR AF SC Cc c25 rfl (qa rfl (Aa (Ag Ay rfl (Bd rfl (qm rfl (Aa ?_))))))
      exact sn [(2006, 2020), (2007, 72)] h
    ·refine AS ?_
     exact sn [(2008, 2007)] h
   ·refine Ae hs (wq rfl (qm rfl (qa rfl (qe rfl ?_))))
    obtain rfl := sj h
    refine Ae (sm [(1000, 2008)] [(4, oD (.own 1000)), (5, iD 0)] [(1000, .vec 3 (v12.map Cj))] rfl rfl) (Ap ?_)
    exact ⟨⟨[_, _], ⟨.tmp _ _ rfl, tm⟩, rfl⟩, ⟨rfl, tv⟩⟩
theorem LO (N : Nat) (p0 : Ab) (p1 : Ac) (r : (List Aj)) (h : EF N p0 p1 = some r) : Aq Tryz.prog 78 [.e (.agg (Ah p0)), .e (.agg (Az p1))] [(3, r.map AP)] (oD (.own 0)) := by
 unfold EF at h
 refine cw (n := 98) (rs := [.tmp 4]) Tryz.func78 fun w0 S0 => ?_
 refine wq rfl (qb rfl (qb rfl (qa rfl (Aa (wq rfl (qa rfl (Aa (wp rfl (qf Ce rfl (ql GF rfl (AB DJ rfl (qm rfl (Aa ?_)))))))))))))
 refine AH (L := CI N p0 p1) h (fun v1 => mk [(3, oD (.ptr 3 0)), (5, oD (.own 2001)), (15, pD (.sl (p0.fe.map AQ))), (16, iD ((p0.fe.length : Int))), (17, iD v1.2)] [(3, .box (Az p1)), (2001, .vec 3 (v1.1.map AP))]) (fun v2 => mk [(5, oD (.own 2002))] [(2002, .vec 3 (v2.map AP))]) (fun _ _ => rfl) ((B2 5 2013 3 rfl rfl rfl).trans (sm [(2001, 2013)] _ _ rfl rfl)) (fun j1 n1 v1 h => ?_) (fun v2 s h hs => ?_)
 ·unfold CI at h
  refine wq rfl (AT rfl (Aa (AN ?_)))
  refine Be h (fun h => ?_) fun h => ?_
  ·refine Al (AN (AM (wq rfl (qm rfl ?_))))
   refine BS h fun v4 a4 b4 h => qi DJ Du a4 (Af b4) rfl (qK GB Du rfl (qz KR rfl (qa rfl (qs Du rfl (Aa (wq rfl (qL A3 AF rfl (qf Ci rfl (ql BL rfl ?_)))))))))
   refine BT h fun v5 a5 h => Ar [] (In N p1 v4.fg v5 a5) UC rfl (qL A3 AF rfl (qf Hw rfl (ql BL rfl ?_)))
   refine BT h fun v6 a6 h => Ar [] (In N p1 v4.fj v6 a6) UC rfl (qa rfl (qa rfl (AI (by kernel_rfl) ?_)))
   refine AK h (fun v7 => mk [(3, oD (.ptr 3 0)), (5, oD (.own 2003)), (6, iD v1.2), (7, oD (.ptr 7 0)), (8, pD (.val (.int .u8 v7))), (9, pD (.val (.int .u8 v6))), (15, pD (.sl (p0.fe.map AQ))), (16, iD ((p0.fe.length : Int))), (17, iD v1.2)] [(3, .box (Az p1)), (7, .box (A7 v4)), (2003, .vec 3 (v1.1.map AP))]) (fun j7 h => ?_) (fun v7 h => ?_)
   ·refine wq rfl (qL GB Du rfl ?_)
    refine BT h fun v8 a8 h => Ar [] (IQ N v4 v8 a8) Uz rfl (Aa ?_)
    refine Be h (fun h => ?_) fun h => ?_
    ·refine Ag Ay rfl (qf BZ rfl (ql F5 rfl (qm rfl ?_)))
     refine BS h fun v10 a10 b10 h => qi Cv EP a10 (Af b10) rfl (qk I6 rfl (qe rfl ?_))
     exact sn [(2003, 2001)] h
    ·refine Al ?_
     exact sn [(2003, 2001)] h
   ·refine wq rfl (qf IL rfl (ql Jj rfl (AB FI rfl (qm rfl (Aa ?_)))))
    refine AH (L := BO N v1 v4 v6 v7) h (fun v11 => mk [(3, oD (.ptr 3 0)), (5, oD (.own 2004)), (6, iD v1.2), (7, oD (.ptr 7 0)), (8, pD (.val (.int .u8 v7))), (9, pD (.val (.int .u8 v6))), (15, pD (.sl (p0.fe.map AQ))), (16, iD ((p0.fe.length : Int))), (17, iD v1.2), (39, iD ((v4.fq.length : Int))), (40, iD v11.2)] [(3, .box (Az p1)), (7, .box (A7 v4)), (2004, .vec 3 (v11.1.map AP))]) (fun v12 => mk [(3, oD (.ptr 3 0)), (5, oD (.own 2005)), (15, pD (.sl (p0.fe.map AQ))), (16, iD ((p0.fe.length : Int))), (17, iD v1.2)] [(3, .box (Az p1)), (2005, .vec 3 (v12.map AP))]) (fun _ _ => rfl) (sm [(2004, 2003)] _ _ rfl rfl) (fun j11 n11 v11 h => ?_) (fun v12 s h hs => ?_)
    ·unfold BO at h
     refine wq rfl (AT rfl (Aa (AN ?_)))
     refine Be h (fun h => ?_) fun h => ?_
     ·refine Al ?_
      refine AK h (fun v14 => mk [(3, oD (.ptr 3 0)), (5, oD (.own 2006)), (6, iD v1.2), (7, oD (.ptr 7 0)), (8, pD (.val (.int .u8 v7))), (9, pD (.val (.int .u8 v6))), (15, pD (.sl (p0.fe.map AQ))), (16, iD ((p0.fe.length : Int))), (17, iD v1.2), (39, iD ((v4.fq.length : Int))), (40, iD v11.2)] [(3, .box (Az p1)), (7, .box (A7 v4)), (2006, .vec 3 (v14.map AP))]) (fun j14 h => ?_) (fun v14 h => ?_)
      ·refine AM (wq rfl (qm rfl (qa rfl (Aa (wp rfl (qw 2 rfl ?_))))))
       refine Ex h fun c15 h => Iv rfl c15 (KS rfl (Bs rfl (Aa ?_)))
       refine Be h (fun h => ?_) fun h => ?_
       ·refine AS ?_
        exact sn [(2006, 2004)] h
       ·refine Al (wq rfl (qa rfl (Aa (wp rfl (qf IL rfl (ql Jj rfl (qm rfl ?_)))))))
        refine BS h fun v17 a17 b17 h => qi FI LW a17 (Af b17) rfl (qk NT rfl (AB GE rfl (qm rfl (Aa ?_))))
        refine AH (L := BA N v1 v4 v6 v11 v17) h (fun v18 => mk [(3, oD (.ptr 3 0)), (5, oD (.own 2007)), (6, iD v1.2), (7, oD (.ptr 7 0)), (8, pD (.val (.int .u8 v7))), (9, pD (.val (.int .u8 v6))), (10, iD v11.2), (11, bD v18.2.1), (15, pD (.sl (p0.fe.map AQ))), (16, iD ((p0.fe.length : Int))), (17, iD v1.2), (39, iD ((v4.fq.length : Int))), (40, iD v11.2), (52, pD (.sl (v17.map eB))), (53, iD ((v17.length : Int))), (54, iD v18.2.2)] [(3, .box (Az p1)), (7, .box (A7 v4)), (2007, .vec 3 (v18.1.map AP))]) (fun v19 => mk [(3, oD (.ptr 3 0)), (5, oD (.own 2008)), (6, iD v1.2), (7, oD (.ptr 7 0)), (8, pD (.val (.int .u8 v7))), (9, pD (.val (.int .u8 v6))), (10, iD v11.2), (11, bD v19.2), (15, pD (.sl (p0.fe.map AQ))), (16, iD ((p0.fe.length : Int))), (17, iD v1.2), (39, iD ((v4.fq.length : Int))), (40, iD v11.2)] [(3, .box (Az p1)), (7, .box (A7 v4)), (2008, .vec 3 (v19.1.map AP))]) (fun _ _ => rfl) (sm [(2007, 2004)] _ _ rfl rfl) (fun j18 n18 v18 h => ?_) (fun v19 s h hs => ?_)
        ·unfold BA at h
         refine wq rfl (AT rfl (Aa (AN ?_)))
         refine Be h (fun h => ?_) fun h => ?_
         ·refine Al ?_
          refine AK h (fun v21 => mk [(3, oD (.ptr 3 0)), (5, oD (.own 2009)), (6, iD v1.2), (7, oD (.ptr 7 0)), (8, pD (.val (.int .u8 v7))), (9, pD (.val (.int .u8 v6))), (10, iD v11.2), (11, bD v21.2), (15, pD (.sl (p0.fe.map AQ))), (16, iD ((p0.fe.length : Int))), (17, iD v1.2), (39, iD ((v4.fq.length : Int))), (40, iD v11.2), (52, pD (.sl (v17.map eB))), (53, iD ((v17.length : Int))), (54, iD v18.2.2)] [(3, .box (Az p1)), (7, .box (A7 v4)), (2009, .vec 3 (v21.1.map AP))]) (fun j21 h => ?_) (fun v21 h => ?_)
          ·refine AM (wq rfl (qm rfl ?_))
           refine BS h fun v22 a22 b22 h => qi GE Qg a22 (Af b22) rfl (qk Qu rfl (qa rfl (qa rfl (Aa (wp rfl (qw 2 rfl ?_))))))
           refine Ex h fun c23 h => Iv rfl c23 (KS rfl (Bs rfl (Aa ?_)))
           refine Be h (fun h => ?_) fun h => ?_
           ·refine AS ?_
            exact sn [(2009, 2007)] h
           ·refine Al ?_
            refine AK h (fun v25 => mk [(3, oD (.ptr 3 0)), (5, oD (.own 2010)), (6, iD v1.2), (7, oD (.ptr 7 0)), (8, pD (.val (.int .u8 v7))), (9, pD (.val (.int .u8 v6))), (10, iD v11.2), (11, bD v25), (12, iD v18.2.2), (13, bD v22), (15, pD (.sl (p0.fe.map AQ))), (16, iD ((p0.fe.length : Int))), (17, iD v1.2), (39, iD ((v4.fq.length : Int))), (40, iD v11.2), (52, pD (.sl (v17.map eB))), (53, iD ((v17.length : Int))), (54, iD v18.2.2)] [(3, .box (Az p1)), (7, .box (A7 v4)), (2010, .vec 3 (v18.1.map AP))]) (fun j25 h => ?_) (fun v25 h => ?_)
            ·refine Ag Ay rfl (qw 2 rfl ?_)
             refine Dr 65 h rfl (fun h => ?_) fun h => ?_
             ·refine qn rfl (qp rfl (qe rfl ?_))
              exact sn [(2010, 2007)] h
             ·refine qm rfl (qp rfl (qe rfl ?_))
              exact sn [(2010, 2007)] h
            ·refine AK h (fun v27 => mk [(3, oD (.ptr 3 0)), (5, oD (.own 2011)), (6, iD v1.2), (7, oD (.ptr 7 0)), (8, pD (.val (.int .u8 v7))), (9, pD (.val (.int .u8 v6))), (10, iD v11.2), (11, bD v25), (12, iD v18.2.2), (15, pD (.sl (p0.fe.map AQ))), (16, iD ((p0.fe.length : Int))), (17, iD v1.2), (39, iD ((v4.fq.length : Int))), (40, iD v11.2), (52, pD (.sl (v17.map eB))), (53, iD ((v17.length : Int))), (54, iD v18.2.2), (74, bD v27)] [(3, .box (Az p1)), (7, .box (A7 v4)), (2011, .vec 3 (v18.1.map AP))]) (fun j27 h => ?_) (fun v27 h => ?_)
             ·refine Ag Ay rfl (qm rfl (BX rfl (qm rfl ?_)))
              refine Dr 70 h rfl (fun h => ?_) fun h => ?_
              ·refine qf H8 rfl (ql Qu rfl (BX rfl (qp rfl (Aa ?_))))
               exact sn [(2011, 2010)] h
              ·refine qw 3 rfl (qp rfl (Aa ?_))
               exact sn [(2011, 2010)] h
             ·refine Be h (fun h => ?_) fun h => ?_
              ·refine Ag Ay rfl (qw 4 rfl (A8 HB MZ rfl (D4 Ge Fx HB rfl ?_)))
               refine Ex h fun c30 h => DC (f := AP) Ge Ge Fx Qy HB c30 rfl (qe rfl ?_)
               exact sn [(2009, 81)] h
              ·refine Al ?_
               exact sn [(2009, 2011)] h
          ·refine Ag Ay rfl (Bd rfl (qm rfl (Aa ?_)))
           exact sn [(2007, 2009)] h
         ·refine AS ?_
          exact sn [(2008, 2007)] h
        ·refine Ae hs ?_
         refine AK h (fun v31 => mk [(3, oD (.ptr 3 0)), (5, oD (.own 2012)), (6, iD v1.2), (7, oD (.ptr 7 0)), (8, pD (.val (.int .u8 v7))), (9, pD (.val (.int .u8 v6))), (10, iD v11.2), (15, pD (.sl (p0.fe.map AQ))), (16, iD ((p0.fe.length : Int))), (17, iD v1.2), (39, iD ((v4.fq.length : Int))), (40, iD v11.2), (88, bD v31)] [(3, .box (Az p1)), (7, .box (A7 v4)), (2012, .vec 3 (v19.1.map AP))]) (fun j31 h => ?_) (fun v31 h => ?_)
         ·refine Ag Ay rfl (qf H8 rfl (ql Qu rfl (qm rfl ?_)))
          refine Dr 85 h rfl (fun h => ?_) fun h => ?_
          ·refine qm rfl (BX rfl (qp rfl (Aa ?_)))
           exact sn [(2012, 2008)] h
          ·refine qw 2 rfl (qp rfl (Aa ?_))
           exact sn [(2012, 2008)] h
         ·refine Be h (fun h => ?_) fun h => ?_
          ·refine Ag Ay rfl (qw 3 rfl (A8 HB MZ rfl (D4 Ge Fx HB rfl ?_)))
           refine Ex h fun c34 h => DC (f := AP) Ge Ge Fx Qy HB c34 rfl (qe rfl ?_)
           exact sn [(2006, 94)] h
          ·refine Al ?_
           exact sn [(2006, 2012)] h
      ·refine Ag Ay rfl (Bd rfl (qm rfl (Aa ?_)))
       exact sn [(2004, 2006)] h
     ·refine AS ?_
      exact sn [(2005, 2004)] h
    ·refine Ae hs (Ag Ay rfl (Bd rfl (qm rfl (Aa ?_))))
     exact sn [(2001, 2005)] h
  ·refine AS ?_
   exact sn [(2002, 2001)] h
 ·refine Ae hs (wq rfl (qm rfl (qe rfl ?_)))
  obtain rfl := sj h
  refine Ae (sm [(1000, 2002)] [(4, oD (.own 1000))] [(1000, .vec 3 (v2.map AP))] rfl rfl) (Ap ?_)
  exact ⟨⟨[_], tm, rfl⟩, ⟨rfl, tv⟩⟩
theorem Jh (N : Nat) (p0 : Ab) (p1 : Ac) (r : Ac × Aj × Int) (h : EW N p0 p1 = some r) : Aq Tryz.prog 53 [.e (.agg (Ah p0)), .e (.agg (Az p1))] [] (.tup [.agg (Az r.1), .agg (GJ r.2.1), .one (iC r.2.2)]) := by
 unfold EW at h
 refine cw (n := 42) (rs := [.cell 4 38, .cell 5 93, .tmp 6]) Tryz.func53 fun w0 S0 => ?_
 refine wq rfl (qb rfl (qb rfl (qz Cc rfl (qz HB rfl (qa rfl (Aa (wq rfl (qL CT Cy rfl (qL A3 AF rfl ?_)))))))))
 refine BT h fun v1 a1 h => Ar [2001] (N1 N p0 p1 v1 a1) Xr rfl (qm rfl (qx rfl (qx rfl (qa rfl (qa rfl (Aa (wp rfl (qm rfl (BF rfl (Aa ?_))))))))))
 refine Be h (fun h => ?_) fun h => ?_
 ·refine wq rfl (A8 Cc F3 rfl (A8 HB MZ rfl (qm rfl (qs AF rfl (qs Fx rfl (qe rfl ?_))))))
  obtain rfl := sj h
  refine Ae ((E3 4 _ rfl).trans (sm [] [(4, oD (.ptr 4 0)), (5, oD (.ptr 5 0)), (6, iD v1.2)] [(4, .box [sC ((([] : List Int)).map An), sC ((([] : List Int)).map An), sC ((([] : List Int)).map B3)]), (5, .box [iC 0, iC 0, iC 0])] rfl rfl)) (Ap ?_)
  exact ⟨⟨[_, _, _], ⟨.cellN _ _ _ _ _ _ _ rfl rfl A3 AF rfl rfl (GS rfl), ⟨.cellN _ _ _ _ _ _ _ rfl rfl LN Fx rfl rfl (GS rfl), tm⟩⟩, rfl⟩, tv⟩
 ·refine Al (wp rfl (qm rfl (FF GR rfl (qm rfl (Aa ?_)))))
  refine AH (L := DZ N p0 v1) h (fun v3 => mk [(2, oD (.ptr 2 0)), (4, oD (.ptr 4 0)), (5, oD (.ptr 5 0)), (23, oD (.own 2002)), (24, iD ((v1.1.length : Int))), (25, iD v3)] [(2, .box (Ah p0)), (4, .box [.pure (.nil0), .pure (.nil0), .pure (.nil0)]), (5, .box [iC 0, iC 0, iC 0]), (2002, .vec 3 (v1.1.map Cj))]) (fun v4 => mk [(4, oD (.ptr 4 0)), (5, oD (.ptr 5 0))] [(4, .box [.pure (.nil0), .pure (.nil0), .pure (.nil0)]), (5, .box [iC 0, iC 0, iC 0])]) (fun _ _ => rfl) (sm [(2002, 2001)] _ _ rfl rfl) (fun j3 n3 v3 h => ?_) (fun v4 s h hs => ?_)
  ·unfold DZ at h
   refine wq rfl (AT rfl (Aa (AN ?_)))
   refine Be h (fun h => ?_) fun h => ?_
   ·refine Al (AN (AM (wq rfl ?_)))
    refine BS h fun v6 a6 b6 h => qI GR AF a6 (Af b6) rfl (qJ A3 AF (Af b6) rfl (qz Cc rfl (qs AF rfl (Aa (wq rfl (qL CT Cy rfl (qL A3 AF rfl ?_)))))))
    refine BT h fun v7 a7 h => Ar [2003] (LO N p0 v6 v7 a7) Xw rfl (qa rfl (Aa (wq rfl (qm rfl (FF Ge rfl (EN rfl (Aa ?_)))))))
    refine Be h (fun h => ?_) fun h => ?_
    ·refine wq rfl (qL A3 AF rfl (qm rfl ?_))
     refine BS h fun v9 a9 b9 h => qI Ge Fx a9 (Af b9) rfl (qJ LN Fx (Af b9) rfl (qs AF rfl (qs Fx rfl (qa rfl (AI (by kernel_rfl) ?_)))))
     obtain rfl := sj h
     refine Ae (sm [] [(4, oD (.ptr 4 0)), (5, oD (.ptr 5 0)), (6, iD 0)] [(4, .box (Az v6)), (5, .box (GJ v9))] rfl rfl) (Ap ?_)
     exact ⟨⟨[_, _, _], ⟨.cellN _ _ _ _ _ _ _ rfl rfl A3 AF rfl rfl (GS rfl), ⟨.cellN _ _ _ _ _ _ _ rfl rfl LN Fx rfl rfl (GS rfl), tm⟩⟩, rfl⟩, tv⟩
    ·refine Al (Ag Ay rfl (Bd rfl (qm rfl (Aa ?_))))
     exact sn [] h
   ·refine AS ?_
    exact sn [] h
  ·refine Ae hs (wq rfl (A8 Cc F3 rfl (A8 HB MZ rfl (qs AF rfl (qs Fx rfl (qe rfl ?_))))))
   obtain rfl := sj h
   refine Ae ((E3 4 _ rfl).trans (sm [] [(4, oD (.ptr 4 0)), (5, oD (.ptr 5 0)), (6, iD 15)] [(4, .box [sC ((([] : List Int)).map An), sC ((([] : List Int)).map An), sC ((([] : List Int)).map B3)]), (5, .box [iC 0, iC 0, iC 0])] rfl rfl)) (Ap ?_)
   exact ⟨⟨[_, _, _], ⟨.cellN _ _ _ _ _ _ _ rfl rfl A3 AF rfl rfl (GS rfl), ⟨.cellN _ _ _ _ _ _ _ rfl rfl LN Fx rfl rfl (GS rfl), tm⟩⟩, rfl⟩, tv⟩
theorem KE (N : Nat) (p0 : Ad) (r : Bool) (h : E2 N p0 = some r) : Aq Tryz.prog 79 [.e (.agg (Cd p0))] [] (bD r) := by
 unfold E2 at h
 refine cw (n := 27) (rs := [.tmp 2]) Tryz.func79 fun w0 S0 => ?_
 refine wq rfl (qb rfl (qa rfl (Aa (AN ?_))))
 refine AK h (fun v1 => mk [(1, oD (.ptr 1 0)), (18, bD v1)] [(1, .box (Cd p0))]) (fun j1 h => ?_) (fun v1 h => ?_)
 ·refine Ag Ay rfl (qf D7 rfl (ql BL rfl (qf Fy rfl (ql BL rfl ?_))))
  refine QF (.p rfl) rfl rfl ?_
  refine AT rfl (qm rfl ?_)
  refine Dr 9 h rfl (fun h => ?_) fun h => ?_
  ·refine qw 3 rfl (qp rfl (qw 4 rfl (qp rfl (Aa ?_))))
   exact sn [] h
  ·refine qf DW rfl (ql BL rfl (AT rfl (qp rfl (qm rfl ?_))))
   refine Dr 14 h rfl (fun h => ?_) fun h => ?_
   ·refine qw 3 rfl (qp rfl (Aa ?_))
    exact sn [] h
   ·refine qf DW rfl (ql BL rfl (EN rfl (qp rfl (Aa ?_))))
    exact sn [] h
 ·refine Be h (fun h => ?_) fun h => ?_
  ·refine wq rfl (qe rfl ?_)
   obtain rfl := sj h
   refine Ae (sm [] [(2, bD false)] [] rfl rfl) (Ap ?_)
   exact ⟨⟨[_], tm, rfl⟩, tv⟩
  ·refine Al ?_
   refine AK h (fun v5 => mk [(2, bD v5)] []) (fun j5 h => ?_) (fun v5 h => ?_)
   ·refine Ag Ay rfl (qf DW rfl (ql BL rfl (Bs rfl (qm rfl ?_))))
    refine Dr 22 h rfl (fun h => ?_) fun h => ?_
    ·refine qw 3 rfl (qp rfl (qe rfl ?_))
     exact sn [] h
    ·refine qf Fy rfl (ql BL rfl (Bs rfl (qp rfl (qe rfl ?_))))
     exact sn [] h
   ·obtain rfl := sj h
    refine Ae (sm [] [(2, bD v5)] [] rfl rfl) (Ap ?_)
    exact ⟨⟨[_], tm, rfl⟩, tv⟩
theorem MV (N : Nat) (p0 : Ab) (p1 : Ad) (r : Bool) (h : Fk N p0 p1 = some r) : Aq Tryz.prog 99 [.e (.agg (Ah p0)), .e (.agg (Cd p1))] [] (bD r) := by
 unfold Fk at h
 refine cw (n := 36) (rs := [.tmp 4]) Tryz.func99 fun w0 S0 => ?_
 refine wq rfl (qb rfl (qb rfl (qa rfl (Aa (wp rfl (qf DW rfl (ql BL rfl (Bs rfl (Aa ?_)))))))))
 refine Be h (fun h => ?_) fun h => ?_
 ·refine wq rfl (qf D7 rfl (ql BL rfl (qf Ce rfl (ql GF rfl (AB DJ rfl (AT rfl (qe rfl ?_)))))))
  obtain rfl := sj h
  refine Ae (sm [] [(4, bD ((decide (p1.fh < (p0.fe.length : Int)))))] [] rfl rfl) (Ap ?_)
  exact ⟨⟨[_], tm, rfl⟩, tv⟩
 ·refine Al ?_
  refine AK h (fun v2 => mk [(4, bD v2)] []) (fun j2 h => ?_) (fun v2 h => ?_)
  ·refine Ag Ay rfl (qf D7 rfl (ql BL rfl (qf Bg rfl (ql AW rfl (AB Au rfl (AT rfl (qm rfl ?_)))))))
   refine Dr 20 h rfl (fun h => ?_) fun h => ?_
   ·refine qf DW rfl (ql BL rfl (BF rfl (qm rfl ?_)))
    refine Dr 24 h rfl (fun h => ?_) fun h => ?_
    ·refine qw 9 rfl (qp rfl (qp rfl (qa rfl (AI (by kernel_rfl) ?_))))
     exact sn [] h
    ·refine qf Fy rfl (ql BL rfl (qf Bg rfl (ql AW rfl (qf D7 rfl (ql BL rfl ?_)))))
     refine BS h fun v5 a5 b5 h => qi Au Cz a5 (Af b5) rfl (qk BL rfl (AT rfl (qp rfl (qp rfl (qa rfl (AI (by kernel_rfl) ?_))))))
     exact sn [] h
   ·refine qw 4 rfl (qu rfl (qu rfl (qu rfl (qu rfl (qu rfl (qu rfl (qu rfl (qu rfl (qu rfl (qn rfl (qp rfl (qa rfl (AI (by kernel_rfl) ?_)))))))))))))
    exact sn [] h
  ·obtain rfl := sj h
   refine Ae (sm [] [(4, bD v2)] [] rfl rfl) (Ap ?_)
   exact ⟨⟨[_], tm, rfl⟩, tv⟩
theorem MU (N : Nat) (p0 : Ac) (r : Ac) (h : Ft N p0 = some r) : Aq Tryz.prog 109 [.e (.agg (Az p0))] [(1, r.fd.map An), (1, r.fa.map An), (1, r.fc.map B3)] (.e (.agg [.own 0, .own 1, .own 2])) := by
 unfold Ft at h
 refine cw (n := 13) (rs := [.cell 2 38]) Tryz.func109 fun w0 S0 => ?_
 refine wq rfl (qb rfl (qz Cc rfl (Aa (wq rfl (qf Cf rfl (ql AW rfl ?_))))))
 refine BT h fun v1 a1 h => Ar [2001] (Di N p0.fd v1 a1) Sl rfl (qf Bf rfl (ql AW rfl ?_))
 refine BT h fun v2 a2 h => Ar [2002] (Di N p0.fa v2 a2) Sl rfl (qf BZ rfl (ql F5 rfl ?_))
 refine BT h fun v3 a3 h => Ar [2003] (ED N p0.fc v3 a3) VA rfl (A8 Cc F3 rfl (qs AF rfl (AI (by kernel_rfl) ?_)))
 obtain rfl := sj h
 refine Ae (sm [(1000, 2001), (1001, 2002), (1002, 2003)] [(2, oD (.ptr 2 0))] [(2, .box [.own 1000, .own 1001, .own 1002]), (1000, .vec 1 (v1.map An)), (1001, .vec 1 (v2.map An)), (1002, .vec 1 (v3.map B3))] rfl rfl) (Ap ?_)
 exact ⟨⟨[_], ⟨.cellN _ _ _ _ _ _ _ rfl rfl A3 AF rfl rfl (GS rfl), tv⟩, rfl⟩, ⟨rfl, rfl, rfl, tv⟩⟩
theorem JQ (N : Nat) (p0 : Av) (r : Bool) (h : Ez N p0 = some r) : Aq Tryz.prog 117 [.e (.agg (A7 p0))] [] (bD r) := by
 unfold Ez at h
 refine cw (n := 11) (rs := [.tmp 2]) Tryz.func117 fun w0 S0 => ?_
 refine wq rfl (qb rfl (qe rfl ?_))
 refine AK h (fun v1 => mk [(2, bD v1)] []) (fun j1 h => ?_) (fun v1 h => ?_)
 ·refine Ag Ay rfl (qf E8 rfl (ql BL rfl (Bs rfl (qm rfl ?_))))
  refine Dr 6 h rfl (fun h => ?_) fun h => ?_
  ·refine qw 3 rfl (qp rfl (qe rfl ?_))
   exact sn [] h
  ·refine qf E8 rfl (ql BL rfl (Bs rfl (qp rfl (qe rfl ?_))))
   exact sn [] h
 ·obtain rfl := sj h
  refine Ae (sm [] [(2, bD v1)] [] rfl rfl) (Ap ?_)
  exact ⟨⟨[_], tm, rfl⟩, tv⟩
theorem N3 (N : Nat) (p0 : Ab) (p1 : Ac) (p2 : Ad) (r : Bool × (List Int) × (List Int)) (h : G8 N p0 p1 p2 = some r) : Dk Tryz.prog 110 [.e (.agg (Ah p0)), oD (.ptr 90000 0), .e (.agg (Cd p2))] [(.box [.own 90001, .own 90002, .own 90003], .box [.own 90001, .own 90002, .own 90003]), (.vec 1 (p1.fd.map An), .vec 1 (p1.fd.map An)), (.vec 1 (p1.fa.map An), .vec 1 (r.2.1.map An)), (.vec 1 (p1.fc.map B3), .vec 1 (r.2.2.map B3))] [] (bD r.1) := by
 unfold G8 at h
 refine Fr (n := 70) (rs := [.tmp 6]) Tryz.func110 rfl rfl rfl (IE rfl) (IE rfl) rfl rfl (IE rfl) rfl (IE rfl) fun w0 S0 GL => ?_
 refine Ae (sm [] [(0, .e (.agg (Ah p0))), (1, oD (.ptr 90000 0)), (2, .e (.agg (Cd p2)))] [(90000, .box [.own 90001, .own 90002, .own 90003]), (90001, .vec 1 (p1.fd.map An)), (90002, .vec 1 (p1.fa.map An)), (90003, .vec 1 (p1.fc.map B3))] rfl rfl) (wq rfl (qb rfl (qb rfl (qa rfl (Aa (AN ?_))))))
 refine AK h (fun v1 => mk [(1, oD (.ptr 90000 0)), (3, oD (.ptr 3 0)), (5, oD (.ptr 5 0)), (30, bD v1)] [(3, .box (Ah p0)), (5, .box (Cd p2)), (90000, .box [.own 90001, .own 90002, .own 90003]), (90001, .vec 1 (p1.fd.map An)), (90002, .vec 1 (p1.fa.map An)), (90003, .vec 1 (p1.fc.map B3))]) (fun j1 h => ?_) (fun v1 h => ?_)
 ·refine Ag Ay rfl (qm rfl (TP rfl (qf Bf rfl (ql AW rfl (qf D7 rfl (ql BL rfl ?_))))))
  refine BS h fun v2 a2 b2 h => qI Au Cz a2 (Af b2) rfl (qj BL (Af b2) rfl (El rfl (qm rfl ?_)))
  refine Dr 18 h rfl (fun h => ?_) fun h => ?_
  ·refine qw 11 rfl (qp rfl (AI (by kernel_rfl) ?_))
   exact sn [] h
  ·refine qm rfl (TP rfl (qf Cf rfl (ql AW rfl (qf D7 rfl (ql BL rfl ?_)))))
   refine BS h fun v4 a4 b4 h => qI Au Cz a4 (Af b4) rfl (qj BL (Af b4) rfl (qf Fy rfl (ql BL rfl (Bs rfl (qp rfl (AI (by kernel_rfl) ?_))))))
   exact sn [] h
 ·refine Be h (fun h => ?_) fun h => ?_
  ·refine wq rfl (qe rfl ?_)
   obtain rfl := sj h
   refine Ae (sm [] [(6, bD false)] [(90000, .box [.own 90001, .own 90002, .own 90003]), (90001, .vec 1 (p1.fd.map An)), (90002, .vec 1 (p1.fa.map An)), (90003, .vec 1 (p1.fc.map B3))] rfl rfl) (Ap ?_)
   exact ⟨⟨[_], tm, rfl⟩, ⟨rfl, rfl, rfl, rfl, tv⟩, tv⟩
  ·refine Al (wq rfl (qm rfl (TP rfl (qf Bf rfl (ql AW rfl (qf D7 rfl (ql BL rfl (qf Fy rfl (ql BL rfl ?_)))))))))
   refine BS h fun v6 a6 b6 h => qI Au Cz a6 (Af b6) rfl ?_
   refine Ek rfl rfl rfl rfl (Af b6) rfl Cz rfl (IE rfl) (Ej An p1.fa _ p2.fi) ?_
   refine AI (by kernel_rfl) (wp rfl (qf Ce rfl (ql GF rfl (AB DJ rfl (qm rfl (Aa ?_))))))
   refine AH (L := C4 N p0 p2) h (fun v7 => mk [(1, oD (.ptr 90000 0)), (5, oD (.ptr 5 0)), (41, pD (.sl (p0.fe.map AQ))), (42, iD ((p0.fe.length : Int))), (43, iD v7.2)] [(5, .box (Cd p2)), (90000, .box [.own 90001, .own 90002, .own 90003]), (90001, .vec 1 (p1.fd.map An)), (90002, .vec 1 ((p1.fa.set ((p2.fh).toNat) p2.fi).map An)), (90003, .vec 1 (v7.1.map B3))]) (fun v8 => mk [] [(90000, .box [.own 90001, .own 90002, .own 90003]), (90001, .vec 1 (p1.fd.map An)), (90002, .vec 1 ((p1.fa.set ((p2.fh).toNat) p2.fi).map An)), (90003, .vec 1 (v8.map B3))]) (fun _ _ => rfl) (sm [] _ _ rfl rfl) (fun j7 n7 v7 h => ?_) (fun v8 s h hs => ?_)
   ·unfold C4 at h
    refine wq rfl (AT rfl (Aa (AN ?_)))
    refine Be h (fun h => ?_) fun h => ?_
    ·refine Al ?_
     refine AK h (fun v10 => mk [(1, oD (.ptr 90000 0)), (5, oD (.ptr 5 0)), (41, pD (.sl (p0.fe.map AQ))), (42, iD ((p0.fe.length : Int))), (43, iD v7.2)] [(5, .box (Cd p2)), (90000, .box [.own 90001, .own 90002, .own 90003]), (90001, .vec 1 (p1.fd.map An)), (90002, .vec 1 ((p1.fa.set ((p2.fh).toNat) p2.fi).map An)), (90003, .vec 1 (v10.map B3))]) (fun j10 h => ?_) (fun v10 h => ?_)
     ·refine AM (wq rfl (qm rfl ?_))
      refine BS h fun v11 a11 b11 h => qi DJ Du a11 (Af b11) rfl (qK GB Du rfl (qz KR rfl (qa rfl (qs Du rfl (Aa ?_)))))
      refine AK h (fun v12 => mk [(1, oD (.ptr 90000 0)), (5, oD (.ptr 5 0)), (7, iD v7.2), (41, pD (.sl (p0.fe.map AQ))), (42, iD ((p0.fe.length : Int))), (43, iD v7.2), (56, bD v12)] [(5, .box (Cd p2)), (90000, .box [.own 90001, .own 90002, .own 90003]), (90001, .vec 1 (p1.fd.map An)), (90002, .vec 1 ((p1.fa.set ((p2.fh).toNat) p2.fi).map An)), (90003, .vec 1 (v7.1.map B3))]) (fun j12 h => ?_) (fun v12 h => ?_)
      ·refine Ag Ay rfl (qf Ci rfl (ql BL rfl (qf D7 rfl (ql BL rfl (Bs rfl (qm rfl ?_))))))
       refine Dr 53 h rfl (fun h => ?_) fun h => ?_
       ·refine qL GB Du rfl ?_
        refine BT h fun v14 a14 h => Ar [] (JQ N v11 v14 a14) Uv rfl (qp rfl (Aa ?_))
        exact sn [] h
       ·refine qw 2 rfl (qp rfl (Aa ?_))
        exact sn [] h
      ·refine Be h (fun h => ?_) fun h => ?_
       ·refine Ag Ay rfl (qm rfl (TP rfl (qf BZ rfl (ql F5 rfl (qm rfl ?_)))))
        refine BS h fun v16 a16 b16 h => qI Cv EP a16 (Af b16) rfl (qj I6 (Af b16) rfl (qf Fy rfl (ql BL rfl ?_)))
        refine Ex h fun c17 h => HU rfl c17 (Q2 rfl ?_)
        refine BS h fun v18 a18 b18 h => qI Cv EP a18 (Af b18) rfl ?_
        refine Ek rfl rfl rfl rfl (Af b18) rfl EP rfl (IE rfl) (Ej B3 v7.1 _ ((KW .u8 v16 ((C8 .u8 1 p2.fi))))) ?_
        refine AI (by kernel_rfl) ?_
        exact sn [] h
       ·refine Al ?_
        exact sn [] h
     ·refine Ag Ay rfl (Bd rfl (qm rfl (Aa ?_)))
      exact sn [] h
    ·refine AS ?_
     exact sn [] h
   ·refine Ae hs (wq rfl (qe rfl ?_))
    obtain rfl := sj h
    refine Ae (sm [] [(6, bD true)] [(90000, .box [.own 90001, .own 90002, .own 90003]), (90001, .vec 1 (p1.fd.map An)), (90002, .vec 1 ((p1.fa.set ((p2.fh).toNat) p2.fi).map An)), (90003, .vec 1 (v8.map B3))] rfl rfl) (Ap ?_)
    exact ⟨⟨[_], tm, rfl⟩, ⟨rfl, rfl, rfl, rfl, tv⟩, tv⟩
theorem Mc (N : Nat) (p0 : Ac) (p1 : Int) (r : Int) (h : EY N p0 p1 = some r) : Aq Tryz.prog 118 [.e (.agg (Az p0)), iD p1] [] (pD (.val (.int .u8 r))) := by
 unfold EY at h
 refine cw (n := 27) (rs := [.tmp 4]) Tryz.func118 fun w0 S0 => ?_
 refine wq rfl (qb rfl (qa rfl (Aa (wq rfl (qf Cf rfl (ql AW rfl (qm rfl ?_)))))))
 refine BS h fun v1 a1 b1 h => qi Au Cz a1 (Af b1) rfl (qk BL rfl ?_)
 refine Ex h fun c2 h => HU rfl c2 (qe rfl ?_)
 refine AK h (fun v3 => mk [(5, pD (.val (.int .u8 v3)))] []) (fun j3 h => ?_) (fun v3 h => ?_)
 ·refine wq rfl (qf Bf rfl (ql AW rfl (qm rfl ?_)))
  refine BS h fun v4 a4 b4 h => qi Au Cz a4 (Af b4) rfl (qk BL rfl (El rfl (Aa ?_)))
  refine Be h (fun h => ?_) fun h => ?_
  ·refine Ag Ay rfl (qm rfl (qf Bf rfl (ql AW rfl (qm rfl ?_))))
   refine BS h fun v6 a6 b6 h => qi Au Cz a6 (Af b6) rfl (qk BL rfl ?_)
   refine Ex h fun c7 h => HU rfl c7 (Q2 rfl (qe rfl ?_))
   exact sn [] h
  ·refine Al ?_
   exact sn [] h
 ·refine wq rfl (qm rfl (qe rfl ?_))
  obtain rfl := sj h
  refine Ae (sm [] [(4, pD (.val (.int .u8 v3)))] [] rfl rfl) (Ap ?_)
  exact ⟨⟨[_], tm, rfl⟩, tv⟩
theorem HN (N : Nat) (p0 : Int) (r : Int) (h : Cm N p0 = some r) : Aq Tryz.prog 125 [pD (.val (.int .u8 p0))] [] (iD r) := by
 unfold Cm at h
 refine cw (n := 6) (rs := [.tmp 2]) Tryz.func125 fun w0 S0 => ?_
 refine wq rfl (qa rfl (Aa (wq rfl (qm rfl ?_))))
 refine BT h fun v1 a1 h => Q3 (.p rfl) rfl rfl Xm a1 ?_
 refine Iu Vh Tr rfl (qe rfl ?_)
 obtain rfl := sj h
 refine Ae (sm [] [(2, iD ((wI .i64 v1)))] [] rfl rfl) (Ap ?_)
 exact ⟨⟨[_], tm, rfl⟩, tv⟩
theorem Ks (N : Nat) (p0 : Av) (p1 : Int) (p2 : Int) (r : Bool) (h : ES N p0 p1 p2 = some r) : Aq Tryz.prog 119 [.e (.agg (A7 p0)), pD (.val (.int .u8 p1)), iD p2] [] (bD r) := by
 unfold ES at h
 refine cw (n := 25) (rs := [.tmp 6]) Tryz.func119 fun w0 S0 => ?_
 refine wq rfl (qb rfl (qa rfl (Aa (wp rfl (qm rfl (qe rfl ?_))))))
 refine AH (L := CP N p0 p2) h (fun v1 => mk [(2, iD p2), (3, oD (.ptr 3 0)), (7, pD (.val (.int .u8 v1)))] [(3, .box (A7 p0))]) (fun v2 => mk [] []) (fun _ _ => rfl) (sm [] _ _ rfl rfl) (fun j1 n1 v1 h => ?_) (fun v2 s h hs => ?_)
 ·unfold CP at h
  refine wp rfl (qm rfl (BF rfl (Aa ?_)))
  refine Be h (fun h => ?_) fun h => ?_
  ·refine Al (AN (AM (wq rfl (qf FX rfl (ql Jj rfl (qm rfl ?_))))))
   refine BT h fun v4 a4 h => Ar [] (HN N v1 v4 a4) Wo rfl ?_
   refine BS h fun v5 a5 b5 h => qi FI LW a5 (Af b5) rfl (qk NT rfl (qm rfl ?_))
   refine BS h fun v6 a6 b6 h => qi GE Qg a6 (Af b6) rfl (qk Qu rfl (BX rfl (AI (by kernel_rfl) ?_)))
   refine Be h (fun h => ?_) fun h => ?_
   ·refine wq rfl (qe rfl ?_)
    obtain rfl := sj h
    refine Ae (sm [] [(6, bD false)] [] rfl rfl) (Ap ?_)
    exact ⟨⟨[_], tm, rfl⟩, tv⟩
   ·refine Al (Ag Ay rfl (qw 2 rfl (NQ rfl (KS rfl (qe rfl ?_)))))
    exact sn [] h
  ·refine AS ?_
   exact sn [] h
 ·refine Ae hs (wq rfl (qe rfl ?_))
  obtain rfl := sj h
  refine Ae (sm [] [(6, bD true)] [] rfl rfl) (Ap ?_)
  exact ⟨⟨[_], tm, rfl⟩, tv⟩
theorem OB (N : Nat) (p0 : Ab) (p1 : Ac) (p2 : Int) (r : Bool × (List Int)) (h : zFS N p0 p1 p2 = some r) : Dk Tryz.prog 111 [.e (.agg (Ah p0)), oD (.ptr 90000 0), iD p2] [(.box [.own 90001, .own 90002, .own 90003], .box [.own 90001, .own 90002, .own 90003]), (.vec 1 (p1.fd.map An), .vec 1 (p1.fd.map An)), (.vec 1 (p1.fa.map An), .vec 1 (p1.fa.map An)), (.vec 1 (p1.fc.map B3), .vec 1 (r.2.map B3))] [] (bD r.1) := by
 unfold zFS at h
 refine Fr (n := 68) (rs := [.tmp 6]) Tryz.func111 rfl rfl rfl (IE rfl) (IE rfl) rfl rfl (IE rfl) rfl (IE rfl) fun w0 S0 GL => ?_
 refine Ae (sm [] [(0, .e (.agg (Ah p0))), (1, oD (.ptr 90000 0)), (2, iD p2)] [(90000, .box [.own 90001, .own 90002, .own 90003]), (90001, .vec 1 (p1.fd.map An)), (90002, .vec 1 (p1.fa.map An)), (90003, .vec 1 (p1.fc.map B3))] rfl rfl) (wq rfl (qb rfl (qa rfl (Aa (wq rfl (qf Ce rfl (ql GF rfl (qm rfl ?_))))))))
 refine BS h fun v1 a1 b1 h => qi DJ Du a1 (Af b1) rfl (qK GB Du rfl (qz KR rfl (qs Du rfl (Aa (wp rfl (qL GB Du rfl ?_))))))
 refine BT h fun v2 a2 h => Ar [] (JQ N v1 v2 a2) Uv rfl (BX rfl (Aa ?_))
 refine Be h (fun h => ?_) fun h => ?_
 ·refine wq rfl (qe rfl ?_)
  obtain rfl := sj h
  refine Ae (sm [] [(6, bD false)] [(90000, .box [.own 90001, .own 90002, .own 90003]), (90001, .vec 1 (p1.fd.map An)), (90002, .vec 1 (p1.fa.map An)), (90003, .vec 1 (p1.fc.map B3))] rfl rfl) (Ap ?_)
  exact ⟨⟨[_], tm, rfl⟩, ⟨rfl, rfl, rfl, rfl, tv⟩, tv⟩
 ·refine Al (wq rfl (qm rfl (TP rfl (qL A3 AF rfl (qf Ci rfl (ql BL rfl ?_))))))
  refine BT h fun v4 a4 h => G6 [] [90001, 90002, 90003] (Mc N p1 v1.fg v4 a4) VT E4 rfl (qa rfl (AI (by kernel_rfl) (wq rfl (qm rfl (TP rfl (qf BZ rfl (ql F5 rfl (qm rfl ?_))))))))
  refine BS h fun v5 a5 b5 h => qI Cv EP a5 (Af b5) rfl (qj I6 (Af b5) rfl (qm rfl (H2 rfl (qa rfl (Aa (AN ?_))))))
  refine AK h (fun v6 => mk [(1, oD (.ptr 90000 0)), (2, iD p2), (8, pD (.val (.int .u8 v4))), (60, bD v6)] [(90000, .box [.own 90001, .own 90002, .own 90003]), (90001, .vec 1 (p1.fd.map An)), (90002, .vec 1 (p1.fa.map An)), (90003, .vec 1 (p1.fc.map B3))]) (fun j6 h => ?_) (fun v6 h => ?_)
  ·refine Ag Ay rfl (qm rfl (TP rfl (qf BZ rfl (ql F5 rfl (qm rfl ?_)))))
   refine BS h fun v7 a7 b7 h => qI Cv EP a7 (Af b7) rfl (qj I6 (Af b7) rfl (qm rfl (Bs rfl (qm rfl ?_))))
   refine Dr 42 h rfl (fun h => ?_) fun h => ?_
   ·refine qw 4 rfl (qu rfl (qu rfl (qu rfl (qu rfl (qu rfl (qu rfl (qu rfl (qu rfl (qu rfl (qu rfl (qu rfl (qu rfl (qn rfl (qp rfl (AI (by kernel_rfl) ?_)))))))))))))))
    exact sn [] h
   ·refine qf E8 rfl (ql BL rfl (Bs rfl (qm rfl ?_)))
    refine Dr 46 h rfl (fun h => ?_) fun h => ?_
    ·refine qL GB Du rfl (qw 2 rfl (TP rfl (qf Cf rfl (ql AW rfl (qf Ci rfl (ql BL rfl ?_))))))
     refine BS h fun v10 a10 b10 h => qI Au Cz a10 (Af b10) rfl (qj BL (Af b10) rfl ?_)
     refine BT h fun v11 a11 h => Ar [] (Ks N v1 ((CC .u8 v5 v4)) v10 v11 a11) VM rfl (BX rfl (qp rfl (qp rfl (AI (by kernel_rfl) ?_))))
     exact sn [] h
    ·refine qw 12 rfl (qp rfl (qp rfl (AI (by kernel_rfl) ?_)))
     exact sn [] h
  ·refine Be h (fun h => ?_) fun h => ?_
   ·refine wq rfl (qe rfl ?_)
    obtain rfl := sj h
    refine Ae (sm [] [(6, bD false)] [(90000, .box [.own 90001, .own 90002, .own 90003]), (90001, .vec 1 (p1.fd.map An)), (90002, .vec 1 (p1.fa.map An)), (90003, .vec 1 (p1.fc.map B3))] rfl rfl) (Ap ?_)
    exact ⟨⟨[_], tm, rfl⟩, ⟨rfl, rfl, rfl, rfl, tv⟩, tv⟩
   ·refine Al (wq rfl (qm rfl (TP rfl (qf BZ rfl (ql F5 rfl (qw 2 rfl ?_))))))
    refine BS h fun v13 a13 b13 h => qI Cv EP a13 (Af b13) rfl ?_
    refine Ek rfl rfl rfl rfl (Af b13) rfl EP rfl (IE rfl) (Ej B3 p1.fc _ v4) ?_
    refine Aa (wq rfl (qe rfl ?_))
    obtain rfl := sj h
    refine Ae (sm [] [(6, bD true)] [(90000, .box [.own 90001, .own 90002, .own 90003]), (90001, .vec 1 (p1.fd.map An)), (90002, .vec 1 (p1.fa.map An)), (90003, .vec 1 ((p1.fc.set ((p2).toNat) v4).map B3))] rfl rfl) (Ap ?_)
    exact ⟨⟨[_], tm, rfl⟩, ⟨rfl, rfl, rfl, rfl, tv⟩, tv⟩
theorem On (N : Nat) (p0 : Ab) (p1 : Ac) (p2 : Ad) (r : Ac × Bool) (h : FT N p0 p1 p2 = some r) : Aq Tryz.prog 100 [.e (.agg (Ah p0)), .e (.agg (Az p1)), .e (.agg (Cd p2))] [(1, r.1.fd.map An), (1, r.1.fa.map An), (1, r.1.fc.map B3)] (.tup [.agg [.own 0, .own 1, .own 2], .one (.pure (.val (.bool r.2)))]) := by
 unfold FT at h
 refine cw (n := 51) (rs := [.cell 6 38, .tmp 7]) Tryz.func100 fun w0 S0 => ?_
 refine wq rfl (qb rfl (qb rfl (qb rfl (qz Cc rfl (qa rfl (Aa (wq rfl (qL A3 AF rfl ?_))))))))
 refine BT h fun v1 a1 h => Ar [2001, 2002, 2003] (MU N p1 v1 a1) VO rfl (qz Cc rfl (qs AF rfl (Aa (wp rfl (qf DW rfl (ql BL rfl (Aa (AM (wq rfl (Bs rfl (qe rfl ?_)))))))))))
 refine Be h (fun h => ?_) fun h => ?_
 ·refine wq rfl (qL A3 AF rfl (qL CT Cy rfl (qL F7 Ch rfl ?_)))
  refine BT h fun v3 a3 h => LV (ds0 := [_, _, _]) [8, 2001, 2002, 2003] [] [false, false, true, true] (N3 N p0 v1 p2 v3 a3) (.p rfl) VE rfl ⟨rfl, rfl, rfl, tv⟩ rfl rfl (by decide) ⟨rfl, rfl, rfl, rfl, tv⟩ rfl (Ha rfl) tv ⟨(fun _ => rfl), (fun _ => rfl), (fun h => by cases h), (fun h => by cases h), tv⟩ rfl rfl rfl ?_
  refine qs AF rfl (qa rfl (AI (by kernel_rfl) ?_))
  obtain rfl := sj h
  refine Ae (sm [(1000, 2001), (1001, 2002), (1002, 2003)] [(6, oD (.ptr 6 0)), (7, bD v3.1)] [(6, .box [.own 1000, .own 1001, .own 1002]), (1000, .vec 1 (v1.fd.map An)), (1001, .vec 1 (v3.2.1.map An)), (1002, .vec 1 (v3.2.2.map B3))] rfl rfl) (Ap ?_)
  exact ⟨⟨[_, _], ⟨.cellN _ _ _ _ _ _ _ rfl rfl A3 AF rfl rfl (GS rfl), tm⟩, rfl⟩, ⟨rfl, rfl, rfl, tv⟩⟩
 ·refine wq rfl (Bs rfl (qe rfl ?_))
  refine Be h (fun h => ?_) fun h => ?_
  ·refine wq rfl (qL A3 AF rfl (qL CT Cy rfl (qf D7 rfl (ql BL rfl ?_))))
   refine BT h fun v5 a5 h => LV (ds0 := [_, _, _]) [8, 2001, 2002, 2003] [] [false, false, false, true] (OB N p0 v1 p2.fh v5 a5) (.p rfl) VP rfl ⟨rfl, rfl, rfl, tv⟩ rfl rfl (by decide) ⟨rfl, rfl, rfl, rfl, tv⟩ rfl (Ha rfl) tv ⟨(fun _ => rfl), (fun _ => rfl), (fun _ => rfl), (fun h => by cases h), tv⟩ rfl rfl rfl ?_
   refine qs AF rfl (qa rfl (AI (by kernel_rfl) ?_))
   obtain rfl := sj h
   refine Ae (sm [(1000, 2001), (1001, 2002), (1002, 2003)] [(6, oD (.ptr 6 0)), (7, bD v5.1)] [(6, .box [.own 1000, .own 1001, .own 1002]), (1000, .vec 1 (v1.fd.map An)), (1001, .vec 1 (v1.fa.map An)), (1002, .vec 1 (v5.2.map B3))] rfl rfl) (Ap ?_)
   exact ⟨⟨[_, _], ⟨.cellN _ _ _ _ _ _ _ rfl rfl A3 AF rfl rfl (GS rfl), tm⟩, rfl⟩, ⟨rfl, rfl, rfl, tv⟩⟩
  ·refine Al (wq rfl (qf Bf rfl (ql AW rfl (qf D7 rfl (ql BL rfl ?_)))))
   refine BS h fun v6 a6 b6 h => qI Au Cz a6 (Af b6) rfl (qj BL (Af b6) rfl (qa rfl (Aa (wp rfl (qm rfl (AT rfl (Aa ?_)))))))
   refine Be h (fun h => ?_) fun h => ?_
   ·refine wq rfl (qL A3 AF rfl (qs AF rfl (qe rfl ?_)))
    obtain rfl := sj h
    refine Ae (sm [(1000, 2001), (1001, 2002), (1002, 2003)] [(6, oD (.ptr 6 0)), (7, bD false)] [(6, .box [.own 1000, .own 1001, .own 1002]), (1000, .vec 1 (v1.fd.map An)), (1001, .vec 1 (v1.fa.map An)), (1002, .vec 1 (v1.fc.map B3))] rfl rfl) (Ap ?_)
    exact ⟨⟨[_, _], ⟨.cellN _ _ _ _ _ _ _ rfl rfl A3 AF rfl rfl (GS rfl), tm⟩, rfl⟩, ⟨rfl, rfl, rfl, tv⟩⟩
   ·refine Al (wq rfl (qf Bf rfl (ql AW rfl (qf D7 rfl (ql BL rfl ?_)))))
    refine BS h fun v8 a8 b8 h => qI Au Cz a8 (Af b8) rfl ?_
    refine Ek rfl rfl rfl rfl (Af b8) rfl Cz rfl (IE rfl) (Ej An v1.fa _ ((-1))) ?_
    refine Aa ?_
    refine AK h (fun v9 => mk [(6, oD (.ptr 6 0)), (8, oD (.ptr 8 0))] [(6, .box [.pure (.nil0), .pure (.nil0), .pure (.nil0)]), (8, .box [.own 2004, .own 2005, .own 2006]), (2004, .vec 1 (v9.map An)), (2005, .vec 1 ((v1.fa.set ((p2.fh).toNat) ((-1))).map An)), (2006, .vec 1 (v1.fc.map B3))]) (fun j9 h => ?_) (fun v9 h => ?_)
    ·refine wq rfl (qf DW rfl (ql BL rfl (Bs rfl (Aa ?_))))
     refine Be h (fun h => ?_) fun h => ?_
     ·refine Ag Ay rfl (qf Cf rfl (ql AW rfl (qf D7 rfl (ql BL rfl (qm rfl ?_)))))
      refine BS h fun v11 a11 b11 h => qI Au Cz a11 (Af b11) rfl ?_
      refine Ek rfl rfl rfl rfl (Af b11) rfl Cz rfl (IE rfl) (Ej An v1.fd _ v6) ?_
      refine Aa ?_
      exact sn [(2004, 2001), (2005, 2002), (2006, 2003)] h
     ·refine Al ?_
      exact sn [(2004, 2001), (2005, 2002), (2006, 2003)] h
    ·refine wq rfl (qL A3 AF rfl (qs AF rfl (qe rfl ?_)))
     obtain rfl := sj h
     refine Ae (sm [(1000, 2004), (1001, 2005), (1002, 2006)] [(6, oD (.ptr 6 0)), (7, bD true)] [(6, .box [.own 1000, .own 1001, .own 1002]), (1000, .vec 1 (v9.map An)), (1001, .vec 1 ((v1.fa.set ((p2.fh).toNat) ((-1))).map An)), (1002, .vec 1 (v1.fc.map B3))] rfl rfl) (Ap ?_)
     exact ⟨⟨[_, _], ⟨.cellN _ _ _ _ _ _ _ rfl rfl A3 AF rfl rfl (GS rfl), tm⟩, rfl⟩, ⟨rfl, rfl, rfl, tv⟩⟩
theorem N7 (N : Nat) (p0 : Ab) (p1 : Ac) (p2 : Ad) (r : Ac × Int) (h : FQ N p0 p1 p2 = some r) : Aq Tryz.prog 83 [.e (.agg (Ah p0)), .e (.agg (Az p1)), .e (.agg (Cd p2))] [(1, r.1.fd.map An), (1, r.1.fa.map An), (1, r.1.fc.map B3)] (.tup [.agg [.own 0, .own 1, .own 2], .one (iC r.2)]) := by
 unfold FQ at h
 refine cw (n := 32) (rs := [.cell 6 38, .tmp 7]) Tryz.func83 fun w0 S0 => ?_
 refine wq rfl (qb rfl (qb rfl (qb rfl (qz Cc rfl (qa rfl (Aa (AN (AM (wq rfl (qL F7 Ch rfl ?_))))))))))
 refine BT h fun v1 a1 h => Ar [] (KE N p2 v1 a1) VH rfl (BX rfl (qe rfl ?_))
 refine Be h (fun h => ?_) fun h => ?_
 ·refine wq rfl (A8 Cc F3 rfl (qs AF rfl (qe rfl ?_)))
  obtain rfl := sj h
  refine Ae ((Ax 6 0 2001 1 _ rfl rfl rfl rfl).trans ((Ax 6 1 2002 1 _ rfl rfl rfl rfl).trans ((Ax 6 2 2003 1 _ rfl rfl rfl rfl).trans (sm [(1000, 2001), (1001, 2002), (1002, 2003)] [(6, oD (.ptr 6 0)), (7, iD 1)] [(6, .box [.own 1000, .own 1001, .own 1002]), (1000, .vec 1 ((([] : List Int)).map An)), (1001, .vec 1 ((([] : List Int)).map An)), (1002, .vec 1 ((([] : List Int)).map B3))] rfl rfl)))) (Ap ?_)
  exact ⟨⟨[_, _], ⟨.cellN _ _ _ _ _ _ _ rfl rfl A3 AF rfl rfl (GS rfl), tm⟩, rfl⟩, ⟨rfl, rfl, rfl, tv⟩⟩
 ·refine wq rfl (qL CT Cy rfl (qL F7 Ch rfl ?_))
  refine BT h fun v3 a3 h => Ar [] (MV N p0 p2 v3 a3) Xh rfl (BX rfl (qe rfl ?_))
  refine Be h (fun h => ?_) fun h => ?_
  ·refine wq rfl (A8 Cc F3 rfl (qs AF rfl (qe rfl ?_)))
   obtain rfl := sj h
   refine Ae ((Ax 6 0 2004 1 _ rfl rfl rfl rfl).trans ((Ax 6 1 2005 1 _ rfl rfl rfl rfl).trans ((Ax 6 2 2006 1 _ rfl rfl rfl rfl).trans (sm [(1000, 2004), (1001, 2005), (1002, 2006)] [(6, oD (.ptr 6 0)), (7, iD 4)] [(6, .box [.own 1000, .own 1001, .own 1002]), (1000, .vec 1 ((([] : List Int)).map An)), (1001, .vec 1 ((([] : List Int)).map An)), (1002, .vec 1 ((([] : List Int)).map B3))] rfl rfl)))) (Ap ?_)
   exact ⟨⟨[_, _], ⟨.cellN _ _ _ _ _ _ _ rfl rfl A3 AF rfl rfl (GS rfl), tm⟩, rfl⟩, ⟨rfl, rfl, rfl, tv⟩⟩
  ·refine Al (wq rfl (qL CT Cy rfl (qL A3 AF rfl (qL F7 Ch rfl ?_))))
   refine BT h fun v5 a5 h => Ar [2007, 2008, 2009] (On N p0 p1 p2 v5 a5) Wf rfl (qm rfl (qx rfl (qx rfl (qz Cc rfl (qs AF rfl (qa rfl (Aa (wp rfl (qm rfl (BX rfl (Aa ?_)))))))))))
   refine Be h (fun h => ?_) fun h => ?_
   ·refine wq rfl (A8 Cc F3 rfl (qs AF rfl (qe rfl ?_)))
    obtain rfl := sj h
    refine Ae ((Ax 6 0 2010 1 _ rfl rfl rfl rfl).trans ((Ax 6 1 2011 1 _ rfl rfl rfl rfl).trans ((Ax 6 2 2012 1 _ rfl rfl rfl rfl).trans (sm [(1000, 2010), (1001, 2011), (1002, 2012)] [(6, oD (.ptr 6 0)), (7, iD 11)] [(6, .box [.own 1000, .own 1001, .own 1002]), (1000, .vec 1 ((([] : List Int)).map An)), (1001, .vec 1 ((([] : List Int)).map An)), (1002, .vec 1 ((([] : List Int)).map B3))] rfl rfl)))) (Ap ?_)
    exact ⟨⟨[_, _], ⟨.cellN _ _ _ _ _ _ _ rfl rfl A3 AF rfl rfl (GS rfl), tm⟩, rfl⟩, ⟨rfl, rfl, rfl, tv⟩⟩
   ·refine Al (wq rfl (qL A3 AF rfl (qs AF rfl (qe rfl ?_))))
    obtain rfl := sj h
    refine Ae (sm [(1000, 2007), (1001, 2008), (1002, 2009)] [(6, oD (.ptr 6 0)), (7, iD 0)] [(6, .box [.own 1000, .own 1001, .own 1002]), (1000, .vec 1 (v5.1.fd.map An)), (1001, .vec 1 (v5.1.fa.map An)), (1002, .vec 1 (v5.1.fc.map B3))] rfl rfl) (Ap ?_)
    exact ⟨⟨[_, _], ⟨.cellN _ _ _ _ _ _ _ rfl rfl A3 AF rfl rfl (GS rfl), tm⟩, rfl⟩, ⟨rfl, rfl, rfl, tv⟩⟩
theorem Kn (N : Nat) (p0 : Ab) (p1 : Ac) (p2 : Ad) (r : Ac × Int) (h : E5 N p0 p1 p2 = some r) : Aq Tryz.prog 56 [.e (.agg (Ah p0)), .e (.agg (Az p1)), .e (.agg (Cd p2))] [(1, r.1.fd.map An), (1, r.1.fa.map An), (1, r.1.fc.map B3)] (.tup [.agg [.own 0, .own 1, .own 2], .one (iC r.2)]) := by
 unfold E5 at h
 refine cw (n := 22) (rs := [.cell 6 38, .tmp 7]) Tryz.func56 fun w0 S0 => ?_
 refine wq rfl (qb rfl (qb rfl (qb rfl (qz Cc rfl (qa rfl (Aa (wp rfl (qL CT Cy rfl (qL A3 AF rfl ?_)))))))))
 refine BT h fun v1 a1 h => Ar [] (Ih N p0 p1 v1 a1) TZ rfl (qa rfl (Aa (wq rfl (qm rfl (BF rfl (Aa ?_))))))
 refine Be h (fun h => ?_) fun h => ?_
 ·refine wq rfl (A8 Cc F3 rfl (qm rfl (qs AF rfl (qe rfl ?_))))
  obtain rfl := sj h
  refine Ae ((Ax 6 0 2001 1 _ rfl rfl rfl rfl).trans ((Ax 6 1 2002 1 _ rfl rfl rfl rfl).trans ((Ax 6 2 2003 1 _ rfl rfl rfl rfl).trans (sm [(1000, 2001), (1001, 2002), (1002, 2003)] [(6, oD (.ptr 6 0)), (7, iD v1)] [(6, .box [.own 1000, .own 1001, .own 1002]), (1000, .vec 1 ((([] : List Int)).map An)), (1001, .vec 1 ((([] : List Int)).map An)), (1002, .vec 1 ((([] : List Int)).map B3))] rfl rfl)))) (Ap ?_)
  exact ⟨⟨[_, _], ⟨.cellN _ _ _ _ _ _ _ rfl rfl A3 AF rfl rfl (GS rfl), tm⟩, rfl⟩, ⟨rfl, rfl, rfl, tv⟩⟩
 ·refine Al (wq rfl (qL CT Cy rfl (qL A3 AF rfl (qL F7 Ch rfl ?_))))
  refine BT h fun v3 a3 h => Ar [2004, 2005, 2006] (N7 N p0 p1 p2 v3 a3) WL rfl (qx rfl (qx rfl (qs AF rfl (qe rfl ?_))))
  obtain rfl := sj h
  refine Ae (sm [(1000, 2004), (1001, 2005), (1002, 2006)] [(6, oD (.ptr 6 0)), (7, iD v3.2)] [(6, .box [.own 1000, .own 1001, .own 1002]), (1000, .vec 1 (v3.1.fd.map An)), (1001, .vec 1 (v3.1.fa.map An)), (1002, .vec 1 (v3.1.fc.map B3))] rfl rfl) (Ap ?_)
  exact ⟨⟨[_, _], ⟨.cellN _ _ _ _ _ _ _ rfl rfl A3 AF rfl rfl (GS rfl), tm⟩, rfl⟩, ⟨rfl, rfl, rfl, tv⟩⟩
theorem IJ (N : Nat) (p0 : List Int) (p1 : List Int) (r : Bool) (h : EH N p0 p1 = some r) : Aq Tryz.prog 70 [pD (.sl (p0.map An)), pD (.sl (p1.map An))] [] (bD r) := by
 unfold EH at h
 refine cw (n := 26) (rs := [.tmp 4]) Tryz.func70 fun w0 S0 => ?_
 refine wq rfl (qa rfl (Aa (wp rfl (qm rfl (AB Au rfl (qm rfl (AB Au rfl (BF rfl (Aa ?_)))))))))
 refine Be h (fun h => ?_) fun h => ?_
 ·refine wq rfl (qe rfl ?_)
  obtain rfl := sj h
  refine Ae (sm [] [(4, bD false)] [] rfl rfl) (Ap ?_)
  exact ⟨⟨[_], tm, rfl⟩, tv⟩
 ·refine Al (wp rfl (qm rfl (AB Au rfl (qm rfl (Aa ?_)))))
  refine AH (L := Dh N p0 p1) h (fun v2 => mk [(0, pD (.sl (p0.map An))), (1, pD (.sl (p1.map An))), (12, iD ((p0.length : Int))), (13, iD v2)] []) (fun v3 => mk [] []) (fun _ _ => rfl) (sm [] _ _ rfl rfl) (fun j2 n2 v2 h => ?_) (fun v3 s h hs => ?_)
  ·unfold Dh at h
   refine wq rfl (AT rfl (Aa (AN ?_)))
   refine Be h (fun h => ?_) fun h => ?_
   ·refine Al (AN (AM (wq rfl (qm rfl (qa rfl (Aa (wq rfl (qw 2 rfl ?_))))))))
    refine BS h fun v5 a5 b5 h => qi Au Cz a5 (Af b5) rfl (qk BL rfl (qw 2 rfl ?_))
    refine BS h fun v6 a6 b6 h => qi Au Cz a6 (Af b6) rfl (qk BL rfl (BF rfl (AI (by kernel_rfl) ?_)))
    refine Be h (fun h => ?_) fun h => ?_
    ·refine wq rfl (qe rfl ?_)
     obtain rfl := sj h
     refine Ae (sm [] [(4, bD false)] [] rfl rfl) (Ap ?_)
     exact ⟨⟨[_], tm, rfl⟩, tv⟩
    ·refine Al (Ag Ay rfl (Bd rfl (qm rfl (Aa ?_))))
     exact sn [] h
   ·refine AS ?_
    exact sn [] h
  ·refine Ae hs (wq rfl (qe rfl ?_))
   obtain rfl := sj h
   refine Ae (sm [] [(4, bD true)] [] rfl rfl) (Ap ?_)
   exact ⟨⟨[_], tm, rfl⟩, tv⟩
theorem HM (N : Nat) (p0 : List Int) (p1 : Int → Option Bool) (r : Int) (h : D8 N p0 p1 = some r) : Aq Tryz.prog 93 [pD (.sl (p0.map An)), oD (.clo (MI (Rs false An) tB p1))] [] (iD r) := by
 unfold D8 at h
 refine cw (n := 19) (rs := [.tmp 4]) Tryz.func93 fun w0 S0 => ?_
 refine wq rfl (qa rfl (Aa (wp rfl (qm rfl (AB Au rfl (qm rfl (Aa ?_)))))))
 refine AH (L := CG N p0 p1) h (fun v1 => mk [(0, pD (.sl (p0.map An))), (1, oD (.clo (MI (Rs false An) tB p1))), (7, iD ((p0.length : Int))), (8, iD v1)] []) (fun v2 => mk [] []) (fun _ _ => rfl) (sm [] _ _ rfl rfl) (fun j1 n1 v1 h => ?_) (fun v2 s h hs => ?_)
 ·unfold CG at h
  refine wq rfl (AT rfl (Aa (AN ?_)))
  refine Be h (fun h => ?_) fun h => ?_
  ·refine Al (AN (AM (wq rfl (qm rfl (qa rfl (Aa (wq rfl (qw 3 rfl ?_))))))))
   refine BS h fun v4 a4 b4 h => qi Au Cz a4 (Af b4) rfl (qk BL rfl ?_)
   refine BT h fun v5 a5 h => QC (ds0 := [_]) (ar := (Rs false An) v4) (.p rfl) rfl rfl ⟨rfl, tv⟩ rfl rfl rfl (Qo (QS _ _ UD) a5) ?_
   refine Aa ?_
   refine Be h (fun h => ?_) fun h => ?_
   ·refine wq rfl (qm rfl (qe rfl ?_))
    obtain rfl := sj h
    refine Ae (sm [] [(4, iD v1)] [] rfl rfl) (Ap ?_)
    exact ⟨⟨[_], tm, rfl⟩, tv⟩
   ·refine Al (Ag Ay rfl (Bd rfl (qm rfl (Aa ?_))))
    exact sn [] h
  ·refine AS ?_
   exact sn [] h
 ·refine Ae hs (wq rfl (qe rfl ?_))
  obtain rfl := sj h
  refine Ae (sm [] [(4, iD ((-1)))] [] rfl rfl) (Ap ?_)
  exact ⟨⟨[_], tm, rfl⟩, tv⟩
theorem Hc (N : Nat) (p0 : List Int) (p1 : Int → Option Bool) (r : Bool) (h : DE N p0 p1 = some r) : Aq Tryz.prog 71 [pD (.sl (p0.map An)), oD (.clo (MI (Rs false An) tB p1))] [] (bD r) := by
 unfold DE at h
 refine cw (n := 9) (rs := [.tmp 4]) Tryz.func71 fun w0 S0 => ?_
 refine wq rfl (qa rfl (Aa (wq rfl (qw 2 rfl ?_))))
 refine BT h fun v1 a1 h => Ar [] (HM N p0 p1 v1 a1) Xj rfl (El rfl (qe rfl ?_))
 obtain rfl := sj h
 refine Ae (sm [] [(4, bD ((decide (0 ≤ v1))))] [] rfl rfl) (Ap ?_)
 exact ⟨⟨[_], tm, rfl⟩, tv⟩
theorem OF (N : Nat) (p0 : Int) (r : Bool) (h : G7 N p0 = some r) : Aq Tryz.prog 72 [iD p0] [] (bD r) := by
 unfold G7 at h
 refine cw (n := 5) (rs := [.tmp 2]) Tryz.func72 fun w0 S0 => ?_
 refine wq rfl (qa rfl (Aa (wq rfl (qm rfl (El rfl (qe rfl ?_))))))
 obtain rfl := sj h
 refine Ae (sm [] [(2, bD ((decide (0 ≤ p0))))] [] rfl rfl) (Ap ?_)
 exact ⟨⟨[_], tm, rfl⟩, tv⟩
theorem L6 (N : Nat) (p0 : Ab) (p1 : Ac) (r : Bool) (h : H6 N p0 p1 = some r) : Aq Tryz.prog 48 [.e (.agg (Ah p0)), .e (.agg (Az p1))] [] (bD r) := by
 unfold H6 at h
 refine cw (n := 22) (rs := [.tmp 4]) Tryz.func48 fun w0 S0 => ?_
 refine wq rfl (qb rfl (qb rfl (qe rfl ?_)))
 refine AK h (fun v1 => mk [(4, bD v1)] []) (fun j1 h => ?_) (fun v1 h => ?_)
 ·refine Ag Ay rfl (qL CT Cy rfl (qL A3 AF rfl ?_))
  refine BT h fun v2 a2 h => Ar [] (Ih N p0 p1 v2 a2) TZ rfl (Bs rfl (qm rfl ?_))
  refine Dr 9 h rfl (fun h => ?_) fun h => ?_
  ·refine qf Cf rfl (ql AW rfl (qf Ia rfl (ql AW rfl ?_)))
   refine BT h fun v4 a4 h => Ar [] (IJ N p1.fd p0.fo v4 a4) XJ rfl (qp rfl (qm rfl ?_))
   refine Dr 16 h rfl (fun h => ?_) fun h => ?_
   ·refine qf Bf rfl (ql AW rfl ?_)
    refine BT h fun v6 a6 h => Ar [] (Aq.weak (ds' := [pD (.sl (p1.fa.map An)), oD (.fnc 72)]) (Hc N p1.fa ((fun (x : Int) => G7 N x)) v6 a6) ⟨(fun _ _ _ hh => hh), (fun _ _ _ hh => To Xv (fun ar t ht => by obtain ⟨x, r, rfl, hq, rfl⟩ := NK ht; exact OF N x r hq) hh), tv⟩) Xd rfl ?_
    refine BX rfl (qp rfl (qe rfl ?_))
    exact sn [] h
   ·refine qw 4 rfl (qp rfl (qe rfl ?_))
    exact sn [] h
  ·refine qw 5 rfl (qp rfl (qw 5 rfl (qp rfl (qe rfl ?_))))
   exact sn [] h
 ·obtain rfl := sj h
  refine Ae (sm [] [(4, bD v1)] [] rfl rfl) (Ap ?_)
  exact ⟨⟨[_], tm, rfl⟩, tv⟩
theorem MD (N : Nat) (p0 : Ab) (p1 : List Ad) (r : Int × Ac × Aj × Int) (h : Hm N p0 p1 = some r) : Aq Tryz.prog 68 [.e (.agg (Ah p0)), pD (.sl (p1.map Ai))] [] (.tup [.one (iC r.1), .agg (Az r.2.1), .agg (GJ r.2.2.1), .one (iC r.2.2.2)]) := by
 unfold Hm at h
 refine cw (n := 89) (rs := [.tmp 4, .cell 5 38, .cell 6 93, .tmp 7]) Tryz.func68 fun w0 S0 => ?_
 refine wq rfl (qb rfl (qa rfl (qz Cc rfl (qz HB rfl (qa rfl (Aa (wq rfl (qL CT Cy rfl ?_))))))))
 refine BT h fun v1 a1 h => Ar [2001, 2002, 2003] (I8 N p0 v1 a1) Vr rfl (qm rfl (qx rfl (qx rfl (qz Cc rfl (qs AF rfl (qa rfl (Aa (wp rfl (qm rfl (BF rfl (Aa ?_)))))))))))
 refine Be h (fun h => ?_) fun h => ?_
 ·refine wq rfl (A8 Cc F3 rfl (A8 HB MZ rfl (qm rfl (qa rfl (qs AF rfl (qs Fx rfl (qe rfl ?_)))))))
  obtain rfl := sj h
  refine Ae ((E3 5 _ rfl).trans (sm [] [(4, iD 0), (5, oD (.ptr 5 0)), (6, oD (.ptr 6 0)), (7, iD v1.2)] [(5, .box [sC ((([] : List Int)).map An), sC ((([] : List Int)).map An), sC ((([] : List Int)).map B3)]), (6, .box [iC 0, iC 0, iC 0])] rfl rfl)) (Ap ?_)
  exact ⟨⟨[_, _, _, _], ⟨.tmp _ _ rfl, ⟨.cellN _ _ _ _ _ _ _ rfl rfl A3 AF rfl rfl (GS rfl), ⟨.cellN _ _ _ _ _ _ _ rfl rfl LN Fx rfl rfl (GS rfl), tm⟩⟩⟩, rfl⟩, tv⟩
 ·refine Al (wp rfl (qL CT Cy rfl (qL A3 AF rfl (C6 (AU 2001 _ _ rfl rfl) (C6 (AU 2002 _ _ rfl rfl) (C6 (AU 2003 _ _ rfl rfl) ?_))))))
  refine BT h fun v3 a3 h => Ar [] (Jh N p0 v1.1 v3 a3) Vd rfl (qm rfl (qx rfl (qx rfl (qx rfl (qz Cc rfl (qz HB rfl (qs AF rfl (qs Fx rfl (qa rfl (Aa (wq rfl (qm rfl (Bs rfl (Aa ?_))))))))))))))
  refine Be h (fun h => ?_) fun h => ?_
  ·refine wq rfl (qL A3 AF rfl (qL LN Fx rfl (qa rfl (qs AF rfl (qs Fx rfl (qa rfl (AI (by kernel_rfl) ?_)))))))
   obtain rfl := sj h
   refine Ae (sm [] [(4, iD ((-1))), (5, oD (.ptr 5 0)), (6, oD (.ptr 6 0)), (7, iD 0)] [(5, .box (Az v3.1)), (6, .box (GJ v3.2.1))] rfl rfl) (Ap ?_)
   exact ⟨⟨[_, _, _, _], ⟨.tmp _ _ rfl, ⟨.cellN _ _ _ _ _ _ _ rfl rfl A3 AF rfl rfl (GS rfl), ⟨.cellN _ _ _ _ _ _ _ rfl rfl LN Fx rfl rfl (GS rfl), tm⟩⟩⟩, rfl⟩, tv⟩
  ·refine Al (wp rfl (qm rfl (AB Bo rfl (qm rfl (Aa ?_)))))
   refine AH (L := ER N p0 p1) h (fun v5 => mk [(1, pD (.sl (p1.map Ai))), (2, oD (.ptr 2 0)), (5, oD (.ptr 5 0)), (6, oD (.ptr 6 0)), (8, oD (.ptr 8 0)), (41, pD (.sl (p1.map Ai))), (42, iD ((p1.length : Int))), (43, iD v5.2)] [(2, .box (Ah p0)), (5, .box [.pure (.nil0), .pure (.nil0), .pure (.nil0)]), (6, .box [iC 0, iC 0, iC 0]), (8, .box (Az v5.1))]) (fun v6 => mk [(1, pD (.sl (p1.map Ai))), (2, oD (.ptr 2 0)), (5, oD (.ptr 5 0)), (6, oD (.ptr 6 0)), (8, oD (.ptr 8 0))] [(2, .box (Ah p0)), (5, .box [.pure (.nil0), .pure (.nil0), .pure (.nil0)]), (6, .box [iC 0, iC 0, iC 0]), (8, .box (Az v6))]) (fun _ _ => rfl) (sm [] _ _ rfl rfl) (fun j5 n5 v5 h => ?_) (fun v6 s h hs => ?_)
   ·unfold ER at h
    refine wq rfl (AT rfl (Aa (AN ?_)))
    refine Be h (fun h => ?_) fun h => ?_
    ·refine Al (AN (AM (wq rfl (qm rfl ?_))))
     refine BS h fun v8 a8 b8 h => qi Bo Ch a8 (Af b8) rfl (qK F7 Ch rfl (qz IS rfl (qa rfl (qs Ch rfl (Aa (wq rfl (qL CT Cy rfl (qL A3 AF rfl (qL F7 Ch rfl ?_)))))))))
     refine BT h fun v9 a9 h => Ar [2004, 2005, 2006] (Kn N p0 v5.1 v8 v9 a9) VJ rfl (qm rfl (qx rfl (qx rfl (qz Cc rfl (qs AF rfl (qa rfl (Aa (AN ?_))))))))
     refine AK h (fun v10 => mk [(1, pD (.sl (p1.map Ai))), (2, oD (.ptr 2 0)), (5, oD (.ptr 5 0)), (6, oD (.ptr 6 0)), (8, oD (.ptr 8 0)), (13, iD v5.2), (15, oD (.ptr 15 0)), (41, pD (.sl (p1.map Ai))), (42, iD ((p1.length : Int))), (43, iD v5.2), (61, bD v10)] [(2, .box (Ah p0)), (5, .box [.pure (.nil0), .pure (.nil0), .pure (.nil0)]), (6, .box [iC 0, iC 0, iC 0]), (8, .box (Az v5.1)), (15, .box [.own 2007, .own 2008, .own 2009]), (2007, .vec 1 (v9.1.fd.map An)), (2008, .vec 1 (v9.1.fa.map An)), (2009, .vec 1 (v9.1.fc.map B3))]) (fun j10 h => ?_) (fun v10 h => ?_)
     ·refine Ag Ay rfl (qm rfl (BF rfl (qm rfl ?_)))
      refine Dr 57 h rfl (fun h => ?_) fun h => ?_
      ·refine qw 3 rfl (qp rfl (Aa ?_))
       exact sn [(2007, 2004), (2008, 2005), (2009, 2006)] h
      ·refine qf DW rfl (ql BL rfl (Bs rfl (qp rfl (Aa ?_))))
       exact sn [(2007, 2004), (2008, 2005), (2009, 2006)] h
     ·refine Be h (fun h => ?_) fun h => ?_
      ·refine wq rfl (qm rfl (A8 Cc F3 rfl (A8 HB MZ rfl (qa rfl (qs AF rfl (qs Fx rfl (qe rfl ?_)))))))
       obtain rfl := sj h
       refine Ae ((E3 5 _ rfl).trans (sm [] [(4, iD v5.2), (5, oD (.ptr 5 0)), (6, oD (.ptr 6 0)), (7, iD 0)] [(5, .box [sC ((([] : List Int)).map An), sC ((([] : List Int)).map An), sC ((([] : List Int)).map B3)]), (6, .box [iC 0, iC 0, iC 0])] rfl rfl)) (Ap ?_)
       exact ⟨⟨[_, _, _, _], ⟨.tmp _ _ rfl, ⟨.cellN _ _ _ _ _ _ _ rfl rfl A3 AF rfl rfl (GS rfl), ⟨.cellN _ _ _ _ _ _ _ rfl rfl LN Fx rfl rfl (GS rfl), tm⟩⟩⟩, rfl⟩, tv⟩
      ·refine Al (wp rfl (qL CT Cy rfl (qL A3 AF rfl (C6 (AU 2007 _ _ rfl rfl) (C6 (AU 2008 _ _ rfl rfl) (C6 (AU 2009 _ _ rfl rfl) ?_))))))
       refine BT h fun v13 a13 h => Ar [] (Jh N p0 v9.1 v13 a13) Vd rfl (qm rfl (qx rfl (qx rfl (qx rfl (qz Cc rfl (qz HB rfl (qs AF rfl (qs Fx rfl (qa rfl (Aa (wq rfl (qm rfl (Bs rfl (Aa ?_))))))))))))))
       refine Be h (fun h => ?_) fun h => ?_
       ·refine wq rfl (qm rfl (qL A3 AF rfl (qL LN Fx rfl (qa rfl (qs AF rfl (qs Fx rfl (qa rfl (AI (by kernel_rfl) ?_))))))))
        obtain rfl := sj h
        refine Ae (sm [] [(4, iD v5.2), (5, oD (.ptr 5 0)), (6, oD (.ptr 6 0)), (7, iD 0)] [(5, .box (Az v13.1)), (6, .box (GJ v13.2.1))] rfl rfl) (Ap ?_)
        exact ⟨⟨[_, _, _, _], ⟨.tmp _ _ rfl, ⟨.cellN _ _ _ _ _ _ _ rfl rfl A3 AF rfl rfl (GS rfl), ⟨.cellN _ _ _ _ _ _ _ rfl rfl LN Fx rfl rfl (GS rfl), tm⟩⟩⟩, rfl⟩, tv⟩
       ·refine Al (Ag Ay rfl (qL A3 AF rfl (qs AF rfl (Aa (Ag Ay rfl (Bd rfl (qm rfl (Aa ?_))))))))
        exact sn [] h
    ·refine AS ?_
     exact sn [] h
   ·refine Ae hs (wp rfl (qL CT Cy rfl (qL A3 AF rfl ?_)))
    refine BT h fun v15 a15 h => Ar [] (L6 N p0 v6 v15 a15) VI rfl (BX rfl (Aa ?_))
    refine Be h (fun h => ?_) fun h => ?_
    ·refine wq rfl (qm rfl (AB Bo rfl (A8 Cc F3 rfl (A8 HB MZ rfl (qa rfl (qs AF rfl (qs Fx rfl (qe rfl ?_))))))))
     obtain rfl := sj h
     refine Ae ((E3 5 _ rfl).trans (sm [] [(4, iD ((p1.length : Int))), (5, oD (.ptr 5 0)), (6, oD (.ptr 6 0)), (7, iD 14)] [(5, .box [sC ((([] : List Int)).map An), sC ((([] : List Int)).map An), sC ((([] : List Int)).map B3)]), (6, .box [iC 0, iC 0, iC 0])] rfl rfl)) (Ap ?_)
     exact ⟨⟨[_, _, _, _], ⟨.tmp _ _ rfl, ⟨.cellN _ _ _ _ _ _ _ rfl rfl A3 AF rfl rfl (GS rfl), ⟨.cellN _ _ _ _ _ _ _ rfl rfl LN Fx rfl rfl (GS rfl), tm⟩⟩⟩, rfl⟩, tv⟩
    ·refine Al (wq rfl (A8 Cc F3 rfl (A8 HB MZ rfl (qa rfl (qs AF rfl (qs Fx rfl (qe rfl ?_)))))))
     obtain rfl := sj h
     refine Ae ((E3 5 _ rfl).trans (sm [] [(4, iD 0), (5, oD (.ptr 5 0)), (6, oD (.ptr 6 0)), (7, iD 15)] [(5, .box [sC ((([] : List Int)).map An), sC ((([] : List Int)).map An), sC ((([] : List Int)).map B3)]), (6, .box [iC 0, iC 0, iC 0])] rfl rfl)) (Ap ?_)
     exact ⟨⟨[_, _, _, _], ⟨.tmp _ _ rfl, ⟨.cellN _ _ _ _ _ _ _ rfl rfl A3 AF rfl rfl (GS rfl), ⟨.cellN _ _ _ _ _ _ _ rfl rfl LN Fx rfl rfl (GS rfl), tm⟩⟩⟩, rfl⟩, tv⟩
theorem Ot (N : Nat) (p0 : Ab) (p1 : List Ad) (r : Bool) (h : Im N p0 p1 = some r) : Aq Tryz.prog 45 [.e (.agg (Ah p0)), pD (.sl (p1.map Ai))] [] (bD r) := by
 unfold Im at h
 refine cw (n := 19) (rs := [.tmp 4]) Tryz.func45 fun w0 S0 => ?_
 refine wq rfl (qb rfl (qa rfl (Aa (wq rfl (qL CT Cy rfl (qm rfl ?_))))))
 refine BT h fun v1 a1 h => Ar [] (MD N p0 p1 v1 a1) WT rfl (qm rfl (qx rfl (qx rfl (qx rfl (qx rfl (qz Cc rfl (qz HB rfl (qa rfl (qs AF rfl (qs Fx rfl (qa rfl (Aa (wq rfl (qm rfl (Bs rfl (qe rfl ?_))))))))))))))))
 obtain rfl := sj h
 refine Ae (sm [] [(4, bD ((v1.2.2.2 == 15)))] [] rfl rfl) (Ap ?_)
 exact ⟨⟨[_], tm, rfl⟩, tv⟩
theorem IK (N : Nat) (p0 : Ab) (p1 : Ac) (r : Bool × Int) (h : Et N p0 p1 = some r) : Aq Tryz.prog 31 [.e (.agg (Ah p0)), .e (.agg (Az p1))] [] (.tup [.one (.pure (.val (.bool r.1))), .one (iC r.2)]) := by
 unfold Et at h
 refine cw (n := 22) (rs := [.tmp 4, .tmp 5]) Tryz.func31 fun w0 S0 => ?_
 refine wq rfl (qb rfl (qb rfl (qa rfl (qa rfl (Aa (wq rfl (qL CT Cy rfl (qL A3 AF rfl ?_))))))))
 refine BT h fun v1 a1 h => Ar [] (Jh N p0 p1 v1 a1) Vd rfl (qm rfl (qx rfl (qx rfl (qx rfl (qz Cc rfl (qz HB rfl (qs AF rfl (qs Fx rfl (qa rfl (Aa (wq rfl (qm rfl (Aa (AM (wq rfl (Bs rfl (qe rfl ?_)))))))))))))))))
 refine Be h (fun h => ?_) fun h => ?_
 ·refine wq rfl (qa rfl (qe rfl ?_))
  obtain rfl := sj h
  refine Ae (sm [] [(4, bD false), (5, iD 0)] [] rfl rfl) (Ap ?_)
  exact ⟨⟨[_, _], ⟨.tmp _ _ rfl, tm⟩, rfl⟩, tv⟩
 ·refine wq rfl (Bs rfl (qe rfl ?_))
  refine Be h (fun h => ?_) fun h => ?_
  ·refine wq rfl (qa rfl (qe rfl ?_))
   obtain rfl := sj h
   refine Ae (sm [] [(4, bD true), (5, iD 0)] [] rfl rfl) (Ap ?_)
   exact ⟨⟨[_, _], ⟨.tmp _ _ rfl, tm⟩, rfl⟩, tv⟩
  ·refine wq rfl (qm rfl (qa rfl (qe rfl ?_)))
   obtain rfl := sj h
   refine Ae (sm [] [(4, bD false), (5, iD v1.2.2)] [] rfl rfl) (Ap ?_)
   exact ⟨⟨[_, _], ⟨.tmp _ _ rfl, tm⟩, rfl⟩, tv⟩
theorem OS (N : Nat) (p0 : Int) (r : ByteArray) (h : Em N p0 = some r) : Aq Tryz.prog 80 [iD p0] [] (pD (.val (.string r))) := by
 unfold Em at h
 refine cw (n := 7) (rs := [.tmp 2]) Tryz.func80 fun w0 S0 => ?_
 refine wq rfl (qa rfl (Aa (wq rfl (D4 RO XP XR rfl (qm rfl ?_)))))
 refine BS h fun v1 a1 b1 h => Pj (.p rfl) rfl rfl rfl RO XP a1 (Af (f := eS) b1) ?_
 refine O2 (.p rfl) rfl XS rfl (Af (f := eS) b1) rfl ?_
 refine qa rfl (Aa ?_)
 obtain rfl := sj h
 refine Ae (sm [] [(2, pD (.val (.string v1)))] [] rfl rfl) (Ap ?_)
 exact ⟨⟨[_], tm, rfl⟩, tv⟩
def RP : Go.Shelf.Ren := ⟨fun | 129 => 121 | 171 => 81 | 243 => 98 | 246 => 108 | 283 => 113 | 284 => 114 | 285 => 115 | 286 => 116 | 317 => 120 | 318 => 122 | 319 => 123 | 320 => 124 | 337 => 126 | 338 => 127 | n => n, fun | 0 => 0 | 2 => 2 | 3 => 3 | 4 => 4 | 5 => 5 | 9 => 9 | 20 => 20 | 37 => 22 | 46 => 126 | 51 => 137 | 53 => 140 | 171 => 150 | 173 => 153 | 212 => 158 | 213 => 159 | 232 => 163 | 233 => 164 | n => n, fun | 17 => 0 | 18 => 1 | 19 => 2 | n => n⟩
theorem UX : LaysM.n171 Tryz.prog RP := { mixed := Ay, f129 := Tryz.func121.trans (congrArg some (by kernel_rfl)), f171 := Tryz.func81.trans (congrArg some (by kernel_rfl)), f243 := Tryz.func98.trans (congrArg some (by kernel_rfl)), f246 := Tryz.func108.trans (congrArg some (by kernel_rfl)), f283 := Tryz.func113.trans (congrArg some (by kernel_rfl)), f284 := Tryz.func114.trans (congrArg some (by kernel_rfl)), f285 := Tryz.func115.trans (congrArg some (by kernel_rfl)), f286 := Tryz.func116.trans (congrArg some (by kernel_rfl)), f317 := Tryz.func120.trans (congrArg some (by kernel_rfl)), f318 := Tryz.func122.trans (congrArg some (by kernel_rfl)), f319 := Tryz.func123.trans (congrArg some (by kernel_rfl)), f320 := Tryz.func124.trans (congrArg some (by kernel_rfl)), f337 := Tryz.func126.trans (congrArg some (by kernel_rfl)), f338 := Tryz.func127.trans (congrArg some (by kernel_rfl)), t0 := Tryz.underlying0, a0 := Tryz.isAgg0, z0 := Tryz.sizeOf0, v0 := Tryz.zeroValue0, t2 := Tryz.underlying2, a2 := Tryz.isAgg2, z2 := Tryz.sizeOf2, v2 := Tryz.zeroValue2, t3 := Tryz.underlying3, a3 := Tryz.isAgg3, z3 := Tryz.sizeOf3, v3 := Tryz.zeroValue3, t4 := Tryz.underlying4, a4 := Tryz.isAgg4, z4 := Tryz.sizeOf4, v4 := Tryz.zeroValue4, t5 := Tryz.underlying5, a5 := Tryz.isAgg5, z5 := Tryz.sizeOf5, v5 := Tryz.zeroValue5, t9 := Tryz.underlying9, a9 := Tryz.isAgg9, z9 := Tryz.sizeOf9, v9 := Tryz.zeroValue9, t20 := Tryz.underlying20, a20 := Tryz.isAgg20, z20 := Tryz.sizeOf20, v20 := Tryz.zeroValue20, t37 := Tryz.underlying22, a37 := Tryz.isAgg22, z37 := Tryz.sizeOf22, v37 := Tryz.zeroValue22, t46 := Tryz.underlying126, a46 := Tryz.isAgg126, z46 := Tryz.sizeOf126, v46 := Tryz.zeroValue126, t51 := Tryz.underlying137, a51 := Tryz.isAgg137, z51 := Tryz.sizeOf137, v51 := Tryz.zeroValue137, t53 := Tryz.underlying140, a53 := Tryz.isAgg140, z53 := Tryz.sizeOf140, v53 := Tryz.zeroValue140, t171 := Tryz.underlying150, a171 := Tryz.isAgg150, z171 := Tryz.sizeOf150, v171 := Tryz.zeroValue150, t173 := Tryz.underlying153, a173 := Tryz.isAgg153, z173 := Tryz.sizeOf153, v173 := Tryz.zeroValue153, t212 := Tryz.underlying158, a212 := Tryz.isAgg158, z212 := Tryz.sizeOf158, v212 := Tryz.zeroValue158, t213 := Tryz.underlying159, a213 := Tryz.isAgg159, z213 := Tryz.sizeOf159, t232 := Tryz.underlying163, a232 := Tryz.isAgg163, z232 := Tryz.sizeOf163, v232 := Tryz.zeroValue163, t233 := Tryz.underlying164, a233 := Tryz.isAgg164, z233 := Tryz.sizeOf164, v233 := Tryz.zeroValue164, g17 := by kernel_rfl, g18 := by kernel_rfl, g19 := by kernel_rfl, i0 := by kernel_rfl, i2 := by kernel_rfl, i3 := by kernel_rfl, i4 := by kernel_rfl, i5 := by kernel_rfl, i9 := by kernel_rfl, i20 := by kernel_rfl, i37 := by kernel_rfl, i46 := by kernel_rfl, i51 := by kernel_rfl, i53 := by kernel_rfl, i171 := by kernel_rfl, i173 := by kernel_rfl, i212 := by kernel_rfl, i232 := by kernel_rfl, i233 := by kernel_rfl, m17 := by kernel_rfl, m18 := by kernel_rfl, m19 := by kernel_rfl }
theorem Jd (N : Nat) (p0 : Int) (r : ByteArray) (h : FZ N p0 = some r) : Aq Tryz.prog 81 [iD p0] [] (pD (.val (.string r))) := UJ UX (g := RP.g 17) (by kernel_rfl) h
theorem MO (N : Nat) (p0 : Ad) (r : ByteArray × Int) (h : Fo N p0 = some r) : Aq Tryz.prog 54 [.e (.agg (Cd p0))] [] (.tup [.one (.pure (.val (.string r.1))), .one (iC r.2)]) := by
 unfold Fo at h
 refine cw (n := 26) (rs := [.tmp 2, .tmp 3]) Tryz.func54 fun w0 S0 => ?_
 refine wq rfl (qb rfl (qa rfl (qa rfl (Aa (wp rfl (qL F7 Ch rfl ?_))))))
 refine BT h fun v1 a1 h => Ar [] (KE N p0 v1 a1) VH rfl (BX rfl (Aa ?_))
 refine Be h (fun h => ?_) fun h => ?_
 ·refine wq rfl (qa rfl (qe rfl ?_))
  obtain rfl := sj h
  refine Ae (sm [] [(2, pD (.val (.string ((⟨#[]⟩ : ByteArray))))), (3, iD 1)] [] rfl rfl) (Ap ?_)
  exact ⟨⟨[_, _], ⟨.tmp _ _ rfl, tm⟩, rfl⟩, tv⟩
 ·refine Al (wq rfl (qf DW rfl (ql BL rfl ?_)))
  refine BT h fun v3 a3 h => Ar [] (OS N p0.ff v3 a3) Xq rfl ?_
  refine Ex h fun c4 h => Gw (.p rfl) rfl rfl (Ky _ _ _ _ c4) rfl ?_
  refine qf D7 rfl (ql BL rfl ?_)
  refine BT h fun v5 a5 h => Ar [] (Jd N p0.fh v5 a5) Wq rfl ?_
  refine Ex h fun c6 h => Gw (.p rfl) rfl rfl (Ky _ _ _ _ c6) rfl ?_
  refine qa rfl (AI (by kernel_rfl) ?_)
  refine AK h (fun v7 => mk [(4, pD (.val (.string v7)))] []) (fun j7 h => ?_) (fun v7 h => ?_)
  ·refine wq rfl (qf DW rfl (ql BL rfl (Bs rfl (Aa ?_))))
   refine Be h (fun h => ?_) fun h => ?_
   ·refine Ag Ay rfl (qm rfl (qf Fy rfl (ql BL rfl ?_)))
    refine BT h fun v9 a9 h => Ar [] (Jd N p0.fi v9 a9) Wq rfl ?_
    refine Ex h fun c10 h => Gw (.p rfl) rfl rfl (Ky _ _ _ _ c10) rfl ?_
    refine Ex h fun c11 h => Gw (.p rfl) rfl rfl (Ky _ _ _ _ c11) rfl ?_
    refine qa rfl (Aa ?_)
    exact sn [] h
   ·refine Al ?_
    exact sn [] h
  ·refine wq rfl (qm rfl (qa rfl (qe rfl ?_)))
   obtain rfl := sj h
   refine Ae (sm [] [(2, pD (.val (.string v7))), (3, iD 0)] [] rfl rfl) (Ap ?_)
   exact ⟨⟨[_, _], ⟨.tmp _ _ rfl, tm⟩, rfl⟩, tv⟩
theorem Gt (N : Nat) (p0 : List Ad) (p1 : Ad) (r : Int) (h : BM N p0 p1 = some r) : Aq Tryz.prog 82 [pD (.sl (p0.map Ai)), .e (.agg (Cd p1))] [] (iD r) := by
 unfold BM at h
 refine cw (n := 19) (rs := [.tmp 4]) Tryz.func82 fun w0 S0 => ?_
 refine wq rfl (qb rfl (qa rfl (Aa (wp rfl (qm rfl (AB Bo rfl (qm rfl (Aa ?_))))))))
 refine AH (L := AX N p0 p1) h (fun v1 => mk [(0, pD (.sl (p0.map Ai))), (3, oD (.ptr 3 0)), (7, iD ((p0.length : Int))), (8, iD v1)] [(3, .box (Cd p1))]) (fun v2 => mk [] []) (fun _ _ => rfl) (sm [] _ _ rfl rfl) (fun j1 n1 v1 h => ?_) (fun v2 s h hs => ?_)
 ·unfold AX at h
  refine wq rfl (AT rfl (Aa (AN ?_)))
  refine Be h (fun h => ?_) fun h => ?_
  ·refine Al (AN (AM (wq rfl (qm rfl (qa rfl (Aa (wq rfl (qL F7 Ch rfl (qw 2 rfl ?_)))))))))
   refine BS h fun v4 a4 b4 h => qi Bo Ch a4 (Af b4) rfl (qK F7 Ch rfl ?_)
   refine Ur [.int .i64 p1.ff, .int .i64 p1.fh, .int .i64 p1.fi] [.int .i64 v4.ff, .int .i64 v4.fh, .int .i64 v4.fi] (.p rfl) rfl rfl R8 rfl ?_
   refine AI (by kernel_rfl) ?_
   refine Be h (fun h => ?_) fun h => ?_
   ·refine wq rfl (qm rfl (qe rfl ?_))
    obtain rfl := sj h
    refine Ae (sm [] [(4, iD v1)] [] rfl rfl) (Ap ?_)
    exact ⟨⟨[_], tm, rfl⟩, tv⟩
   ·refine Al (Ag Ay rfl (Bd rfl (qm rfl (Aa ?_))))
    exact sn [] h
  ·refine AS ?_
   exact sn [] h
 ·refine Ae hs (wq rfl (qe rfl ?_))
  obtain rfl := sj h
  refine Ae (sm [] [(4, iD ((-1)))] [] rfl rfl) (Ap ?_)
  exact ⟨⟨[_], tm, rfl⟩, tv⟩
theorem FL (N : Nat) (p0 : List Ad) (p1 : Ad) (r : Bool) (h : Bt N p0 p1 = some r) : Aq Tryz.prog 55 [pD (.sl (p0.map Ai)), .e (.agg (Cd p1))] [] (bD r) := by
 unfold Bt at h
 refine cw (n := 9) (rs := [.tmp 4]) Tryz.func55 fun w0 S0 => ?_
 refine wq rfl (qb rfl (qa rfl (Aa (wq rfl (qm rfl (qL F7 Ch rfl ?_))))))
 refine BT h fun v1 a1 h => Ar [] (Gt N p0 p1 v1 a1) XI rfl (El rfl (qe rfl ?_))
 obtain rfl := sj h
 refine Ae (sm [] [(4, bD ((decide (0 ≤ v1))))] [] rfl rfl) (Ap ?_)
 exact ⟨⟨[_], tm, rfl⟩, tv⟩
theorem NW (N : Nat) (p0 : List Ad) (r : Int) (h : FR N p0 = some r) : Aq Tryz.prog 32 [pD (.sl (p0.map Ai))] [] (iD r) := by
 unfold FR at h
 refine cw (n := 42) (rs := [.tmp 2]) Tryz.func32 fun w0 S0 => ?_
 refine wq rfl (qa rfl (Aa (AN ?_)))
 refine AK h (fun v1 => mk [(0, pD (.sl (p0.map Ai))), (14, bD v1)] []) (fun j1 h => ?_) (fun v1 h => ?_)
 ·refine Ag Ay rfl (qm rfl (AB Bo rfl (AT rfl (qm rfl ?_))))
  refine Dr 10 h rfl (fun h => ?_) fun h => ?_
  ·refine qw 3 rfl (qp rfl (Aa ?_))
   exact sn [] h
  ·refine qm rfl (AB Bo rfl (EN rfl (qp rfl (Aa ?_))))
   exact sn [] h
 ·refine Be h (fun h => ?_) fun h => ?_
  ·refine wq rfl (qe rfl ?_)
   obtain rfl := sj h
   refine Ae (sm [] [(2, iD 6)] [] rfl rfl) (Ap ?_)
   exact ⟨⟨[_], tm, rfl⟩, tv⟩
  ·refine Al (wp rfl (qm rfl (AB Bo rfl (qm rfl (Aa ?_)))))
   refine AH (L := DG N p0) h (fun v4 => mk [(0, pD (.sl (p0.map Ai))), (15, pD (.sl (p0.map Ai))), (16, iD ((p0.length : Int))), (17, iD v4)] []) (fun v5 => mk [] []) (fun _ _ => rfl) (sm [] _ _ rfl rfl) (fun j4 n4 v4 h => ?_) (fun v5 s h hs => ?_)
   ·unfold DG at h
    refine wq rfl (AT rfl (Aa (AN ?_)))
    refine Be h (fun h => ?_) fun h => ?_
    ·refine Al (AN (AM (wq rfl (qm rfl ?_))))
     refine BS h fun v7 a7 b7 h => qi Bo Ch a7 (Af b7) rfl (qK F7 Ch rfl (qz IS rfl (qa rfl (qs Ch rfl (Aa (wq rfl (qL F7 Ch rfl ?_)))))))
     refine BT h fun v8 a8 h => Ar [] (MO N v7 v8 a8) Xx rfl (qm rfl (qx rfl (qx rfl (qa rfl (qe rfl ?_)))))
     refine AK h (fun v9 => mk [(0, pD (.sl (p0.map Ai))), (15, pD (.sl (p0.map Ai))), (16, iD ((p0.length : Int))), (17, iD v4), (40, bD v9)] []) (fun j9 h => ?_) (fun v9 h => ?_)
     ·refine Ag Ay rfl (qm rfl (BF rfl (qm rfl ?_)))
      refine Dr 29 h rfl (fun h => ?_) fun h => ?_
      ·refine qw 3 rfl (qp rfl (qw 6 rfl (qp rfl (AI (by kernel_rfl) ?_))))
       exact sn [] h
      ·refine qf DW rfl (ql BL rfl (Bs rfl (qp rfl (qm rfl ?_))))
       refine Dr 34 h rfl (fun h => ?_) fun h => ?_
       ·refine qw 5 rfl (qp rfl (AI (by kernel_rfl) ?_))
        exact sn [] h
       ·refine qw 2 rfl ?_
        refine Ex h fun c12 h => Ic (.g rfl rfl) rfl Bo Ch (FP (f := Ai) (n := 3) (fun _ => rfl) _) (.none _) (.some _ _ _ _ c12.1) tv ⟨rfl, tv⟩ (by have := c12.2.1; (try simp only [List.length_map]); omega) (by have := c12.2.2; (try simp only [List.length_map]); omega) (Hf Ai p0 _ _ ((v4).toNat - 0) rfl) ?_
        refine qL F7 Ch rfl ?_
        refine BT h fun v13 a13 h => Ar [] (FL N (((p0.drop 0).take ((v4).toNat - 0))) v7 v13 a13) Xo rfl (qp rfl (AI (by kernel_rfl) ?_))
        exact sn [] h
     ·refine Be h (fun h => ?_) fun h => ?_
      ·refine wq rfl (qe rfl ?_)
       obtain rfl := sj h
       refine Ae (sm [] [(2, iD 1)] [] rfl rfl) (Ap ?_)
       exact ⟨⟨[_], tm, rfl⟩, tv⟩
      ·refine Al (Ag Ay rfl (Bd rfl (qm rfl (Aa ?_))))
       exact sn [] h
    ·refine AS ?_
     exact sn [] h
   ·refine Ae hs (wq rfl (qe rfl ?_))
    obtain rfl := sj h
    refine Ae (sm [] [(2, iD 0)] [] rfl rfl) (Ap ?_)
    exact ⟨⟨[_], tm, rfl⟩, tv⟩
theorem FY (N : Nat) (p0 : Ab) (p1 : Ac) (p2 : List Ad) (r : Ac × Bool) (h : CF N p0 p1 p2 = some r) : Aq Tryz.prog 33 [.e (.agg (Ah p0)), .e (.agg (Az p1)), pD (.sl (p2.map Ai))] [] (.tup [.agg (Az r.1), .one (.pure (.val (.bool r.2)))]) := by
 unfold CF at h
 refine cw (n := 46) (rs := [.cell 6 38, .tmp 7]) Tryz.func33 fun w0 S0 => ?_
 refine wq rfl (qb rfl (qb rfl (qz Cc rfl (qa rfl (Aa (wp rfl (qm rfl (AB Bo rfl (qm rfl (Aa ?_))))))))))
 refine AH (L := Dn N p0 p2) h (fun v1 => mk [(3, oD (.ptr 3 0)), (4, oD (.ptr 4 0)), (6, oD (.ptr 6 0)), (14, pD (.sl (p2.map Ai))), (15, iD ((p2.length : Int))), (16, iD v1.2.2.2)] [(3, .box (Ah p0)), (4, .box [sC (v1.1.map An), sC (v1.2.1.map An), sC (v1.2.2.1.map B3)]), (6, .box [.pure (.nil0), .pure (.nil0), .pure (.nil0)])]) (fun v2 => mk [(4, oD (.ptr 4 0)), (6, oD (.ptr 6 0))] [(4, .box (Az v2)), (6, .box [.pure (.nil0), .pure (.nil0), .pure (.nil0)])]) (fun _ _ => rfl) (sm [] _ _ rfl rfl) (fun j1 n1 v1 h => ?_) (fun v2 s h hs => ?_)
 ·unfold Dn at h
  refine wq rfl (AT rfl (Aa (AN ?_)))
  refine Be h (fun h => ?_) fun h => ?_
  ·refine Al (AN (AM (wq rfl ?_)))
   refine BS h fun v4 a4 b4 h => qi Bo Ch a4 (Af b4) rfl (qK F7 Ch rfl (qz IS rfl (qs Ch rfl (Aa (wq rfl (qL CT Cy rfl (qL A3 AF rfl (qL F7 Ch rfl ?_))))))))
   refine BT h fun v5 a5 h => Ar [2001, 2002, 2003] (Kn N p0 ((Ac.mk v1.1 v1.2.1 v1.2.2.1)) v4 v5 a5) VJ rfl (qm rfl (qx rfl (qx rfl (qz Cc rfl (qs AF rfl (qa rfl (Aa (wp rfl (qm rfl (BF rfl (Aa ?_)))))))))))
   refine Be h (fun h => ?_) fun h => ?_
   ·refine wq rfl (A8 Cc F3 rfl (qs AF rfl (qe rfl ?_)))
    obtain rfl := sj h
    refine Ae ((E3 6 _ rfl).trans (sm [] [(6, oD (.ptr 6 0)), (7, bD false)] [(6, .box [sC ((([] : List Int)).map An), sC ((([] : List Int)).map An), sC ((([] : List Int)).map B3)])] rfl rfl)) (Ap ?_)
    exact ⟨⟨[_, _], ⟨.cellN _ _ _ _ _ _ _ rfl rfl A3 AF rfl rfl (GS rfl), tm⟩, rfl⟩, tv⟩
   ·refine Al (wp rfl (qL CT Cy rfl (qL A3 AF rfl ?_)))
    refine BT h fun v7 a7 h => G6 [] [2001, 2002, 2003] (IK N p0 v5.1 v7 a7) Vp E4 rfl (qm rfl (qx rfl (qx rfl (qa rfl (qe rfl ?_)))))
    refine AK h (fun v8 => mk [(3, oD (.ptr 3 0)), (4, oD (.ptr 4 0)), (6, oD (.ptr 6 0)), (10, oD (.ptr 10 0)), (14, pD (.sl (p2.map Ai))), (15, iD ((p2.length : Int))), (16, iD v1.2.2.2), (41, bD v8)] [(3, .box (Ah p0)), (4, .box [sC (v1.1.map An), sC (v1.2.1.map An), sC (v1.2.2.1.map B3)]), (6, .box [.pure (.nil0), .pure (.nil0), .pure (.nil0)]), (10, .box [.own 2004, .own 2005, .own 2006]), (2004, .vec 1 (v5.1.fd.map An)), (2005, .vec 1 (v5.1.fa.map An)), (2006, .vec 1 (v5.1.fc.map B3))]) (fun j8 h => ?_) (fun v8 h => ?_)
    ·refine Ag Ay rfl (qm rfl (BF rfl (qm rfl ?_)))
     refine Dr 38 h rfl (fun h => ?_) fun h => ?_
     ·refine qw 2 rfl (qp rfl (Aa ?_))
      exact sn [(2004, 2001), (2005, 2002), (2006, 2003)] h
     ·refine qm rfl (BX rfl (qp rfl (Aa ?_)))
      exact sn [(2004, 2001), (2005, 2002), (2006, 2003)] h
    ·refine Be h (fun h => ?_) fun h => ?_
     ·refine wq rfl (A8 Cc F3 rfl (qs AF rfl (qe rfl ?_)))
      obtain rfl := sj h
      refine Ae ((E3 6 _ rfl).trans (sm [] [(6, oD (.ptr 6 0)), (7, bD false)] [(6, .box [sC ((([] : List Int)).map An), sC ((([] : List Int)).map An), sC ((([] : List Int)).map B3)])] rfl rfl)) (Ap ?_)
      exact ⟨⟨[_, _], ⟨.cellN _ _ _ _ _ _ _ rfl rfl A3 AF rfl rfl (GS rfl), tm⟩, rfl⟩, tv⟩
     ·refine Al (Ag Ay rfl (qL A3 AF rfl (qs AF rfl (Aa (Ag Ay rfl (Bd rfl (qm rfl (Aa ?_))))))))
      exact Th _ h ((AU 2004 _ _ rfl rfl).trans ((AU 2005 _ _ rfl rfl).trans ((AU 2006 _ _ rfl rfl).trans (sm [] _ _ rfl rfl))))
  ·refine AS ?_
   exact sn [] h
 ·refine Ae hs (wq rfl (qL A3 AF rfl (qs AF rfl (qe rfl ?_))))
  obtain rfl := sj h
  refine Ae (sm [] [(6, oD (.ptr 6 0)), (7, bD true)] [(6, .box (Az v2))] rfl rfl) (Ap ?_)
  exact ⟨⟨[_, _], ⟨.cellN _ _ _ _ _ _ _ rfl rfl A3 AF rfl rfl (GS rfl), tm⟩, rfl⟩, tv⟩
theorem Co (N : Nat) (p0 : List Ad) (r : (List Ad)) (h : AV N p0 = some r) : Aq Tryz.prog 34 [pD (.sl (p0.map Ai))] [(3, r.map Ai)] (oD (.own 0)) := by
 unfold AV at h
 refine cw (n := 8) (rs := [.tmp 2]) Tryz.func34 fun w0 S0 => ?_
 refine wq rfl (qa rfl (Aa (wp rfl (qm rfl ?_))))
 refine Oz (.p rfl) rfl Bo ?_
 refine Aa ?_
 refine N5 rfl (fun c2 => ?_) ?_
 ·have c2 := List.map_eq_nil_iff.1 c2
  rw [c2] at h
  have h : (some (([] : List Ad))) = some r := h
  refine wq rfl (qe rfl ?_)
  obtain rfl := sj h
  refine Ae ((B2 2 2001 3 rfl rfl rfl).trans (sm [(1000, 2001)] [(2, oD (.own 1000))] [(1000, .vec 3 ((([] : List Ad)).map Ai))] rfl rfl)) (Ap ?_)
  exact ⟨⟨[_], tm, rfl⟩, ⟨rfl, tv⟩⟩
 ·refine Al (wq rfl (D4 Bo Ch IS rfl (qm rfl ?_)))
  refine Ex h fun c1 h => HJ (f := Ai) Bo Bo Ch QA IS (fun _ => rfl) c1 rfl (qe rfl ?_)
  obtain rfl := sj h
  refine Ae (sm [(1000, 7)] [(2, oD (.own 1000))] [(1000, .vec 3 (((([] : List Ad)) ++ p0).map Ai))] rfl rfl) (Ap ?_)
  exact ⟨⟨[_], tm, rfl⟩, ⟨rfl, tv⟩⟩
theorem IZ (N : Nat) (p0 : Int) (r : Bool) (h : EE N p0 = some r) : Aq Tryz.prog 101 [iD p0] [] (bD r) := by
 unfold EE at h
 refine cw (n := 6) (rs := [.tmp 2]) Tryz.func101 fun w0 S0 => ?_
 refine wq rfl (qa rfl (Aa (wq rfl (qw 2 rfl (BF rfl (qe rfl ?_))))))
 obtain rfl := sj h
 refine Ae (sm [] [(2, bD ((p0 != p0)))] [] rfl rfl) (Ap ?_)
 exact ⟨⟨[_], tm, rfl⟩, tv⟩
theorem KP (N : Nat) (p0 : Int) (p1 : Int) (r : Int) (h : Ea N p0 p1 = some r) : Aq Tryz.prog 84 [iD p0, iD p1] [] (iD r) := by
 unfold Ea at h
 refine cw (n := 20) (rs := [.tmp 4]) Tryz.func84 fun w0 S0 => ?_
 refine wq rfl (qa rfl (Aa (wq rfl (qm rfl ?_))))
 refine BT h fun v1 a1 h => Ar [] (IZ N p0 v1 a1) Uk rfl (qa rfl (Aa (wq rfl (qm rfl ?_))))
 refine BT h fun v2 a2 h => Ar [] (IZ N p1 v2 a2) Uk rfl (qa rfl (Aa (wp rfl (qm rfl (Aa ?_)))))
 refine Be h (fun h => ?_) fun h => ?_
 ·refine wp rfl (qm rfl (Aa ?_))
  refine Be h (fun h => ?_) fun h => ?_
  ·refine wq rfl (qe rfl ?_)
   obtain rfl := sj h
   refine Ae (sm [] [(4, iD 0)] [] rfl rfl) (Ap ?_)
   exact ⟨⟨[_], tm, rfl⟩, tv⟩
  ·refine Al (wq rfl (qe rfl ?_))
   obtain rfl := sj h
   refine Ae (sm [] [(4, iD ((-1)))] [] rfl rfl) (Ap ?_)
   exact ⟨⟨[_], tm, rfl⟩, tv⟩
 ·refine Al (wp rfl (qm rfl (Aa ?_)))
  refine Be h (fun h => ?_) fun h => ?_
  ·refine wq rfl (qe rfl ?_)
   obtain rfl := sj h
   refine Ae (sm [] [(4, iD 1)] [] rfl rfl) (Ap ?_)
   exact ⟨⟨[_], tm, rfl⟩, tv⟩
  ·refine Al (wp rfl (qw 2 rfl (AT rfl (Aa ?_))))
   refine Be h (fun h => ?_) fun h => ?_
   ·refine wq rfl (qe rfl ?_)
    obtain rfl := sj h
    refine Ae (sm [] [(4, iD ((-1)))] [] rfl rfl) (Ap ?_)
    exact ⟨⟨[_], tm, rfl⟩, tv⟩
   ·refine Al (wp rfl (qw 2 rfl (EN rfl (Aa ?_))))
    refine Be h (fun h => ?_) fun h => ?_
    ·refine wq rfl (qe rfl ?_)
     obtain rfl := sj h
     refine Ae (sm [] [(4, iD 1)] [] rfl rfl) (Ap ?_)
     exact ⟨⟨[_], tm, rfl⟩, tv⟩
    ·refine Al (wq rfl (qe rfl ?_))
     obtain rfl := sj h
     refine Ae (sm [] [(4, iD 0)] [] rfl rfl) (Ap ?_)
     exact ⟨⟨[_], tm, rfl⟩, tv⟩
theorem FH (N : Nat) (p0 : List Int) (p1 : List Int) (r : Int) (h : B9 N p0 p1 = some r) : Aq Tryz.prog 59 [pD (.sl (p0.map An)), pD (.sl (p1.map An))] [] (iD r) := by
 unfold B9 at h
 refine cw (n := 36) (rs := [.tmp 4]) Tryz.func59 fun w0 S0 => ?_
 refine wq rfl (qa rfl (Aa (wp rfl (qm rfl (AB Au rfl (qm rfl (Aa ?_)))))))
 refine AH (L := BN N p0 p1) h (fun v1 => mk [(0, pD (.sl (p0.map An))), (1, pD (.sl (p1.map An))), (9, pD (.sl (p0.map An))), (10, iD ((p0.length : Int))), (11, iD v1)] []) (fun v2 => mk [(0, pD (.sl (p0.map An))), (1, pD (.sl (p1.map An)))] []) (fun _ _ => rfl) (sm [] _ _ rfl rfl) (fun j1 n1 v1 h => ?_) (fun v2 s h hs => ?_)
 ·unfold BN at h
  refine wq rfl (AT rfl (Aa (AN ?_)))
  refine Be h (fun h => ?_) fun h => ?_
  ·refine Al (AN (AM (wq rfl (qm rfl ?_))))
   refine BS h fun v4 a4 b4 h => qi Au Cz a4 (Af b4) rfl (qk BL rfl (qa rfl (qa rfl (Aa (wp rfl (qw 2 rfl (AB Au rfl (El rfl (Aa ?_)))))))))
   refine Be h (fun h => ?_) fun h => ?_
   ·refine wq rfl (qe rfl ?_)
    obtain rfl := sj h
    refine Ae (sm [] [(4, iD 1)] [] rfl rfl) (Ap ?_)
    exact ⟨⟨[_], tm, rfl⟩, tv⟩
   ·refine Al (wq rfl (qw 2 rfl ?_))
    refine BS h fun v6 a6 b6 h => qi Au Cz a6 (Af b6) rfl (qk BL rfl (qa rfl (Aa (wq rfl (qw 2 rfl ?_)))))
    refine BT h fun v7 a7 h => Ar [] (KP N v4 v6 v7 a7) WP rfl (qa rfl (Aa (wq rfl (qm rfl (BF rfl (Aa ?_))))))
    refine Be h (fun h => ?_) fun h => ?_
    ·refine wq rfl (qm rfl (qe rfl ?_))
     obtain rfl := sj h
     refine Ae (sm [] [(4, iD v7)] [] rfl rfl) (Ap ?_)
     exact ⟨⟨[_], tm, rfl⟩, tv⟩
    ·refine Al (Ag Ay rfl (Bd rfl (qm rfl (Aa ?_))))
     exact sn [] h
  ·refine AS ?_
   exact sn [] h
 ·refine Ae hs (wp rfl (qm rfl (AB Au rfl (qm rfl (AB Au rfl (AT rfl (Aa ?_)))))))
  refine Be h (fun h => ?_) fun h => ?_
  ·refine wq rfl (qe rfl ?_)
   obtain rfl := sj h
   refine Ae (sm [] [(4, iD ((-1)))] [] rfl rfl) (Ap ?_)
   exact ⟨⟨[_], tm, rfl⟩, tv⟩
  ·refine Al (wq rfl (qe rfl ?_))
   obtain rfl := sj h
   refine Ae (sm [] [(4, iD 0)] [] rfl rfl) (Ap ?_)
   exact ⟨⟨[_], tm, rfl⟩, tv⟩
theorem Hu (N : Nat) (p0 : Int) (r : Bool) (h : DN N p0 = some r) : Aq Tryz.prog 102 [pD (.val (.int .u8 p0))] [] (bD r) := by
 unfold DN at h
 refine cw (n := 6) (rs := [.tmp 2]) Tryz.func102 fun w0 S0 => ?_
 refine wq rfl (qa rfl (Aa (wq rfl (qw 2 rfl (BF rfl (qe rfl ?_))))))
 obtain rfl := sj h
 refine Ae (sm [] [(2, bD ((p0 != p0)))] [] rfl rfl) (Ap ?_)
 exact ⟨⟨[_], tm, rfl⟩, tv⟩
theorem I5 (N : Nat) (p0 : Int) (p1 : Int) (r : Int) (h : Df N p0 p1 = some r) : Aq Tryz.prog 85 [pD (.val (.int .u8 p0)), pD (.val (.int .u8 p1))] [] (iD r) := by
 unfold Df at h
 refine cw (n := 20) (rs := [.tmp 4]) Tryz.func85 fun w0 S0 => ?_
 refine wq rfl (qa rfl (Aa (wq rfl (qm rfl ?_))))
 refine BT h fun v1 a1 h => Ar [] (Hu N p0 v1 a1) Uc rfl (qa rfl (Aa (wq rfl (qm rfl ?_))))
 refine BT h fun v2 a2 h => Ar [] (Hu N p1 v2 a2) Uc rfl (qa rfl (Aa (wp rfl (qm rfl (Aa ?_)))))
 refine Be h (fun h => ?_) fun h => ?_
 ·refine wp rfl (qm rfl (Aa ?_))
  refine Be h (fun h => ?_) fun h => ?_
  ·refine wq rfl (qe rfl ?_)
   obtain rfl := sj h
   refine Ae (sm [] [(4, iD 0)] [] rfl rfl) (Ap ?_)
   exact ⟨⟨[_], tm, rfl⟩, tv⟩
  ·refine Al (wq rfl (qe rfl ?_))
   obtain rfl := sj h
   refine Ae (sm [] [(4, iD ((-1)))] [] rfl rfl) (Ap ?_)
   exact ⟨⟨[_], tm, rfl⟩, tv⟩
 ·refine Al (wp rfl (qm rfl (Aa ?_)))
  refine Be h (fun h => ?_) fun h => ?_
  ·refine wq rfl (qe rfl ?_)
   obtain rfl := sj h
   refine Ae (sm [] [(4, iD 1)] [] rfl rfl) (Ap ?_)
   exact ⟨⟨[_], tm, rfl⟩, tv⟩
  ·refine Al (wp rfl (qw 2 rfl (AT rfl (Aa ?_))))
   refine Be h (fun h => ?_) fun h => ?_
   ·refine wq rfl (qe rfl ?_)
    obtain rfl := sj h
    refine Ae (sm [] [(4, iD ((-1)))] [] rfl rfl) (Ap ?_)
    exact ⟨⟨[_], tm, rfl⟩, tv⟩
   ·refine Al (wp rfl (qw 2 rfl (EN rfl (Aa ?_))))
    refine Be h (fun h => ?_) fun h => ?_
    ·refine wq rfl (qe rfl ?_)
     obtain rfl := sj h
     refine Ae (sm [] [(4, iD 1)] [] rfl rfl) (Ap ?_)
     exact ⟨⟨[_], tm, rfl⟩, tv⟩
    ·refine Al (wq rfl (qe rfl ?_))
     obtain rfl := sj h
     refine Ae (sm [] [(4, iD 0)] [] rfl rfl) (Ap ?_)
     exact ⟨⟨[_], tm, rfl⟩, tv⟩
theorem GA (N : Nat) (p0 : List Int) (p1 : List Int) (r : Int) (h : BK N p0 p1 = some r) : Aq Tryz.prog 60 [pD (.sl (p0.map B3)), pD (.sl (p1.map B3))] [] (iD r) := by
 unfold BK at h
 refine cw (n := 36) (rs := [.tmp 4]) Tryz.func60 fun w0 S0 => ?_
 refine wq rfl (qa rfl (Aa (wp rfl (qm rfl (AB Cv rfl (qm rfl (Aa ?_)))))))
 refine AH (L := Bc N p0 p1) h (fun v1 => mk [(0, pD (.sl (p0.map B3))), (1, pD (.sl (p1.map B3))), (9, pD (.sl (p0.map B3))), (10, iD ((p0.length : Int))), (11, iD v1)] []) (fun v2 => mk [(0, pD (.sl (p0.map B3))), (1, pD (.sl (p1.map B3)))] []) (fun _ _ => rfl) (sm [] _ _ rfl rfl) (fun j1 n1 v1 h => ?_) (fun v2 s h hs => ?_)
 ·unfold Bc at h
  refine wq rfl (AT rfl (Aa (AN ?_)))
  refine Be h (fun h => ?_) fun h => ?_
  ·refine Al (AN (AM (wq rfl (qm rfl ?_))))
   refine BS h fun v4 a4 b4 h => qi Cv EP a4 (Af b4) rfl (qk I6 rfl (qa rfl (qa rfl (Aa (wp rfl (qw 2 rfl (AB Cv rfl (El rfl (Aa ?_)))))))))
   refine Be h (fun h => ?_) fun h => ?_
   ·refine wq rfl (qe rfl ?_)
    obtain rfl := sj h
    refine Ae (sm [] [(4, iD 1)] [] rfl rfl) (Ap ?_)
    exact ⟨⟨[_], tm, rfl⟩, tv⟩
   ·refine Al (wq rfl (qw 2 rfl ?_))
    refine BS h fun v6 a6 b6 h => qi Cv EP a6 (Af b6) rfl (qk I6 rfl (qa rfl (Aa (wq rfl (qw 2 rfl ?_)))))
    refine BT h fun v7 a7 h => Ar [] (I5 N v4 v6 v7 a7) Xb rfl (qa rfl (Aa (wq rfl (qm rfl (BF rfl (Aa ?_))))))
    refine Be h (fun h => ?_) fun h => ?_
    ·refine wq rfl (qm rfl (qe rfl ?_))
     obtain rfl := sj h
     refine Ae (sm [] [(4, iD v7)] [] rfl rfl) (Ap ?_)
     exact ⟨⟨[_], tm, rfl⟩, tv⟩
    ·refine Al (Ag Ay rfl (Bd rfl (qm rfl (Aa ?_))))
     exact sn [] h
  ·refine AS ?_
   exact sn [] h
 ·refine Ae hs (wp rfl (qm rfl (AB Cv rfl (qm rfl (AB Cv rfl (AT rfl (Aa ?_)))))))
  refine Be h (fun h => ?_) fun h => ?_
  ·refine wq rfl (qe rfl ?_)
   obtain rfl := sj h
   refine Ae (sm [] [(4, iD ((-1)))] [] rfl rfl) (Ap ?_)
   exact ⟨⟨[_], tm, rfl⟩, tv⟩
  ·refine Al (wq rfl (qe rfl ?_))
   obtain rfl := sj h
   refine Ae (sm [] [(4, iD 0)] [] rfl rfl) (Ap ?_)
   exact ⟨⟨[_], tm, rfl⟩, tv⟩
theorem Or (N : Nat) (p0 : List Int) (r : Int) (h : FU N p0 = some r) : Aq Tryz.prog 58 [pD (.sl (p0.map An))] [] (iD r) := by
 unfold FU at h
 refine cw (n := 18) (rs := [.tmp 2]) Tryz.func58 fun w0 S0 => ?_
 refine wq rfl (qa rfl (Aa (wq rfl (qa rfl (Aa (wp rfl (qm rfl (AB Au rfl (qm rfl (Aa ?_))))))))))
 refine AH (L := D9 N p0) h (fun v1 => mk [(3, iD 0), (6, pD (.sl (p0.map An))), (7, iD ((p0.length : Int))), (8, iD v1)] []) (fun v2 => mk [(3, iD 0)] []) (fun _ _ => rfl) (sm [] _ _ rfl rfl) (fun j1 n1 v1 h => ?_) (fun v2 s h hs => ?_)
 ·unfold D9 at h
  refine wq rfl (AT rfl (Aa (AN ?_)))
  refine Be h (fun h => ?_) fun h => ?_
  ·refine Al (AN (AM (wq rfl ?_)))
   refine BS h fun v4 a4 b4 h => qi Au Cz a4 (Af b4) rfl (qk BL rfl (qa rfl (Aa (wq rfl (qw 2 rfl (BF rfl (Aa ?_)))))))
   refine Be h (fun h => ?_) fun h => ?_
   ·refine wq rfl (qm rfl (qe rfl ?_))
    obtain rfl := sj h
    refine Ae (sm [] [(2, iD v4)] [] rfl rfl) (Ap ?_)
    exact ⟨⟨[_], tm, rfl⟩, tv⟩
   ·refine Al (Ag Ay rfl (Bd rfl (qm rfl (Aa ?_))))
    exact sn [] h
  ·refine AS ?_
   exact sn [] h
 ·refine Ae hs (wq rfl (qm rfl (qe rfl ?_)))
  obtain rfl := sj h
  refine Ae (sm [] [(2, iD 0)] [] rfl rfl) (Ap ?_)
  exact ⟨⟨[_], tm, rfl⟩, tv⟩
theorem MQ (N : Nat) (p0 : Ac) (p1 : Ac) (r : Int) (h : EB N p0 p1 = some r) : Aq Tryz.prog 37 [.e (.agg (Az p0)), .e (.agg (Az p1))] [] (iD r) := by
 unfold EB at h
 refine cw (n := 22) (rs := [.tmp 4]) Tryz.func37 fun w0 S0 => ?_
 refine wq rfl (qb rfl (qb rfl (qa rfl (Aa (wq rfl (qf Cf rfl (ql AW rfl (qf Cf rfl (ql AW rfl ?_)))))))))
 refine BT h fun v1 a1 h => Ar [] (FH N p0.fd p1.fd v1 a1) WE rfl (qf Bf rfl (ql AW rfl (qf Bf rfl (ql AW rfl ?_))))
 refine BT h fun v2 a2 h => Ar [] (FH N p0.fa p1.fa v2 a2) WE rfl (qf BZ rfl (ql F5 rfl (qf BZ rfl (ql F5 rfl ?_))))
 refine BT h fun v3 a3 h => Ar [] (GA N p0.fc p1.fc v3 a3) W5 rfl (D4 Au Cz I0 rfl ?_)
 refine BT h fun v4 a4 h => G6 [] [20] (Or N (([v1, v2, v3] : List Int)) v4 a4) XB E4 rfl (qa rfl (AI (by kernel_rfl) ?_))
 obtain rfl := sj h
 refine Ae (sm [] [(4, iD v4)] [] rfl rfl) (Ap ?_)
 exact ⟨⟨[_], tm, rfl⟩, tv⟩
theorem M9 (N : Nat) (p0 : List Ad) (p1 : List Int) (p2 : List Int) (p3 : List Int) (p4 : List Av) (p5 : List Int) (p6 : List Int) (p7 : List Int) (p8 : List Int) (p9 : List Int) (p10 : List Int) (p11 : Option (List Ad)) (r : Bool × (Option (List Ad))) (h : Fi N p0 p1 p2 p3 p4 p5 p6 p7 p8 p9 p10 p11 = some r) : Dk Tryz.prog 36 [pD (.sl (p0.map Ai)), oD (.rop [.sl (p1.map An), .sl (p2.map An), .sl (p3.map An), .sl (p4.map AQ)]), oD (.rop [.sl (p5.map An), .sl (p6.map An), .sl (p7.map B3)]), oD (.rop [.sl (p8.map An), .sl (p9.map An), .sl (p10.map B3)]), oD (.ptr 90000 0)] [(.box [.pure (Le Ai p11)], .box [.pure (Le Ai r.2)])] [] (bD r.1) := by
 unfold Fi at h
 refine Fr (n := 25) (rs := [.tmp 6]) Tryz.func36 rfl rfl rfl (IE rfl) (IE rfl) rfl rfl (IE rfl) rfl (IE rfl) fun w0 S0 GL => ?_
 refine Ae (sm [] [(0, pD (.sl (p0.map Ai))), (1, oD (.rop [.sl (p1.map An), .sl (p2.map An), .sl (p3.map An), .sl (p4.map AQ)])), (2, oD (.rop [.sl (p5.map An), .sl (p6.map An), .sl (p7.map B3)])), (3, oD (.rop [.sl (p8.map An), .sl (p9.map An), .sl (p10.map B3)])), (4, oD (.ptr 90000 0))] [(90000, .box [.pure (Le Ai p11)])] rfl rfl) (wq rfl (qa rfl (Aa (wp rfl (qK CT Cy rfl (qK A3 AF rfl (qm rfl ?_)))))))
 refine BT h fun v1 a1 h => Ar [] (FY N ((Ab.mk p1 p2 p3 p4)) ((Ac.mk p5 p6 p7)) p0 v1 a1) Ts rfl (qm rfl (qx rfl (qx rfl (qz Cc rfl (qs AF rfl (qe rfl ?_))))))
 refine AK h (fun v2 => mk [(0, pD (.sl (p0.map Ai))), (4, oD (.ptr 90000 0)), (23, bD v2)] [(90000, .box [.pure (Le Ai p11)])]) (fun j2 h => ?_) (fun v2 h => ?_)
 ·refine Ag Ay rfl (qm rfl (BX rfl (qm rfl ?_)))
  refine Dr 18 h rfl (fun h => ?_) fun h => ?_
  ·refine qw 4 rfl (qp rfl (Aa ?_))
   exact sn [] h
  ·refine qL A3 AF rfl (qK A3 AF rfl ?_)
   refine BT h fun v4 a4 h => Ar [] (MQ N v1.1 ((Ac.mk p8 p9 p10)) v4 a4) WR rfl (BF rfl (qp rfl (Aa ?_)))
   exact sn [] h
 ·refine Be h (fun h => ?_) fun h => ?_
  ·refine wq rfl (qm rfl (qs OQ rfl (Aa (wq rfl (qe rfl ?_)))))
   obtain rfl := sj h
   refine Ae (sm [] [(6, bD false)] [(90000, .box [.pure (Le Ai ((some p0)))])] rfl rfl) (Ap ?_)
   exact ⟨⟨[_], tm, rfl⟩, ⟨rfl, tv⟩, tv⟩
  ·refine Al (wq rfl (qe rfl ?_))
   obtain rfl := sj h
   refine Ae (sm [] [(6, bD true)] [(90000, .box [.pure (Le Ai p11)])] rfl rfl) (Ap ?_)
   exact ⟨⟨[_], tm, rfl⟩, ⟨rfl, tv⟩, tv⟩
theorem Gk (N : Nat) (p0 : List Ad) (p1 : Int) (p2 : Int) (r : Nat × (List Ad)) (h : BH N p0 p1 p2 = some r) : Dk Tryz.prog 57 [oD (.own 90000), iD p1, iD p2] [(.vec 3 (p0.map Ai), .vec 3 (r.2.map Ai))] [] (oD (.view 90000 3 0 r.1)) := by
 unfold BH at h
 refine Fr (n := 33) (rs := [.tmp 6]) Tryz.func57 rfl rfl rfl (IE rfl) (IE rfl) rfl rfl (IE rfl) rfl (IE rfl) fun w0 S0 GL => ?_
 refine Ae (sm [] [(0, oD (.own 90000)), (1, iD p1), (2, iD p2)] [(90000, .vec 3 (p0.map Ai))] rfl rfl) (wq rfl (qa rfl (Aa (wq rfl (qw 4 rfl (FF Bo rfl ?_))))))
 refine Ex h fun c1 h => R4 (.p rfl) rfl rfl Bo Ch rfl rfl rfl c1.1 c1.2.1 c1.2.2.1 c1.2.2.2.1 c1.2.2.2.2.1 (by rw [List.length_map]; exact c1.2.2.2.2.2) ?_
 refine Aa (wp rfl (qw 2 rfl (Bs rfl (Aa ?_))))
 refine Be h (fun h => ?_) fun h => ?_
 ·refine wq rfl (qm rfl (qe rfl ?_))
  obtain rfl := sj h
  refine Ae ((Ty Ai p0 6 90000 3 rfl rfl).trans (sm [] [(6, oD (.view 90000 3 0 p0.length))] [(90000, .vec 3 (p0.map Ai))] rfl rfl)) (Ap ?_)
  exact ⟨⟨[_], tm, rfl⟩, ⟨rfl, tv⟩, tv⟩
 ·refine Al (wq rfl (qm rfl (FF Bo rfl (qa rfl (Aa (wq rfl (qw 2 rfl ?_)))))))
  obtain ⟨c3, h⟩ := Gx h
  have w4 : 0 + ((p1).toNat) ≤ p0.length := by have := c3.2.1; have := c3.2.2; omega
  refine Jv Ai p0 (.p rfl) rfl (Je Ai _ _ p0) rfl Bo Ch (.none _) (.some _ _ _ _ c3.1) tv ⟨rfl, tv⟩ c3.2.1 (by rw [Nat.zero_add]; exact c3.2.2) (Nat.zero_add _) rfl ?_
  refine qw 2 rfl ?_
  obtain ⟨c5, h⟩ := Gx h
  have w6 : ((p2).toNat) + ((p0.length - (p2).toNat)) ≤ p0.length := by have := c5.2.1; have := c5.2.2; omega
  refine Jv Ai p0 (.p rfl) rfl (Je Ai _ _ p0) rfl Bo Ch (.some _ _ _ _ c5.1) (.none _) ⟨rfl, tv⟩ tv c5.2.1 (by rw [Nat.zero_add]; exact c5.2.2) (Nat.zero_add _) rfl ?_
  obtain ⟨c7, h⟩ := Gx h
  have w9f : 0 + ((p1).toNat) + (((p0.drop ((p2).toNat)).take ((p0.length - (p2).toNat)))).length ≤ p0.length := by have := c7; omega
  have w8 : (Hi p0 (0 + ((p1).toNat)) (((p0.drop ((p2).toNat)).take ((p0.length - (p2).toNat))))).length = p0.length := GU w9f
  have w9 : 0 + ((p1).toNat + (((p0.drop ((p2).toNat)).take ((p0.length - (p2).toNat)))).length) ≤ (Hi p0 (0 + ((p1).toNat)) (((p0.drop ((p2).toNat)).take ((p0.length - (p2).toNat))))).length := by rw [w8]; have := c7; omega
  refine Qh Ai p0 (((p0.drop ((p2).toNat)).take ((p0.length - (p2).toNat)))) (.p rfl) rfl (JC Ai _ _ 0 ((p1).toNat) p0 w4) rfl rfl (NO Ai _ _ ((p2).toNat) ((p0.length - (p2).toNat)) p0 w6) ⟨rfl, tv⟩ Bo Bo Ch w9f rfl ?_
  refine qa rfl (AI (by kernel_rfl) (wq rfl (qw 2 rfl ?_)))
  refine TK (.p rfl) rfl Bo ?_
  refine qm rfl ?_
  obtain ⟨c10, h⟩ := Gx h
  have w11 : (((((((p1).toNat + (((p0.drop ((p2).toNat)).take ((p0.length - (p2).toNat)))).length)) : Nat) : Int)).toNat) + ((((p0.length : Int)).toNat - ((((((p1).toNat + (((p0.drop ((p2).toNat)).take ((p0.length - (p2).toNat)))).length)) : Nat) : Int)).toNat)) ≤ (Hi p0 (0 + ((p1).toNat)) (((p0.drop ((p2).toNat)).take ((p0.length - (p2).toNat))))).length := by have := c10.2.2.1; have := c10.2.2.2; omega
  refine Jv Ai (Hi p0 (0 + ((p1).toNat)) (((p0.drop ((p2).toNat)).take ((p0.length - (p2).toNat))))) (.p rfl) rfl (JC Ai _ _ 0 (((p1).toNat + (((p0.drop ((p2).toNat)).take ((p0.length - (p2).toNat)))).length)) (Hi p0 (0 + ((p1).toNat)) (((p0.drop ((p2).toNat)).take ((p0.length - (p2).toNat))))) w9) rfl Bo Ch (.some _ _ _ _ c10.1) (.some _ _ _ _ c10.2.1) ⟨rfl, tv⟩ ⟨rfl, tv⟩ c10.2.2.1 (by rw [Nat.zero_add]; exact c10.2.2.2) (Nat.zero_add _) rfl ?_
  have w12 : (Hi (Hi p0 (0 + ((p1).toNat)) (((p0.drop ((p2).toNat)).take ((p0.length - (p2).toNat))))) (((((((p1).toNat + (((p0.drop ((p2).toNat)).take ((p0.length - (p2).toNat)))).length)) : Nat) : Int)).toNat) (List.replicate ((((p0.length : Int)).toNat - ((((((p1).toNat + (((p0.drop ((p2).toNat)).take ((p0.length - (p2).toNat)))).length)) : Nat) : Int)).toNat)) ((Ad.mk 0 0 0)))).length = (Hi p0 (0 + ((p1).toNat)) (((p0.drop ((p2).toNat)).take ((p0.length - (p2).toNat))))).length := GU (by rw [List.length_replicate]; exact w11)
  refine Sr Ai (Hi p0 (0 + ((p1).toNat)) (((p0.drop ((p2).toNat)).take ((p0.length - (p2).toNat))))) ((Ad.mk 0 0 0)) rfl rfl (JC Ai _ _ (((((((p1).toNat + (((p0.drop ((p2).toNat)).take ((p0.length - (p2).toNat)))).length)) : Nat) : Int)).toNat) ((((p0.length : Int)).toNat - ((((((p1).toNat + (((p0.drop ((p2).toNat)).take ((p0.length - (p2).toNat)))).length)) : Nat) : Int)).toNat)) (Hi p0 (0 + ((p1).toNat)) (((p0.drop ((p2).toNat)).take ((p0.length - (p2).toNat))))) w11) rfl Bo IS rfl rfl rfl rfl ?_
  refine Aa (wq rfl (qm rfl (qe rfl ?_)))
  obtain rfl := sj h
  refine Ae (sm [] [(6, oD (.view 90000 3 0 (((p1).toNat + (((p0.drop ((p2).toNat)).take ((p0.length - (p2).toNat)))).length))))] [(90000, .vec 3 ((Hi (Hi p0 (0 + ((p1).toNat)) (((p0.drop ((p2).toNat)).take ((p0.length - (p2).toNat))))) (((((((p1).toNat + (((p0.drop ((p2).toNat)).take ((p0.length - (p2).toNat)))).length)) : Nat) : Int)).toNat) (List.replicate ((((p0.length : Int)).toNat - ((((((p1).toNat + (((p0.drop ((p2).toNat)).take ((p0.length - (p2).toNat)))).length)) : Nat) : Int)).toNat)) ((Ad.mk 0 0 0)))).map Ai))] rfl rfl) (Ap ?_)
  exact ⟨⟨[_], tm, rfl⟩, ⟨rfl, tv⟩, tv⟩
theorem J5 (N : Nat) (rc : (List Ad) → (List Ad) → (List Int) → (List Int) → (List Int) → (List Av) → (List Int) → (List Int) → (List Int) → (List Int) → (List Int) → (List Int) → (Option (List Ad)) → Option (Bool × (Option (List Ad)))) (hrc : ∀ (p0 : List Ad) (p1 : List Ad) (p2 : List Int) (p3 : List Int) (p4 : List Int) (p5 : List Av) (p6 : List Int) (p7 : List Int) (p8 : List Int) (p9 : List Int) (p10 : List Int) (p11 : List Int) (p12 : Option (List Ad)) (r : Bool × (Option (List Ad))), rc p0 p1 p2 p3 p4 p5 p6 p7 p8 p9 p10 p11 p12 = some r → Dk Tryz.prog 35 [pD (.sl (p0.map Ai)), pD (.sl (p1.map Ai)), oD (.cls 36 [.rop [.sl (p2.map An), .sl (p3.map An), .sl (p4.map An), .sl (p5.map AQ)], .rop [.sl (p6.map An), .sl (p7.map An), .sl (p8.map B3)], .rop [.sl (p9.map An), .sl (p10.map An), .sl (p11.map B3)], .ptr 90000 0])] [(.box [.pure (Le Ai p12)], .box [.pure (Le Ai r.2)])] [] (bD r.1)) (p0 : List Ad) (p1 : List Ad) (p2 : List Int) (p3 : List Int) (p4 : List Int) (p5 : List Av) (p6 : List Int) (p7 : List Int) (p8 : List Int) (p9 : List Int) (p10 : List Int) (p11 : List Int) (p12 : Option (List Ad)) (r : Bool × (Option (List Ad))) (h : Ew N rc p0 p1 p2 p3 p4 p5 p6 p7 p8 p9 p10 p11 p12 = some r) : Dk Tryz.prog 35 [pD (.sl (p0.map Ai)), pD (.sl (p1.map Ai)), oD (.cls 36 [.rop [.sl (p2.map An), .sl (p3.map An), .sl (p4.map An), .sl (p5.map AQ)], .rop [.sl (p6.map An), .sl (p7.map An), .sl (p8.map B3)], .rop [.sl (p9.map An), .sl (p10.map An), .sl (p11.map B3)], .ptr 90000 0])] [(.box [.pure (Le Ai p12)], .box [.pure (Le Ai r.2)])] [] (bD r.1) := by
 unfold Ew at h
 refine Fr (n := 37) (rs := [.tmp 6]) Tryz.func35 rfl rfl rfl (IE rfl) (IE rfl) rfl rfl (IE rfl) rfl (IE rfl) fun w0 S0 GL => ?_
 refine Ae (sm [] [(0, pD (.sl (p0.map Ai))), (1, pD (.sl (p1.map Ai))), (2, oD (.cls 36 [.rop [.sl (p2.map An), .sl (p3.map An), .sl (p4.map An), .sl (p5.map AQ)], .rop [.sl (p6.map An), .sl (p7.map An), .sl (p8.map B3)], .rop [.sl (p9.map An), .sl (p10.map An), .sl (p11.map B3)], .ptr 90000 0]))] [(90000, .box [.pure (Le Ai p12)])] rfl rfl) (wq rfl (qa rfl (Aa (wp rfl (qm rfl (AB Bo rfl (Bs rfl (Aa ?_))))))))
 refine Be h (fun h => ?_) fun h => ?_
 ·refine wq rfl (qw 2 rfl ?_)
  refine BT h fun v2 a2 h => T0 (ds0 := [_]) [90000] [] [true] (M9 N p0 p2 p3 p4 p5 p6 p7 p8 p9 p10 p11 p12 v2 a2) (.p rfl) rfl WN rfl ⟨rfl, tv⟩ rfl rfl (by decide) ⟨rfl, tv⟩ rfl (Ha rfl) tv ⟨(fun h => by cases h), tv⟩ rfl rfl rfl ?_
  refine qa rfl (Aa ?_)
  obtain rfl := sj h
  refine Ae (sm [] [(6, bD v2.1)] [(90000, .box [.pure (Le Ai v2.2)])] rfl rfl) (Ap ?_)
  exact ⟨⟨[_], tm, rfl⟩, ⟨rfl, tv⟩, tv⟩
 ·refine Al (wp rfl (qm rfl (AB Bo rfl (qm rfl (Aa ?_)))))
  refine AH (L := CY N p0 p1 p2 p3 p4 p5 p6 p7 p8 p9 p10 p11 rc) h (fun v3 => mk [(0, pD (.sl (p0.map Ai))), (1, pD (.sl (p1.map Ai))), (2, oD (.cls 36 [.rop [.sl (p2.map An), .sl (p3.map An), .sl (p4.map An), .sl (p5.map AQ)], .rop [.sl (p6.map An), .sl (p7.map An), .sl (p8.map B3)], .rop [.sl (p9.map An), .sl (p10.map An), .sl (p11.map B3)], .ptr 90000 0])), (15, pD (.sl (p1.map Ai))), (16, iD ((p1.length : Int))), (17, iD v3.2)] [(90000, .box [.pure (Le Ai v3.1)])]) (fun v4 => mk [] [(90000, .box [.pure (Le Ai v4)])]) (fun _ _ => rfl) (sm [] _ _ rfl rfl) (fun j3 n3 v3 h => ?_) (fun v4 s h hs => ?_)
  ·unfold CY at h
   refine wq rfl (AT rfl (Aa (AN ?_)))
   refine Be h (fun h => ?_) fun h => ?_
   ·refine Al (AN (AM (wq rfl (qm rfl ?_))))
    refine BS h fun v6 a6 b6 h => qi Bo Ch a6 (Af b6) rfl (qK F7 Ch rfl (qz IS rfl (qa rfl (qs Ch rfl (Aa (wq rfl (qm rfl ?_)))))))
    refine BT h fun v7 a7 h => Ar [2001] (Co N p0 v7 a7) SS rfl (qL F7 Ch rfl (D4 Bo Ch IS rfl ?_))
    refine Ex h fun c8 h => Ri (.p rfl) rfl (.own _ _ _) ⟨rfl, tv⟩ rfl (.own _ _ _) ⟨rfl, tv⟩ rfl Bo Bo Ch QA (IE rfl) IS rfl (Tz (f := Ai) (g := Ai) (xs := v7) (ys := (([v6] : List Ad))) c8) (Tg Ai v7 (([v6] : List Ad))) rfl ?_
    refine qm rfl ?_
    refine BT h fun v9 a9 h => Ar [2002] (Co N p1 v9 a9) SS rfl (qw 2 rfl (Bd rfl ?_))
    obtain ⟨v10, a10, h⟩ := bind_some h
    obtain ⟨c11, h⟩ := Gx h
    have w12 : 0 + v10.1 ≤ v10.2.length := by rw [Nat.zero_add]; exact c11
    refine RT (ds0 := [_, _, _]) (b := 2002) (Gk N v9 v3.2 ((wI .i64 (v3.2 + 1))) v10 a10) (.p rfl) Xk rfl ⟨rfl, rfl, rfl, tv⟩ rfl ⟨rfl, tv⟩ rfl rfl (by rw [List.length_map]; exact c11) (List.map_take).symm ?_
    refine qm rfl ?_
    refine BT h fun v13 a13 h => LV (ds0 := [_, _, _]) [90000] [] [true] (hrc ((v7 ++ (([v6] : List Ad)))) ((v10.2.take v10.1)) p2 p3 p4 p5 p6 p7 p8 p9 p10 p11 v3.1 v13 a13) (.p rfl) Wg rfl ⟨rfl, rfl, rfl, tv⟩ rfl rfl (by decide) ⟨rfl, tv⟩ rfl (Ha rfl) tv ⟨(fun h => by cases h), tv⟩ rfl rfl rfl ?_
    refine BX rfl (AI (by kernel_rfl) ?_)
    refine Be h (fun h => ?_) fun h => ?_
    ·refine wq rfl (qe rfl ?_)
     obtain rfl := sj h
     refine Ae (sm [] [(6, bD false)] [(90000, .box [.pure (Le Ai v13.2)])] rfl rfl) (Ap ?_)
     exact ⟨⟨[_], tm, rfl⟩, ⟨rfl, tv⟩, tv⟩
    ·refine Al (Ag Ay rfl (Bd rfl (qm rfl (Aa ?_))))
     exact sn [] h
   ·refine AS ?_
    exact sn [] h
  ·refine Ae hs (wq rfl (qe rfl ?_))
   obtain rfl := sj h
   refine Ae (sm [] [(6, bD true)] [(90000, .box [.pure (Le Ai v4)])] rfl rfl) (Ap ?_)
   exact ⟨⟨[_], tm, rfl⟩, ⟨rfl, tv⟩, tv⟩
theorem HO (N : Nat) : ∀ (k : Nat) (p0 : List Ad) (p1 : List Ad) (p2 : List Int) (p3 : List Int) (p4 : List Int) (p5 : List Av) (p6 : List Int) (p7 : List Int) (p8 : List Int) (p9 : List Int) (p10 : List Int) (p11 : List Int) (p12 : Option (List Ad)) (r : Bool × (Option (List Ad))), CJ N k p0 p1 p2 p3 p4 p5 p6 p7 p8 p9 p10 p11 p12 = some r → Dk Tryz.prog 35 [pD (.sl (p0.map Ai)), pD (.sl (p1.map Ai)), oD (.cls 36 [.rop [.sl (p2.map An), .sl (p3.map An), .sl (p4.map An), .sl (p5.map AQ)], .rop [.sl (p6.map An), .sl (p7.map An), .sl (p8.map B3)], .rop [.sl (p9.map An), .sl (p10.map An), .sl (p11.map B3)], .ptr 90000 0])] [(.box [.pure (Le Ai p12)], .box [.pure (Le Ai r.2)])] [] (bD r.1)
 | 0, _, _, _, _, _, _, _, _, _, _, _, _, _, _, h => by cases h
 | k + 1, p0, p1, p2, p3, p4, p5, p6, p7, p8, p9, p10, p11, p12, r, h => J5 N (CJ N k) (HO N k) p0 p1 p2 p3 p4 p5 p6 p7 p8 p9 p10 p11 p12 r h
theorem Li (N : Nat) (p0 : List Ad) (p1 : List Ad) (p2 : List Int) (p3 : List Int) (p4 : List Int) (p5 : List Av) (p6 : List Int) (p7 : List Int) (p8 : List Int) (p9 : List Int) (p10 : List Int) (p11 : List Int) (p12 : Option (List Ad)) (r : Bool × (Option (List Ad))) (h : GI N p0 p1 p2 p3 p4 p5 p6 p7 p8 p9 p10 p11 p12 = some r) : Dk Tryz.prog 35 [pD (.sl (p0.map Ai)), pD (.sl (p1.map Ai)), oD (.cls 36 [.rop [.sl (p2.map An), .sl (p3.map An), .sl (p4.map An), .sl (p5.map AQ)], .rop [.sl (p6.map An), .sl (p7.map An), .sl (p8.map B3)], .rop [.sl (p9.map An), .sl (p10.map An), .sl (p11.map B3)], .ptr 90000 0])] [(.box [.pure (Le Ai p12)], .box [.pure (Le Ai r.2)])] [] (bD r.1) := HO N N p0 p1 p2 p3 p4 p5 p6 p7 p8 p9 p10 p11 p12 r h
theorem Jt (N : Nat) (p0 : Ab) (p1 : Ac) (p2 : List Ad) (r : (List Ad) × Int) (h : EV N p0 p1 p2 = some r) : Aq Tryz.prog 12 [.e (.agg (Ah p0)), .e (.agg (Az p1)), pD (.sl (p2.map Ai))] [] (.tup [.one (sC (r.1.map Ai)), .one (iC r.2)]) := by
 unfold EV at h
 refine cw (n := 49) (rs := [.tmp 6, .tmp 7]) Tryz.func12 fun w0 S0 => ?_
 refine wq rfl (qb rfl (qb rfl (qa rfl (qa rfl (Aa (wq rfl (qL CT Cy rfl (qL A3 AF rfl ?_))))))))
 refine BT h fun v1 a1 h => Ar [] (IK N p0 p1 v1 a1) Vp rfl (qm rfl (qx rfl (qx rfl (qa rfl (qa rfl (Aa (wp rfl (qm rfl (BF rfl (Aa ?_))))))))))
 refine Be h (fun h => ?_) fun h => ?_
 ·refine wq rfl (qm rfl (qa rfl (qe rfl ?_)))
  obtain rfl := sj h
  refine Ae ((Iq 6 _ rfl).trans (sm [] [(6, pD (.sl ((([] : List Ad)).map Ai))), (7, iD v1.2)] [] rfl rfl)) (Ap ?_)
  exact ⟨⟨[_, _], ⟨.tmp _ _ rfl, tm⟩, rfl⟩, tv⟩
 ·refine Al (wp rfl (qm rfl ?_))
  refine BT h fun v3 a3 h => Ar [] (NW N p2 v3 a3) XC rfl (qa rfl (Aa (wq rfl (qm rfl (BF rfl (Aa ?_))))))
  refine Be h (fun h => ?_) fun h => ?_
  ·refine wq rfl (qm rfl (qa rfl (qe rfl ?_)))
   obtain rfl := sj h
   refine Ae ((Iq 6 _ rfl).trans (sm [] [(6, pD (.sl ((([] : List Ad)).map Ai))), (7, iD v3)] [] rfl rfl)) (Ap ?_)
   exact ⟨⟨[_, _], ⟨.tmp _ _ rfl, tm⟩, rfl⟩, tv⟩
  ·refine Al (wq rfl (qL CT Cy rfl (qL A3 AF rfl (qm rfl ?_))))
   refine BT h fun v5 a5 h => Ar [] (FY N p0 p1 p2 v5 a5) Ts rfl (qm rfl (qx rfl (qx rfl (qz Cc rfl (qs AF rfl (qa rfl (Aa (AN ?_))))))))
   refine AK h (fun v6 => mk [(2, pD (.sl (p2.map Ai))), (3, oD (.ptr 3 0)), (4, oD (.ptr 4 0)), (11, oD (.ptr 11 0)), (40, bD v6)] [(3, .box (Ah p0)), (4, .box (Az p1)), (11, .box (Az v5.1))]) (fun j6 h => ?_) (fun v6 h => ?_)
   ·refine Ag Ay rfl (qm rfl (BX rfl (qm rfl ?_)))
    refine Dr 37 h rfl (fun h => ?_) fun h => ?_
    ·refine qw 2 rfl (qp rfl (Aa ?_))
     exact sn [] h
    ·refine qm rfl (BX rfl (qp rfl (Aa ?_)))
     exact sn [] h
   ·refine Be h (fun h => ?_) fun h => ?_
    ·refine wq rfl (qm rfl ?_)
     refine BT h fun v9 a9 h => Ar [2001] (Co N p2 v9 a9) SS rfl (qa rfl (qe rfl ?_))
     obtain rfl := sj h
     refine Ae ((AU 2001 _ _ rfl rfl).trans (sm [] [(6, pD (.sl (v9.map Ai))), (7, iD 0)] [] rfl rfl)) (Ap ?_)
     exact ⟨⟨[_, _], ⟨.tmp _ _ rfl, tm⟩, rfl⟩, tv⟩
    ·refine Al (wq rfl ?_)
     refine So (.p rfl) TJ rfl ?_
     refine Aa (wq rfl (qm rfl (C6 (KV 3 [.sl (p0.fb.map An), .sl (p0.fm.map An), .sl (p0.fo.map An), .sl (p0.fe.map AQ)] rfl rfl) (C6 (KV 4 [.sl (p1.fd.map An), .sl (p1.fa.map An), .sl (p1.fc.map B3)] rfl rfl) (C6 (KV 11 [.sl (v5.1.fd.map An), .sl (v5.1.fa.map An), .sl (v5.1.fc.map B3)] rfl rfl) ?_)))))
     refine Pl [.rop [.sl (p0.fb.map An), .sl (p0.fm.map An), .sl (p0.fo.map An), .sl (p0.fe.map AQ)], .rop [.sl (p1.fd.map An), .sl (p1.fa.map An), .sl (p1.fc.map B3)], .rop [.sl (v5.1.fd.map An), .sl (v5.1.fa.map An), .sl (v5.1.fc.map B3)], .ptr 13 0] (.p rfl) rfl ⟨rfl, rfl, rfl, rfl, tv⟩ ?_
     refine BT h fun v10 a10 h => LV (ds0 := [_, _, _]) [13] [] [true] (Li N (([] : List Ad)) p2 p0.fb p0.fm p0.fo p0.fe p1.fd p1.fa p1.fc v5.1.fd v5.1.fa v5.1.fc ((none : Option (List Ad))) v10 a10) (.p rfl) Wg rfl ⟨rfl, rfl, rfl, tv⟩ rfl rfl (by decide) ⟨rfl, tv⟩ rfl (Ha rfl) tv ⟨(fun h => by cases h), tv⟩ rfl rfl rfl ?_
     refine Aa (wp rfl (ql Ro rfl ?_))
     refine Ex h fun c11 h => Sv (.p rfl) rfl Bo c11 ?_
     refine Aa ?_
     refine Be h (fun h => ?_) fun h => ?_
     ·refine wq rfl (qa rfl (qe rfl ?_))
      obtain rfl := sj h
      refine Ae ((Iq 6 _ rfl).trans (sm [] [(6, pD (.sl ((([] : List Ad)).map Ai))), (7, iD 15)] [] rfl rfl)) (Ap ?_)
      exact ⟨⟨[_, _], ⟨.tmp _ _ rfl, tm⟩, rfl⟩, tv⟩
     ·refine Al (wq rfl (ql Ro rfl (qa rfl (qe rfl ?_))))
      obtain rfl := sj h
      refine Ae ((TU 6 v10.2 rfl).trans (sm [] [(6, pD (.sl (((v10.2.getD [])).map Ai))), (7, iD 0)] [] rfl rfl)) (Ap ?_)
      exact ⟨⟨[_, _], ⟨.tmp _ _ rfl, tm⟩, rfl⟩, tv⟩
theorem ID (N : Nat) (p0 : Ab) (p1 : Ac) (p2 : List Ad) (r : Bool × Int) (h : FJ N p0 p1 p2 = some r) : Aq Tryz.prog 10 [.e (.agg (Ah p0)), .e (.agg (Az p1)), pD (.sl (p2.map Ai))] [] (.tup [.one (.pure (.val (.bool r.1))), .one (iC r.2)]) := by
 unfold FJ at h
 refine cw (n := 26) (rs := [.tmp 6, .tmp 7]) Tryz.func10 fun w0 S0 => ?_
 refine wq rfl (qb rfl (qb rfl (qa rfl (qa rfl (Aa (wp rfl (qL CT Cy rfl (qL A3 AF rfl ?_))))))))
 refine BT h fun v1 a1 h => Ar [] (Ih N p0 p1 v1 a1) TZ rfl (qa rfl (Aa (wq rfl (qm rfl (BF rfl (Aa ?_))))))
 refine Be h (fun h => ?_) fun h => ?_
 ·refine wq rfl (qm rfl (qa rfl (qe rfl ?_)))
  obtain rfl := sj h
  refine Ae (sm [] [(6, bD false), (7, iD v1)] [] rfl rfl) (Ap ?_)
  exact ⟨⟨[_, _], ⟨.tmp _ _ rfl, tm⟩, rfl⟩, tv⟩
 ·refine Al (wq rfl (qL CT Cy rfl (qL A3 AF rfl (qm rfl ?_))))
  refine BT h fun v3 a3 h => Ar [] (Jt N p0 p1 p2 v3 a3) U7 rfl (qm rfl (qx rfl (qx rfl (qa rfl (qa rfl (Aa (wq rfl (qm rfl (Bs rfl (qa rfl (qe rfl ?_)))))))))))
  obtain rfl := sj h
  refine Ae (sm [] [(6, bD ((v3.2 == 15))), (7, iD 0)] [] rfl rfl) (Ap ?_)
  exact ⟨⟨[_, _], ⟨.tmp _ _ rfl, tm⟩, rfl⟩, tv⟩
theorem P4 (N : Nat) (p0 : Ab) (p1 : List Ad) (r : (List (List Ad)) × Int) (h : Jm N p0 p1 = some r) : Aq Tryz.prog 15 [.e (.agg (Ah p0)), pD (.sl (p1.map Ai))] [(1, r.1.map (Fg Ai))] (.tup [.one (.own 0), .one (iC r.2)]) := by
 unfold Jm at h
 refine cw (n := 64) (rs := [.tmp 4, .tmp 5]) Tryz.func15 fun w0 S0 => ?_
 refine wq rfl (qb rfl (qa rfl (qa rfl (Aa (wq rfl (qL CT Cy rfl ?_))))))
 refine BT h fun v1 a1 h => Ar [2001, 2002, 2003] (I8 N p0 v1 a1) Vr rfl (qm rfl (qx rfl (qx rfl (qz Cc rfl (qs AF rfl (qa rfl (Aa (wp rfl (qm rfl (BF rfl (Aa ?_)))))))))))
 refine Be h (fun h => ?_) fun h => ?_
 ·refine wq rfl (qm rfl (qa rfl (qe rfl ?_)))
  obtain rfl := sj h
  refine Ae ((B2 4 2004 1 rfl rfl rfl).trans (sm [(1000, 2004)] [(4, oD (.own 1000)), (5, iD v1.2)] [(1000, .vec 1 ((([] : List (List Ad))).map (Fg Ai)))] rfl rfl)) (Ap ?_)
  exact ⟨⟨[_, _], ⟨.tmp _ _ rfl, tm⟩, rfl⟩, ⟨rfl, tv⟩⟩
 ·refine Al (wp rfl (qL CT Cy rfl (qm rfl ?_)))
  refine BT h fun v3 a3 h => Ar [] (Ot N p0 p1 v3 a3) Xu rfl (BX rfl (Aa ?_))
  refine Be h (fun h => ?_) fun h => ?_
  ·refine wq rfl (qa rfl (qe rfl ?_))
   obtain rfl := sj h
   refine Ae ((B2 4 2005 1 rfl rfl rfl).trans (sm [(1000, 2005)] [(4, oD (.own 1000)), (5, iD 13)] [(1000, .vec 1 ((([] : List (List Ad))).map (Fg Ai)))] rfl rfl)) (Ap ?_)
   exact ⟨⟨[_, _], ⟨.tmp _ _ rfl, tm⟩, rfl⟩, ⟨rfl, tv⟩⟩
  ·refine Al (wq rfl (qa rfl (Aa (AN ?_))))
   refine AH (L := Gv N p0) h (fun v5 => mk [(1, pD (.sl (v5.2.2.2.1.map Ai))), (2, oD (.ptr 2 0)), (6, oD (.ptr 6 0)), (8, oD (.own 2006))] [(2, .box (Ah p0)), (6, .box [sC (v5.1.map An), sC (v5.2.1.map An), sC (v5.2.2.1.map B3)]), (2006, .vec 1 (v5.2.2.2.2.map (Fg Ai)))]) (fun v6 => mk [(8, oD (.own 2007))] [(2007, .vec 1 (v6.map (Fg Ai)))]) (fun _ _ => rfl) ((B2 8 2011 1 rfl rfl rfl).trans ((AU 2001 _ _ rfl rfl).trans ((AU 2002 _ _ rfl rfl).trans ((AU 2003 _ _ rfl rfl).trans (sm [(2006, 2011)] _ _ rfl rfl))))) (fun j5 n5 v5 h => ?_) (fun v6 s h hs => ?_)
   ·unfold Gv at h
    refine wp rfl (qm rfl (AB Bo rfl (EN rfl (Aa ?_))))
    refine Be h (fun h => ?_) fun h => ?_
    ·refine Al (AM (wq rfl (qm rfl (AB Bo rfl ?_))))
     refine QF (.p rfl) rfl rfl ?_
     refine qa rfl (Aa (AN ?_))
     refine AH (L := Gy N p0 v5) h (fun v8 => mk [(1, pD (.sl (v5.2.2.2.1.map Ai))), (2, oD (.ptr 2 0)), (6, oD (.ptr 6 0)), (8, oD (.own 2008)), (9, iD v8)] [(2, .box (Ah p0)), (6, .box [sC (v5.1.map An), sC (v5.2.1.map An), sC (v5.2.2.1.map B3)]), (2008, .vec 1 (v5.2.2.2.2.map (Fg Ai)))]) (fun v9 => mk [(1, pD (.sl (v5.2.2.2.1.map Ai))), (2, oD (.ptr 2 0)), (6, oD (.ptr 6 0)), (8, oD (.own 2009)), (9, iD v9)] [(2, .box (Ah p0)), (6, .box [sC (v5.1.map An), sC (v5.2.1.map An), sC (v5.2.2.1.map B3)]), (2009, .vec 1 (v5.2.2.2.2.map (Fg Ai)))]) (fun _ _ => rfl) (sm [(2008, 2006)] _ _ rfl rfl) (fun j8 n8 v8 h => ?_) (fun v9 s h hs => ?_)
     ·unfold Gy at h
      refine wp rfl (qm rfl (EN rfl (Aa ?_)))
      refine Be h (fun h => ?_) fun h => ?_
      ·refine Al (AM (wp rfl (qL CT Cy rfl (qL A3 AF rfl (qw 2 rfl ?_)))))
       refine Ex h fun c11 h => Ic (.p rfl) rfl Bo Ch (FP (f := Ai) (n := 3) (fun _ => rfl) _) (.none _) (.some _ _ _ _ c11.1) tv ⟨rfl, tv⟩ (by have := c11.2.1; (try simp only [List.length_map]); omega) (by have := c11.2.2; (try simp only [List.length_map]); omega) (Hf Ai v5.2.2.2.1 _ _ ((v8).toNat - 0) rfl) ?_
       refine BT h fun v12 a12 h => Ar [] (ID N p0 ((Ac.mk v5.1 v5.2.1 v5.2.2.1)) (((v5.2.2.2.1.drop 0).take ((v8).toNat - 0))) v12 a12) Vg rfl (qm rfl (qx rfl (qx rfl (qa rfl (qa rfl (AI (by kernel_rfl) (wq rfl (qm rfl (Aa ?_)))))))))
       refine Be h (fun h => ?_) fun h => ?_
       ·refine AS ?_
        exact sn [(2009, 2008)] h
       ·refine Al (Ag Ay rfl (qm rfl (NQ rfl (qe rfl ?_))))
        exact sn [] h
      ·refine AS ?_
       exact sn [(2009, 2008)] h
     ·refine Ae hs (wq rfl (qw 3 rfl ?_))
      refine Ex h fun c14 h => Ic (.p rfl) rfl Bo Ch (FP (f := Ai) (n := 3) (fun _ => rfl) _) (.none _) (.some _ _ _ _ c14.1) tv ⟨rfl, tv⟩ (by have := c14.2.1; (try simp only [List.length_map]); omega) (by have := c14.2.2; (try simp only [List.length_map]); omega) (Hf Ai v5.2.2.2.1 _ _ ((v9).toNat - 0) rfl) ?_
      refine BT h fun v15 a15 h => Ar [2010] (Co N (((v5.2.2.2.1.drop 0).take ((v9).toNat - 0))) v15 a15) SS rfl (C6 (AU 2010 _ _ rfl rfl) (D4 Ix OQ TJ rfl ?_))
      refine Ex h fun c16 h => DC (f := (Fg Ai)) Ix Ix OQ Wy TJ c16 rfl (qa rfl (Aa (wq rfl (qL CT Cy rfl (qL A3 AF rfl (qw 2 rfl ?_))))))
      refine Ex h fun c17 h => Ic (.p rfl) rfl Bo Ch (FP (f := Ai) (n := 3) (fun _ => rfl) _) (.none _) (.some _ _ _ _ c17.1) tv ⟨rfl, tv⟩ (by have := c17.2.1; (try simp only [List.length_map]); omega) (by have := c17.2.2; (try simp only [List.length_map]); omega) (Hf Ai v5.2.2.2.1 _ _ ((v9).toNat - 0) rfl) ?_
      refine BT h fun v18 a18 h => Ar [] (FY N p0 ((Ac.mk v5.1 v5.2.1 v5.2.2.1)) (((v5.2.2.2.1.drop 0).take ((v9).toNat - 0))) v18 a18) Ts rfl (qm rfl (qx rfl (qx rfl (qs AF rfl (AI (by kernel_rfl) (Ag Ay rfl (qw 2 rfl ?_)))))))
      refine Ex h fun c19 h => Ic (.p rfl) rfl Bo Ch (FP (f := Ai) (n := 3) (fun _ => rfl) _) (.some _ _ _ _ c19.1) (.none _) ⟨rfl, tv⟩ tv (by have := c19.2.1; (try simp only [List.length_map]); omega) (by have := c19.2.2; (try simp only [List.length_map]); omega) (Hf Ai v5.2.2.2.1 _ _ (v5.2.2.2.1.length - (v9).toNat) (by rw [List.length_map])) ?_
      refine qa rfl (Aa ?_)
      exact sn [(2006, 50)] h
    ·refine AS ?_
     exact sn [(2007, 2006)] h
   ·refine Ae hs (wq rfl (qm rfl (qa rfl (qe rfl ?_))))
    obtain rfl := sj h
    refine Ae (sm [(1000, 2007)] [(4, oD (.own 1000)), (5, iD 0)] [(1000, .vec 1 (v6.map (Fg Ai)))] rfl rfl) (Ap ?_)
    exact ⟨⟨[_, _], ⟨.tmp _ _ rfl, tm⟩, rfl⟩, ⟨rfl, tv⟩⟩
theorem G9 (N : Nat) (p0 : List (List Bool)) (p1 : Int) (p2 : Int) (r : Bool) (h : CS N p0 p1 p2 = some r) : Aq Tryz.prog 92 [pD (.sl (p0.map (Fg eB))), iD p1, iD p2] [] (bD r) := by
 unfold CS at h
 refine cw (n := 24) (rs := [.tmp 6]) Tryz.func92 fun w0 S0 => ?_
 refine wq rfl (qa rfl (Aa (wp rfl (qm rfl (AB FI rfl (qm rfl (BF rfl (Aa ?_))))))))
 refine Be h (fun h => ?_) fun h => ?_
 ·refine wq rfl (qe rfl ?_)
  obtain rfl := sj h
  refine Ae (sm [] [(6, bD false)] [] rfl rfl) (Ap ?_)
  exact ⟨⟨[_], tm, rfl⟩, tv⟩
 ·refine Al (wp rfl (qe rfl ?_))
  refine AH (L := BV N p0 p1 p2) h (fun v2 => mk [(0, pD (.sl (p0.map (Fg eB)))), (1, iD p1), (2, iD p2), (7, iD v2)] []) (fun v3 => mk [] []) (fun _ _ => rfl) (sm [] _ _ rfl rfl) (fun j2 n2 v2 h => ?_) (fun v3 s h hs => ?_)
  ·unfold BV at h
   refine wp rfl (qw 2 rfl (AT rfl (Aa ?_)))
   refine Be h (fun h => ?_) fun h => ?_
   ·refine Al (AN (AM (wq rfl (qw 2 rfl ?_))))
    refine BS h fun v5 a5 b5 h => qi FI LW a5 (Af b5) rfl (qk NT rfl (AB GE rfl (qm rfl (BF rfl (Aa ?_)))))
    refine Be h (fun h => ?_) fun h => ?_
    ·refine wq rfl (qe rfl ?_)
     obtain rfl := sj h
     refine Ae (sm [] [(6, bD false)] [] rfl rfl) (Ap ?_)
     exact ⟨⟨[_], tm, rfl⟩, tv⟩
    ·refine Al (Ag Ay rfl (qm rfl (Bd rfl (qe rfl ?_))))
     exact sn [] h
   ·refine AS ?_
    exact sn [] h
  ·refine Ae hs (wq rfl (qe rfl ?_))
   obtain rfl := sj h
   refine Ae (sm [] [(6, bD true)] [] rfl rfl) (Ap ?_)
   exact ⟨⟨[_], tm, rfl⟩, tv⟩
theorem JL (N : Nat) (p0 : Ab) (p1 : Av) (r : Int) (h : DP N p0 p1 = some r) : Aq Tryz.prog 69 [.e (.agg (Ah p0)), .e (.agg (A7 p1))] [] (iD r) := by
 unfold DP at h
 refine cw (n := 101) (rs := [.tmp 4]) Tryz.func69 fun w0 S0 => ?_
 refine wq rfl (qb rfl (qb rfl (qa rfl (Aa (AN ?_)))))
 refine AK h (fun v1 => mk [(2, oD (.ptr 2 0)), (3, oD (.ptr 3 0)), (22, bD v1)] [(2, .box (Ah p0)), (3, .box (A7 p1))]) (fun j1 h => ?_) (fun v1 h => ?_)
 ·refine Ag Ay rfl (qf E8 rfl (ql BL rfl (AT rfl (qm rfl ?_))))
  refine Dr 10 h rfl (fun h => ?_) fun h => ?_
  ·refine qw 3 rfl (qp rfl (qw 4 rfl (qu rfl (qu rfl (qn rfl (qp rfl (Aa ?_)))))))
   exact sn [] h
  ·refine qf E8 rfl (ql BL rfl (EN rfl (qp rfl (qm rfl ?_))))
   refine Dr 15 h rfl (fun h => ?_) fun h => ?_
   ·refine qw 3 rfl (qu rfl (qu rfl (qn rfl (qp rfl (Aa ?_)))))
    exact sn [] h
   ·refine qf H8 rfl (ql Qu rfl (qm rfl ?_))
    refine Dr 18 h rfl (fun h => ?_) fun h => ?_
    ·refine qL GB Du rfl ?_
     refine BT h fun v5 a5 h => Ar [] (Bz N p1 v5 a5) MS rfl (qp rfl (qp rfl (Aa ?_)))
     exact sn [] h
    ·refine qw 2 rfl (qp rfl (qp rfl (Aa ?_)))
     exact sn [] h
 ·refine Be h (fun h => ?_) fun h => ?_
  ·refine wq rfl (qe rfl ?_)
   obtain rfl := sj h
   refine Ae (sm [] [(4, iD 1)] [] rfl rfl) (Ap ?_)
   exact ⟨⟨[_], tm, rfl⟩, tv⟩
  ·refine Al (wq rfl (qf Bg rfl (ql AW rfl (AB Au rfl (qa rfl (Aa (AN ?_)))))))
   refine AK h (fun v7 => mk [(2, oD (.ptr 2 0)), (3, oD (.ptr 3 0)), (45, bD v7)] [(2, .box (Ah p0)), (3, .box (A7 p1))]) (fun j7 h => ?_) (fun v7 h => ?_)
   ·refine Ag Ay rfl (qf Ci rfl (ql BL rfl (AT rfl (qm rfl ?_))))
    refine Dr 29 h rfl (fun h => ?_) fun h => ?_
    ·refine qw 4 rfl (qp rfl (qw 4 rfl (qp rfl (qw 5 rfl (qp rfl (Aa ?_))))))
     exact sn [] h
    ·refine qf Ci rfl (ql BL rfl (qm rfl (El rfl (qp rfl (qm rfl ?_)))))
     refine Dr 35 h rfl (fun h => ?_) fun h => ?_
     ·refine qw 3 rfl (qp rfl (qw 5 rfl (qp rfl (Aa ?_))))
      exact sn [] h
     ·refine qf Hw rfl (ql BL rfl (AT rfl (qp rfl (qm rfl ?_))))
      refine Dr 40 h rfl (fun h => ?_) fun h => ?_
      ·refine qw 4 rfl (qp rfl (Aa ?_))
       exact sn [] h
      ·refine qf Hw rfl (ql BL rfl (qm rfl (El rfl (qp rfl (Aa ?_)))))
       exact sn [] h
   ·refine Be h (fun h => ?_) fun h => ?_
    ·refine wq rfl (qe rfl ?_)
     obtain rfl := sj h
     refine Ae (sm [] [(4, iD 4)] [] rfl rfl) (Ap ?_)
     exact ⟨⟨[_], tm, rfl⟩, tv⟩
    ·refine Al (wp rfl (qf IL rfl (ql Jj rfl (qf Bg rfl (ql AW rfl (qf Ci rfl (ql BL rfl ?_)))))))
     refine BS h fun v12 a12 b12 h => qi Au Cz a12 (Af b12) rfl (qk BL rfl (qf Bg rfl (ql AW rfl (qf Hw rfl (ql BL rfl ?_)))))
     refine BS h fun v13 a13 b13 h => qi Au Cz a13 (Af b13) rfl (qk BL rfl ?_)
     refine BT h fun v14 a14 h => Ar [] (G9 N p1.fq v12 v13 v14 a14) Wk rfl (BX rfl (AI (by kernel_rfl) ?_))
     refine Be h (fun h => ?_) fun h => ?_
     ·refine wq rfl (qe rfl ?_)
      obtain rfl := sj h
      refine Ae (sm [] [(4, iD 6)] [] rfl rfl) (Ap ?_)
      exact ⟨⟨[_], tm, rfl⟩, tv⟩
     ·refine Al (wp rfl (qf E8 rfl (ql BL rfl (BF rfl (Aa ?_)))))
      refine Be h (fun h => ?_) fun h => ?_
      ·refine wp rfl (qf FX rfl (ql Jj rfl (AB FI rfl (BF rfl (Aa ?_)))))
       refine Be h (fun h => ?_) fun h => ?_
       ·refine wq rfl (qe rfl ?_)
        obtain rfl := sj h
        refine Ae (sm [] [(4, iD 6)] [] rfl rfl) (Ap ?_)
        exact ⟨⟨[_], tm, rfl⟩, tv⟩
       ·refine Al (wq rfl (qe rfl ?_))
        obtain rfl := sj h
        refine Ae (sm [] [(4, iD 0)] [] rfl rfl) (Ap ?_)
        exact ⟨⟨[_], tm, rfl⟩, tv⟩
      ·refine Al (wp rfl (qf FX rfl (ql Jj rfl (qf Bg rfl (ql AW rfl (qf Ci rfl (ql BL rfl ?_)))))))
       refine BS h fun v18 a18 b18 h => qi Au Cz a18 (Af b18) rfl (qk BL rfl (qf Bg rfl (ql AW rfl (qf Ci rfl (ql BL rfl ?_)))))
       refine BS h fun v19 a19 b19 h => qi Au Cz a19 (Af b19) rfl (qk BL rfl ?_)
       refine BT h fun v20 a20 h => Ar [] (G9 N p1.fk v18 v19 v20 a20) Wk rfl (BX rfl (AI (by kernel_rfl) ?_))
       refine Be h (fun h => ?_) fun h => ?_
       ·refine wq rfl (qe rfl ?_)
        obtain rfl := sj h
        refine Ae (sm [] [(4, iD 6)] [] rfl rfl) (Ap ?_)
        exact ⟨⟨[_], tm, rfl⟩, tv⟩
       ·refine Al (wp rfl (qe rfl ?_))
        refine AH (L := BB N p1) h (fun v22 => mk [(3, oD (.ptr 3 0)), (6, iD v22)] [(3, .box (A7 p1))]) (fun v23 => mk [] []) (fun _ _ => rfl) (sm [] _ _ rfl rfl) (fun j22 n22 v22 h => ?_) (fun v23 s h hs => ?_)
        ·unfold BB at h
         refine wp rfl (qm rfl (qf FX rfl (ql Jj rfl (AB FI rfl (AT rfl (Aa ?_))))))
         refine Be h (fun h => ?_) fun h => ?_
         ·refine Al (AN (AM (wq rfl (qf FX rfl (ql Jj rfl (qm rfl ?_))))))
          refine BS h fun v25 a25 b25 h => qi FI LW a25 (Af b25) rfl (qk NT rfl (qm rfl ?_))
          refine BS h fun v26 a26 b26 h => qi GE Qg a26 (Af b26) rfl (qk Qu rfl (BX rfl (Aa ?_)))
          refine Be h (fun h => ?_) fun h => ?_
          ·refine wq rfl (qe rfl ?_)
           obtain rfl := sj h
           refine Ae (sm [] [(4, iD 1)] [] rfl rfl) (Ap ?_)
           exact ⟨⟨[_], tm, rfl⟩, tv⟩
          ·refine Al (Ag Ay rfl (qm rfl (Bd rfl (qe rfl ?_))))
           exact sn [] h
         ·refine AS ?_
          exact sn [] h
        ·refine Ae hs (wq rfl (qe rfl ?_))
         obtain rfl := sj h
         refine Ae (sm [] [(4, iD 0)] [] rfl rfl) (Ap ?_)
         exact ⟨⟨[_], tm, rfl⟩, tv⟩
end Go.Lift
