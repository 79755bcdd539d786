/- Lemmas for WavesFineCardSaid, which YtncnphcfgojgmaaGreatDoorFinV3 proves. -/
import Derived.Test.YtncnphcfgojgmaaGreatDoorTypes
import Derived.Test.YtncnphcfgojgmaaGreatDoorProg
import Derived.KernelRfl
namespace Go.Lift
open IntKind renaming wrap → wI
def Dk (_ : Nat) (p0 : List Int) (p1 : Int) : Option Int :=
 AJ ((decide (p1 < (p0.length : Int))))
  ((BE p0 p1).bind fun v2 =>
  some ((wI .i64 v2)))
  (some 0)
def AR (_ : Nat) (p0 : Av) : Option Bool :=
 Bb (fun (v1 : Bool) =>
  some v1)
 fun j1 =>
 AJ ((p0.ff == 3))
  (j1 true)
  (j1 (p0.ff == 4))
def BR (N : Nat) (p1 : Int) (p2 : Int) (p3 : Bool) (v1 : (List (List Bool)) × Int) (j4 : ((List Bool)) → Option ((List (List Bool)))) : Nat → ((List Bool) × Int) → Option ((List (List Bool)))
 | 0, _ => none
 | n4 + 1, v4 =>
  AJ ((decide (v4.2 < p1)))
   (Bb (fun (v7 : (List Bool)) =>
    BR N p1 p2 p3 v1 j4 n4 (v7, (wI .i64 (v4.2 + 1))))
   fun j7 =>
   AJ p3
    (AJ ((v1.2 == v4.2))
     ((Dh (v4.1.length + (([true] : List Bool)).length ≤ Dl)).bind fun _ =>
     j7 (v4.1 ++ (([true] : List Bool))))
     ((Dh (0 ≤ (wI .i64 ((wI .i64 (3 * v1.2)) + v4.2)))).bind fun _ =>
     (Dh (v4.1.length + (([((Int.tmod ((EO .u16 p2 ((wI .i64 ((wI .i64 (3 * v1.2)) + v4.2))))) 2) == 0)] : List Bool)).length ≤ Dl)).bind fun _ =>
     j7 (v4.1 ++ (([((Int.tmod ((EO .u16 p2 ((wI .i64 ((wI .i64 (3 * v1.2)) + v4.2))))) 2) == 0)] : List Bool)))))
    ((Dh (0 ≤ (wI .i64 ((wI .i64 (3 * v1.2)) + v4.2)))).bind fun _ =>
    (Dh (v4.1.length + (([((Int.tmod ((EO .u16 p2 ((wI .i64 ((wI .i64 (3 * v1.2)) + v4.2))))) 2) == 0)] : List Bool)).length ≤ Dl)).bind fun _ =>
    j7 (v4.1 ++ (([((Int.tmod ((EO .u16 p2 ((wI .i64 ((wI .i64 (3 * v1.2)) + v4.2))))) 2) == 0)] : List Bool)))))
   (j4 v4.1)
def BP (N : Nat) (p0 : Int) (p1 : Int) (p2 : Int) (p3 : Bool) (j1 : ((List (List Bool))) → Option ((List (List Bool)))) : Nat → ((List (List Bool)) × Int) → Option ((List (List Bool)))
 | 0, _ => none
 | n1 + 1, v1 =>
  AJ ((decide (v1.2 < p0)))
   (BR N p1 p2 p3 v1 (fun (v5 : (List Bool)) =>
    (Dh (v1.1.length + (([v5] : List (List Bool))).length ≤ Dl)).bind fun _ =>
    BP N p0 p1 p2 p3 j1 n1 (v1.1 ++ (([v5] : List (List Bool))), (wI .i64 (v1.2 + 1)))) N (([] : List Bool), 0))
   (j1 v1.1)
def Dg (N : Nat) (p0 : Int) (p1 : Int) (p2 : Int) (p3 : Bool) : Option ((List (List Bool))) :=
 BP N p0 p1 p2 p3 (fun (v2 : (List (List Bool))) =>
  some v2) N (([] : List (List Bool)), 0)
def B5 (N : Nat) (p0 : BF) (j4 : ((List Int) × (List Int) × (List Int)) → Option (Ab × Bool)) : Nat → ((List Int) × (List Int) × (List Int) × Int) → Option (Ab × Bool)
 | 0, _ => none
 | n4 + 1, v4 =>
  AJ ((decide (v4.2.2.2 < (p0.fb.length : Int))))
   ((BE p0.fb v4.2.2.2).bind fun v7 =>
   (Dh (v4.1.length + (([(wI .i64 (1 + (wI .i64 ((Int.tmod v7 3)))))] : List Int)).length ≤ Dl)).bind fun _ =>
   (Dk N p0.fm v4.2.2.2).bind fun v9 =>
   (Dh ((wI .i64 (1 + (wI .i64 ((Int.tmod v7 3))))) ≠ 0)).bind fun _ =>
   (Dh (v4.2.1.length + (([(Int.tmod v9 ((wI .i64 (1 + (wI .i64 ((Int.tmod v7 3)))))))] : List Int)).length ≤ Dl)).bind fun _ =>
   (Dk N p0.fo v4.2.2.2).bind fun v12 =>
   (Dh ((wI .i64 (1 + (wI .i64 ((Int.tmod v7 3))))) ≠ 0)).bind fun _ =>
   (Dh (v4.2.2.1.length + (([(Int.tmod v12 ((wI .i64 (1 + (wI .i64 ((Int.tmod v7 3)))))))] : List Int)).length ≤ Dl)).bind fun _ =>
   B5 N p0 j4 n4 (v4.1 ++ (([(wI .i64 (1 + (wI .i64 ((Int.tmod v7 3)))))] : List Int)), v4.2.1 ++ (([(Int.tmod v9 ((wI .i64 (1 + (wI .i64 ((Int.tmod v7 3)))))))] : List Int)), v4.2.2.1 ++ (([(Int.tmod v12 ((wI .i64 (1 + (wI .i64 ((Int.tmod v7 3)))))))] : List Int)), (wI .i64 (v4.2.2.2 + 1))))
   (j4 (v4.1, v4.2.1, v4.2.2.1))
def Bi (N : Nat) (p0 : BF) (v5 : (List Int) × (List Int) × (List Int)) (j15 : ((List Av)) → Option (Ab × Bool)) : Nat → ((List Av) × Int) → Option (Ab × Bool)
 | 0, _ => none
 | n15 + 1, v15 =>
  Bb (fun (v17 : Bool) =>
   AJ v17
    ((BE p0.fr v15.2).bind fun v20 =>
    (Dh ((v5.1.length : Int) ≠ 0)).bind fun _ =>
    (Dh ((v5.1.length : Int) ≠ 0)).bind fun _ =>
    Bb (fun (v23 : Bool) =>
     (BE v5.1 ((Int.tmod ((wI .i64 v20.fg)) ((v5.1.length : Int))))).bind fun v26 =>
     (BE v5.1 ((Int.tmod ((wI .i64 v20.fj)) ((v5.1.length : Int))))).bind fun v27 =>
     (Dg N v26 v27 v20.ft false).bind fun v28 =>
     Bb (fun (v29 : (List (List Bool))) =>
      (Dh (v15.1.length + (([(Av.mk ((wI .i64 (1 + (wI .i64 ((Int.tmod v20.ff 4)))))) ((Int.tmod ((wI .i64 v20.fg)) ((v5.1.length : Int)))) ((Int.tmod ((wI .i64 v20.fj)) ((v5.1.length : Int)))) v23 v28 v29)] : List Av)).length ≤ Dl)).bind fun _ =>
      Bi N p0 v5 j15 n15 (v15.1 ++ (([(Av.mk ((wI .i64 (1 + (wI .i64 ((Int.tmod v20.ff 4)))))) ((Int.tmod ((wI .i64 v20.fg)) ((v5.1.length : Int)))) ((Int.tmod ((wI .i64 v20.fj)) ((v5.1.length : Int)))) v23 v28 v29)] : List Av)), (wI .i64 (v15.2 + 1))))
     fun j29 =>
     AJ (((wI .i64 (1 + (wI .i64 ((Int.tmod v20.ff 4))))) == 4))
      ((BE v5.1 ((Int.tmod ((wI .i64 v20.fg)) ((v5.1.length : Int))))).bind fun v31 =>
      (BE v5.1 ((Int.tmod ((wI .i64 v20.fg)) ((v5.1.length : Int))))).bind fun v32 =>
      (Dg N v31 v32 v20.fu true).bind fun v33 =>
      j29 v33)
      (j29 ([] : List (List Bool))))
    fun j23 =>
    AJ v20.fp
     ((AR N ((Av.mk ((wI .i64 (1 + (wI .i64 ((Int.tmod v20.ff 4)))))) ((Int.tmod ((wI .i64 v20.fg)) ((v5.1.length : Int)))) ((Int.tmod ((wI .i64 v20.fj)) ((v5.1.length : Int)))) false (([] : List (List Bool))) (([] : List (List Bool)))))).bind fun v25 =>
     j23 (!v25))
     (j23 false))
    (j15 v15.1))
  fun j17 =>
  AJ ((decide (v15.2 < (p0.fr.length : Int))))
   (j17 (decide (0 < (v5.1.length : Int))))
   (j17 false)
def DT (N : Nat) (p0 : BF) : Option (Ab × Bool) :=
 Bb (fun (v1 : Bool) =>
  AJ v1
   (some ((Ab.mk (([] : List Int)) (([] : List Int)) (([] : List Int)) (([] : List Av))), false))
   (B5 N p0 (fun (v5 : (List Int) × (List Int) × (List Int)) =>
    Bi N p0 v5 (fun (v16 : (List Av)) =>
     some ((Ab.mk v5.1 v5.2.1 v5.2.2 v16), true)) N (([] : List Av), 0)) N (([] : List Int), ([] : List Int), ([] : List Int), 0)))
 fun j1 =>
 AJ ((decide (3 < (p0.fb.length : Int))))
  (j1 true)
  (j1 (decide (4 < (p0.fr.length : Int))))
def EU (_ : Nat) : Option (Ab × (List Ad)) :=
 some ((Ab.mk (([2, 2] : List Int)) (([0, 0] : List Int)) (([1, 1] : List Int)) (([] : List Av))), ([(Ad.mk 1 0 1), (Ad.mk 1 1 1), (Ad.mk 2 0 0), (Ad.mk 2 1 0)] : List Ad))
def Dn (_ : Nat) (p0 : Int) (p1 : Int) : Option Bool :=
 Bb (fun (v1 : Bool) =>
  some v1)
 fun j1 =>
 AJ ((decide (0 ≤ p0)))
  (j1 (decide (p0 < p1)))
  (j1 false)
def FQ (_ : Nat) (p0 : Int) (p1 : Bool) : Option Bool :=
 Bb (fun (v1 : Bool) =>
  some v1)
 fun j1 =>
 AJ ((p0 == 1))
  (j1 true)
  (AJ ((p0 == 2))
   (j1 true)
   (AJ ((p0 == 3))
    (j1 (!p1))
    (AJ ((p0 == 4))
     (j1 (!p1))
     (j1 false))))
def Db (_ : Nat) (p0 : List Bool) (p1 : Int) : Option Bool :=
 some (((p0.length : Int) != p1))
def Ba (N : Nat) (p0 : List (List Bool)) (p1 : (List Bool) → Option Bool) (j1 : Unit → Option Int) : Nat → Int → Option Int
 | 0, _ => none
 | n1 + 1, v1 =>
  AJ ((decide (v1 < (p0.length : Int))))
   ((BE p0 v1).bind fun v4 =>
   (p1 v4).bind fun v5 =>
   AJ v5
    (some v1)
    (Ba N p0 p1 j1 n1 (wI .i64 (v1 + 1))))
   (j1 ())
def CO (N : Nat) (p0 : List (List Bool)) (p1 : (List Bool) → Option Bool) : Option Int :=
 Ba N p0 p1 (fun (_ : Unit) =>
  some ((-1))) N 0
def Ch (N : Nat) (p0 : List (List Bool)) (p1 : (List Bool) → Option Bool) : Option Bool :=
 (CO N p0 p1).bind fun v1 =>
 some ((decide (0 ≤ v1)))
def Ei (N : Nat) (p0 : List (List Bool)) (p1 : Int) (p2 : Int) : Option Bool :=
 Bb (fun (v1 : Bool) =>
  some v1)
 fun j1 =>
 AJ (((p0.length : Int) == p1))
  ((Ch N p0 ((fun (x : List Bool) => Db N x p2))).bind fun v3 =>
  j1 (!v3))
  (j1 false)
def Cu (N : Nat) (p1 : Av) (j19 : Unit → Option Int) : Nat → Int → Option Int
 | 0, _ => none
 | n19 + 1, v19 =>
  AJ ((decide (v19 < (p1.fk.length : Int))))
   ((BE p1.fk v19).bind fun v22 =>
   (BE v22 v19).bind fun v23 =>
   AJ ((!v23))
    (some 1)
    (Cu N p1 j19 n19 (wI .i64 (v19 + 1))))
   (j19 ())
def Fk (N : Nat) (p0 : Ab) (p1 : Av) : Option Int :=
 (FQ N p1.ff p1.fp).bind fun v1 =>
 AJ ((!v1))
  (some 1)
  (Bb (fun (v3 : Bool) =>
   AJ v3
    (some 4)
    ((BE p0.fb p1.fg).bind fun v8 =>
    Bb (fun (v9 : Bool) =>
     AJ v9
      (some 6)
      (Cu N p1 (fun (_ : Unit) =>
       some 0) N 0))
    fun j9 =>
    (BE p0.fb p1.fj).bind fun v10 =>
    (Ei N p1.fq v8 v10).bind fun v11 =>
    AJ ((!v11))
     (j9 true)
     (AJ ((p1.ff == 4))
      ((Ei N p1.fk v8 v8).bind fun v14 =>
      AJ ((!v14))
       (j9 true)
       (AJ ((!((p1.ff == 4))))
        (j9 (decide (0 < (p1.fk.length : Int))))
        (j9 false)))
      (AJ ((!((p1.ff == 4))))
       (j9 (decide (0 < (p1.fk.length : Int))))
       (j9 false)))))
  fun j3 =>
  (Dn N p1.fg ((p0.fb.length : Int))).bind fun v4 =>
  AJ ((!v4))
   (j3 true)
   ((Dn N p1.fj ((p0.fb.length : Int))).bind fun v6 =>
   j3 (!v6)))
def BA (N : Nat) (p0 : Ab) (j7 : Unit → Option Int) : Nat → Int → Option Int
 | 0, _ => none
 | n7 + 1, v7 =>
  AJ ((decide (v7 < (p0.fb.length : Int))))
   ((BE p0.fb v7).bind fun v10 =>
   Bb (fun (v11 : Bool) =>
    AJ v11
     (some 7)
     (BA N p0 j7 n7 (wI .i64 (v7 + 1))))
   fun j11 =>
   AJ ((decide (v10 < 1)))
    (j11 true)
    (AJ ((decide (6 < v10)))
     (j11 true)
     ((BE p0.fm v7).bind fun v14 =>
     (Dn N v14 v10).bind fun v15 =>
     AJ ((!v15))
      (j11 true)
      ((BE p0.fo v7).bind fun v17 =>
      (Dn N v17 v10).bind fun v18 =>
      j11 (!v18)))))
   (j7 ())
def Bs (N : Nat) (p0 : Ab) (j20 : Unit → Option Int) : Nat → Int → Option Int
 | 0, _ => none
 | n20 + 1, v20 =>
  AJ ((decide (v20 < (p0.fe.length : Int))))
   ((BE p0.fe v20).bind fun v23 =>
   (Fk N p0 v23).bind fun v24 =>
   AJ ((v24 != 0))
    (some v24)
    (Bs N p0 j20 n20 (wI .i64 (v20 + 1))))
   (j20 ())
def Cf (N : Nat) (p0 : Ab) : Option Int :=
 Bb (fun (v1 : Bool) =>
  AJ v1
   (some 3)
   (Bb (fun (v4 : Bool) =>
    AJ v4
     (some 6)
     (BA N p0 (fun (_ : Unit) =>
      Bs N p0 (fun (_ : Unit) =>
       some 0) N 0) N 0))
   fun j4 =>
   AJ (((p0.fm.length : Int) != (p0.fb.length : Int)))
    (j4 true)
    (j4 ((p0.fo.length : Int) != (p0.fb.length : Int)))))
 fun j1 =>
 AJ ((decide (6 < (p0.fb.length : Int))))
  (j1 true)
  (j1 (decide (12 < (p0.fe.length : Int))))
def Bq (_ : Nat) (p0 : List Int) : Option ((List Int)) :=
 (Dh ((([] : List Int)).length + p0.length ≤ Dl)).bind fun _ =>
 some ((([] : List Int)) ++ p0)
def Gg (_ : Nat) (p0 : Int) (p1 : Int) : Option (Int × Int) :=
 some ((wI .u32 ((EO .u64 ((wI .u64 ((wI .u64 p0) * (wI .u64 p1)))) 32))), (wI .u32 ((wI .u64 ((wI .u64 p0) * (wI .u64 p1))))))
def Ga (_ : Nat) (p0 : Int) (p1 : Int) : Option (Int × Int) :=
 some ((wI .u64 ((wI .u64 ((wI .u64 ((EO .u64 p0 32) * (EO .u64 p1 32))) + (EO .u64 ((wI .u64 ((wI .u64 ((EO .u64 p0 32) * (EN .u64 p1 4294967295))) + (EO .u64 ((wI .u64 ((EN .u64 p0 4294967295) * (EN .u64 p1 4294967295)))) 32)))) 32))) + (EO .u64 ((wI .u64 ((EN .u64 ((wI .u64 ((wI .u64 ((EO .u64 p0 32) * (EN .u64 p1 4294967295))) + (EO .u64 ((wI .u64 ((EN .u64 p0 4294967295) * (EN .u64 p1 4294967295)))) 32)))) 4294967295) + (wI .u64 ((EN .u64 p0 4294967295) * (EO .u64 p1 32)))))) 32))), (wI .u64 (p0 * p1)))
def GZ (N : Nat) (p0 : Int) (p1 : Int) : Option (Int × Int) :=
 AJ false
  ((Gg N ((wI .u32 p0)) ((wI .u32 p1))).bind fun v2 =>
  some ((wI .u64 v2.1), (wI .u64 v2.2)))
  ((Ga N p0 p1).bind fun v3 =>
  some (v3.1, v3.2))
def C4 (N : Nat) (j9 : ((List Int)) → Option ((List Int))) : Nat → ((List Int) × Int) → Option ((List Int))
 | 0, _ => none
 | n9 + 1, v9 =>
  AJ ((decide (v9.2 < (v9.1.length : Int))))
   ((Dh ((0 : Int) ≤ v9.2 ∧ (v9.2).toNat ≤ v9.1.length ∧ v9.1.length ≤ v9.1.length)).bind fun _ =>
   (Dh ((0 : Int) ≤ v9.2 ∧ 0 ≤ (v9.2).toNat ∧ (v9.2).toNat ≤ v9.1.length)).bind fun _ =>
   C4 N j9 n9 (Hk v9.1 ((v9.2).toNat) ((((v9.1.drop 0).take ((v9.2).toNat))).take (Nat.min (((v9.1.drop 0).take ((v9.2).toNat))).length ((v9.1.length - (v9.2).toNat)))), (wI .i64 (v9.2 + (((Nat.min (((v9.1.drop 0).take ((v9.2).toNat))).length ((v9.1.length - (v9.2).toNat))) : Nat) : Int)))))
   (j9 v9.1)
def Er (N : Nat) (p0 : List Int) (p1 : Int) : Option ((List Int)) :=
 Bb (fun (_ : Unit) =>
  (GZ N ((wI .u64 ((p0.length : Int)))) ((wI .u64 p1))).bind fun v3 =>
  Bb (fun (_ : Unit) =>
   (Dh ((0 : Int) ≤ (wI .i64 v3.2) ∧ (wI .i64 v3.2) ≤ (wI .i64 v3.2) ∧ (wI .i64 v3.2) ≤ (Dl : Int))).bind fun _ =>
   C4 N (fun (v10 : (List Int)) =>
    some v10) N (Hk (List.replicate ((wI .i64 v3.2)).toNat ((0 : Int))) 0 (p0.take (Nat.min p0.length ((List.replicate ((wI .i64 v3.2)).toNat ((0 : Int))).length))), (((Nat.min p0.length ((List.replicate ((wI .i64 v3.2)).toNat ((0 : Int))).length)) : Nat) : Int)))
  fun j4 =>
  Bb (fun (v5 : Bool) =>
   AJ v5
    (none)
    (j4 ()))
  fun j5 =>
  AJ ((decide (0 < v3.1)))
   (j5 true)
   (j5 (decide (9223372036854775807 < v3.2))))
 fun j1 =>
 AJ ((decide (p1 < 0)))
  (none)
  (j1 ())
def Ew (_ : Nat) (p0 : Av) : Option Bool :=
 Bb (fun (v1 : Bool) =>
  some v1)
 fun j1 =>
 AJ ((p0.ff == 3))
  (j1 true)
  (j1 (p0.ff == 4))
def F3 (N : Nat) (p0 : Ab) (j6 : ((List Int)) → Option (Ac × Int)) : Nat → ((List Int) × Int) → Option (Ac × Int)
 | 0, _ => none
 | n6 + 1, v6 =>
  AJ ((decide (v6.2 < (p0.fe.length : Int))))
   (Bb (fun (v9 : (List Int)) =>
    F3 N p0 j6 n6 (v9, (wI .i64 (v6.2 + 1))))
   fun j9 =>
   (BE p0.fe v6.2).bind fun v10 =>
   (Ew N v10).bind fun v11 =>
   AJ v11
    ((BE p0.fm v10.fg).bind fun v13 =>
    (Dh (0 ≤ v13)).bind fun _ =>
    (BE v6.1 v6.2).bind fun _ =>
    j9 (v6.1.set ((v6.2).toNat) ((C7 .u8 1 v13))))
    (j9 v6.1))
   (j6 v6.1)
def GA (N : Nat) (p0 : Ab) : Option (Ac × Int) :=
 (Cf N p0).bind fun v1 =>
 AJ ((v1 != 0))
  (some ((Ac.mk (([] : List Int)) (([] : List Int)) (([] : List Int))), v1))
  ((Bq N p0.fm).bind fun v3 =>
  (Er N (([(-1)] : List Int)) ((p0.fm.length : Int))).bind fun v4 =>
  (Dh ((0 : Int) ≤ (p0.fe.length : Int) ∧ (p0.fe.length : Int) ≤ (p0.fe.length : Int) ∧ (p0.fe.length : Int) ≤ (Dl : Int))).bind fun _ =>
  F3 N p0 (fun (v7 : (List Int)) =>
   some ((Ac.mk v3 v4 v7), 0)) N (List.replicate ((p0.fe.length : Int)).toNat ((0 : Int)), 0))
def Eb (_ : Nat) (p0 : Ac) (p1 : Int) : Option Int :=
 (BE p0.fd p1).bind fun v1 =>
 (Dh (0 ≤ v1)).bind fun _ =>
 Bb (fun (v3 : Int) =>
  some v3)
 fun j3 =>
 (BE p0.fa p1).bind fun v4 =>
 AJ ((decide (0 ≤ v4)))
  ((BE p0.fa p1).bind fun v6 =>
  (Dh (0 ≤ v6)).bind fun _ =>
  j3 (KX .u8 ((C7 .u8 1 v1)) ((C7 .u8 1 v6))))
  (j3 (C7 .u8 1 v1))
def Do (N : Nat) (p0 : Ab) (p1 : Ac) (j7 : Unit → Option Int) : Nat → Int → Option Int
 | 0, _ => none
 | n7 + 1, v7 =>
  AJ ((decide (v7 < (p0.fb.length : Int))))
   ((BE p0.fb v7).bind fun v10 =>
   Bb (fun (v11 : Bool) =>
    AJ v11
     (some 7)
     ((BE p1.fd v7).bind fun v20 =>
     (BE p1.fa v7).bind fun v21 =>
     AJ ((v20 == v21))
      (some 1)
      (Do N p0 p1 j7 n7 (wI .i64 (v7 + 1)))))
   fun j11 =>
   (BE p1.fd v7).bind fun v12 =>
   AJ ((decide (v12 < 0)))
    (j11 true)
    ((BE p1.fd v7).bind fun v14 =>
    AJ ((decide (v10 ≤ v14)))
     (j11 true)
     ((BE p1.fa v7).bind fun v16 =>
     AJ ((decide (v16 < (-1))))
      (j11 true)
      ((BE p1.fa v7).bind fun v18 =>
      j11 (decide (v10 ≤ v18))))))
   (j7 ())
def C1 (N : Nat) (p0 : Ab) (p1 : Ac) (j23 : Unit → Option Int) : Nat → Int → Option Int
 | 0, _ => none
 | n23 + 1, v23 =>
  AJ ((decide (v23 < (p0.fe.length : Int))))
   ((BE p0.fe v23).bind fun v26 =>
   Bb (fun (v27 : Int × Int) =>
    Bb (fun (v33 : Bool) =>
     AJ v33
      (some 1)
      (C1 N p0 p1 j23 n23 (wI .i64 (v23 + 1))))
    fun j33 =>
    (BE p1.fc v23).bind fun v34 =>
    AJ (((CC .u8 v27.1 v34) != 0))
     (j33 true)
     ((BE p1.fc v23).bind fun v36 =>
     j33 ((CC .u8 v36 v27.2) != 0)))
   fun j27 =>
   (Ew N v26).bind fun v28 =>
   AJ v28
    ((Eb N p1 v26.fg).bind fun v30 =>
    (BE p0.fb v26.fg).bind fun v31 =>
    (Dh (0 ≤ v31)).bind fun _ =>
    j27 (v30, (wI .u8 ((C7 .u8 1 v31) - 1))))
    (j27 (0, 0)))
   (j23 ())
def Em (N : Nat) (p0 : Ab) (p1 : Ac) : Option Int :=
 (Cf N p0).bind fun v1 =>
 AJ ((v1 != 0))
  (some v1)
  (Bb (fun (v3 : Bool) =>
   AJ v3
    (some 6)
    (Do N p0 p1 (fun (_ : Unit) =>
     C1 N p0 p1 (fun (_ : Unit) =>
      some 0) N 0) N 0))
  fun j3 =>
  AJ (((p1.fd.length : Int) != (p0.fb.length : Int)))
   (j3 true)
   (AJ (((p1.fa.length : Int) != (p0.fb.length : Int)))
    (j3 true)
    (j3 ((p1.fc.length : Int) != (p0.fe.length : Int)))))
def Bu (_ : Nat) (p0 : List Int) : Option ((List Int)) :=
 (Dh ((([] : List Int)).length + p0.length ≤ Dl)).bind fun _ =>
 some ((([] : List Int)) ++ p0)
def CX (N : Nat) (p1 : Ac) (j3 : ((List Int)) → Option ((List Ac) × Int)) : Nat → ((List Int) × Int) → Option ((List Ac) × Int)
 | 0, _ => none
 | n3 + 1, v3 =>
  AJ ((decide (v3.2 < (p1.fa.length : Int))))
   (Bb (fun (v6 : (List Int)) =>
    CX N p1 j3 n3 (v6, (wI .i64 (v3.2 + 1))))
   fun j6 =>
   (BE p1.fa v3.2).bind fun v7 =>
   AJ ((decide (0 ≤ v7)))
    ((Dh (v3.1.length + (([v3.2] : List Int)).length ≤ Dl)).bind fun _ =>
    j6 (v3.1 ++ (([v3.2] : List Int))))
    (j6 v3.1))
   (j3 v3.1)
def Ci (N : Nat) (v4 : (List Int)) (v11 : (List Ac) × Int) (j17 : ((List Int)) → Option ((List Ac) × Int)) : Nat → ((List Int) × Int) → Option ((List Ac) × Int)
 | 0, _ => none
 | n17 + 1, v17 =>
  AJ ((decide (v17.2 < (v4.length : Int))))
   (Bb (fun (v20 : (List Int)) =>
    Ci N v4 v11 j17 n17 (v20, (wI .i64 (v17.2 + 1))))
   fun j20 =>
   (BE v4 v17.2).bind fun v21 =>
   (Dh (0 ≤ v17.2)).bind fun _ =>
   AJ (((EN .i64 ((EO .i64 v11.2 v17.2)) 1) == 1))
    ((BE v17.1 v21).bind fun _ =>
    j20 (v17.1.set ((v21).toNat) ((-1))))
    (j20 v17.1))
   (j17 v17.1)
def Cl (N : Nat) (p1 : Ac) (v4 : (List Int)) (j11 : ((List Ac)) → Option ((List Ac) × Int)) : Nat → ((List Ac) × Int) → Option ((List Ac) × Int)
 | 0, _ => none
 | n11 + 1, v11 =>
  AJ ((decide (v11.2 < (C7 .i64 1 ((v4.length : Int))))))
   ((Bq N p1.fd).bind fun v14 =>
   (Bq N p1.fa).bind fun v15 =>
   (Bu N p1.fc).bind fun v16 =>
   Ci N v4 v11 (fun (v18 : (List Int)) =>
    (Dh (v11.1.length + (([(Ac.mk v14 v18 v16)] : List Ac)).length ≤ Dl)).bind fun _ =>
    Cl N p1 v4 j11 n11 (v11.1 ++ (([(Ac.mk v14 v18 v16)] : List Ac)), (wI .i64 (v11.2 + 1)))) N (v15, 0))
   (j11 v11.1)
def FK (N : Nat) (p0 : Ab) (p1 : Ac) : Option ((List Ac) × Int) :=
 (Em N p0 p1).bind fun v1 =>
 AJ ((v1 != 0))
  (some (([] : List Ac), v1))
  (CX N p1 (fun (v4 : (List Int)) =>
   (Dh (0 ≤ (v4.length : Int))).bind fun _ =>
   Cl N p1 v4 (fun (v12 : (List Ac)) =>
    some (v12, 0)) N (([] : List Ac), 0)) N (([] : List Int), 0))
def BC (N : Nat) (v1 : (List Ak) × Int) (v4 : Av) (v6 : Int) (v11 : (List Ak) × Int) (v17 : List Bool) (j18 : ((List Ak) × Bool) → Option ((List Ak))) : Nat → ((List Ak) × Bool × Int) → Option ((List Ak))
 | 0, _ => none
 | n18 + 1, v18 =>
  AJ ((decide (v18.2.2 < (v17.length : Int))))
   (Bb (fun (v21 : (List Ak) × Bool) =>
    BC N v1 v4 v6 v11 v17 j18 n18 (v21.1, v21.2, (wI .i64 (v18.2.2 + 1))))
   fun j21 =>
   (BE v17 v18.2.2).bind fun v22 =>
   (Dh (0 ≤ v18.2.2)).bind fun _ =>
   AJ (((EN .u8 ((EO .u8 v6 v18.2.2)) 1) == 0))
    (j21 (v18.1, v18.2.1))
    (Bb (fun (v25 : Bool) =>
     Bb (fun (v27 : Bool) =>
      AJ v27
       ((Dh (v18.1.length + (([(Ak.mk v1.2 v11.2 v18.2.2)] : List Ak)).length ≤ Dl)).bind fun _ =>
       j21 (v18.1 ++ (([(Ak.mk v1.2 v11.2 v18.2.2)] : List Ak)), v25))
       (j21 (v18.1, v25)))
     fun j27 =>
     AJ ((!v22))
      (j27 (!v4.fp))
      (j27 false))
    fun j25 =>
    AJ v18.2.1
     (j25 true)
     (j25 v22)))
   (j18 (v18.1, v18.2.1))
def BQ (N : Nat) (v1 : (List Ak) × Int) (v4 : Av) (v6 : Int) (v7 : Int) (j11 : ((List Ak)) → Option ((List Ak))) : Nat → ((List Ak) × Int) → Option ((List Ak))
 | 0, _ => none
 | n11 + 1, v11 =>
  AJ ((decide (v11.2 < (v4.fq.length : Int))))
   (Bb (fun (v14 : (List Ak)) =>
    BQ N v1 v4 v6 v7 j11 n11 (v14, (wI .i64 (v11.2 + 1))))
   fun j14 =>
   (Dh (0 ≤ v11.2)).bind fun _ =>
   AJ (((EN .u8 ((EO .u8 v7 v11.2)) 1) == 0))
    (j14 v11.1)
    ((BE v4.fq v11.2).bind fun v17 =>
    BC N v1 v4 v6 v11 v17 (fun (v19 : (List Ak) × Bool) =>
     Bb (fun (v31 : Bool) =>
      AJ v31
       ((Dh (v19.1.length + (([(Ak.mk v1.2 v11.2 ((-1)))] : List Ak)).length ≤ Dl)).bind fun _ =>
       j14 (v19.1 ++ (([(Ak.mk v1.2 v11.2 ((-1)))] : List Ak))))
       (j14 v19.1))
     fun j31 =>
     AJ v4.fp
      (j31 (!v19.2))
      (j31 false)) N (v11.1, false, 0)))
   (j11 v11.1)
def CH (N : Nat) (p0 : Ab) (p1 : Ac) (j1 : ((List Ak)) → Option ((List Ak))) : Nat → ((List Ak) × Int) → Option ((List Ak))
 | 0, _ => none
 | n1 + 1, v1 =>
  AJ ((decide (v1.2 < (p0.fe.length : Int))))
   ((BE p0.fe v1.2).bind fun v4 =>
   (Eb N p1 v4.fg).bind fun v5 =>
   (Eb N p1 v4.fj).bind fun v6 =>
   Bb (fun (v7 : Int) =>
    BQ N v1 v4 v6 v7 (fun (v12 : (List Ak)) =>
     CH N p0 p1 j1 n1 (v12, (wI .i64 (v1.2 + 1)))) N (v1.1, 0))
   fun j7 =>
   (Ew N v4).bind fun v8 =>
   AJ v8
    ((BE p1.fc v1.2).bind fun v10 =>
    j7 v10)
    (j7 v5))
   (j1 v1.1)
def EG (N : Nat) (p0 : Ab) (p1 : Ac) : Option ((List Ak)) :=
 CH N p0 p1 (fun (v2 : (List Ak)) =>
  some v2) N (([] : List Ak), 0)
def DW (N : Nat) (p0 : Ab) (v1 : (List Ac) × Int) (j3 : Unit → Option (Ac × Ak × Int)) : Nat → Int → Option (Ac × Ak × Int)
 | 0, _ => none
 | n3 + 1, v3 =>
  AJ ((decide (v3 < (v1.1.length : Int))))
   ((BE v1.1 v3).bind fun v6 =>
   (EG N p0 v6).bind fun v7 =>
   AJ ((decide (0 < (v7.length : Int))))
    ((BE v7 0).bind fun v9 =>
    some (v6, v9, 0))
    (DW N p0 v1 j3 n3 (wI .i64 (v3 + 1))))
   (j3 ())
def EV (N : Nat) (p0 : Ab) (p1 : Ac) : Option (Ac × Ak × Int) :=
 (FK N p0 p1).bind fun v1 =>
 AJ ((v1.2 != 0))
  (some ((Ac.mk (([] : List Int)) (([] : List Int)) (([] : List Int))), (Ak.mk 0 0 0), v1.2))
  (DW N p0 v1 (fun (_ : Unit) =>
   some ((Ac.mk (([] : List Int)) (([] : List Int)) (([] : List Int))), (Ak.mk 0 0 0), 15)) N 0)
def E7 (_ : Nat) (p0 : Ad) : Option Bool :=
 Bb (fun (v1 : Bool) =>
  AJ v1
   (some false)
   (Bb (fun (v5 : Bool) =>
    some v5)
   fun j5 =>
   AJ ((p0.ff == 1))
    (j5 true)
    (j5 (p0.fi == 0))))
 fun j1 =>
 AJ ((decide ((O3 p0.fh p0.fi) < 0)))
  (j1 true)
  (AJ ((decide (p0.ff < 1)))
   (j1 true)
   (j1 (decide (4 < p0.ff))))
def Fr (_ : Nat) (p0 : Ab) (p1 : Ad) : Option Bool :=
 AJ ((p1.ff == 3))
  (some ((decide (p1.fh < (p0.fe.length : Int)))))
  (Bb (fun (v2 : Bool) =>
   some v2)
  fun j2 =>
  AJ ((decide (p1.fh < (p0.fb.length : Int))))
   (AJ ((p1.ff != 1))
    (j2 true)
    ((BE p0.fb p1.fh).bind fun v5 =>
    j2 (decide (p1.fi < v5))))
   (j2 false))
def Fp (N : Nat) (p0 : Ac) : Option Ac :=
 (Bq N p0.fd).bind fun v1 =>
 (Bq N p0.fa).bind fun v2 =>
 (Bu N p0.fc).bind fun v3 =>
 some ((Ac.mk v1 v2 v3))
def ED (_ : Nat) (p0 : Av) : Option Bool :=
 Bb (fun (v1 : Bool) =>
  some v1)
 fun j1 =>
 AJ ((p0.ff == 3))
  (j1 true)
  (j1 (p0.ff == 4))
def CY (N : Nat) (p0 : Ab) (p2 : Ad) (j7 : ((List Int)) → Option (Bool × (List Int) × (List Int))) : Nat → ((List Int) × Int) → Option (Bool × (List Int) × (List Int))
 | 0, _ => none
 | n7 + 1, v7 =>
  AJ ((decide (v7.2 < (p0.fe.length : Int))))
   (Bb (fun (v10 : (List Int)) =>
    CY N p0 p2 j7 n7 (v10, (wI .i64 (v7.2 + 1))))
   fun j10 =>
   (BE p0.fe v7.2).bind fun v11 =>
   Bb (fun (v12 : Bool) =>
    AJ v12
     ((BE v7.1 v7.2).bind fun v16 =>
     (Dh (0 ≤ p2.fi)).bind fun _ =>
     (BE v7.1 v7.2).bind fun _ =>
     j10 (v7.1.set ((v7.2).toNat) ((KX .u8 v16 ((C7 .u8 1 p2.fi))))))
     (j10 v7.1))
   fun j12 =>
   AJ ((v11.fg == p2.fh))
    ((ED N v11).bind fun v14 =>
    j12 v14)
    (j12 false))
   (j7 v7.1)
def G8 (N : Nat) (p0 : Ab) (p1 : Ac) (p2 : Ad) : Option (Bool × (List Int) × (List Int)) :=
 Bb (fun (v1 : Bool) =>
  AJ v1
   (some (false, p1.fa, p1.fc))
   ((BE p1.fa p2.fh).bind fun _ =>
   CY N p0 p2 (fun (v8 : (List Int)) =>
    some (true, p1.fa.set ((p2.fh).toNat) p2.fi, v8)) N (p1.fc, 0)))
 fun j1 =>
 (BE p1.fa p2.fh).bind fun v2 =>
 AJ ((decide (0 ≤ v2)))
  (j1 true)
  ((BE p1.fd p2.fh).bind fun v4 =>
  j1 (v4 == p2.fi))
def E2 (_ : Nat) (p0 : Ac) (p1 : Int) : Option Int :=
 (BE p0.fd p1).bind fun v1 =>
 (Dh (0 ≤ v1)).bind fun _ =>
 Bb (fun (v3 : Int) =>
  some v3)
 fun j3 =>
 (BE p0.fa p1).bind fun v4 =>
 AJ ((decide (0 ≤ v4)))
  ((BE p0.fa p1).bind fun v6 =>
  (Dh (0 ≤ v6)).bind fun _ =>
  j3 (KX .u8 ((C7 .u8 1 v1)) ((C7 .u8 1 v6))))
  (j3 (C7 .u8 1 v1))
def Cm (_ : Nat) (p0 : Int) : Option Int :=
 (TL ((⟨⟨(List.append (List.append [8, 0, 1, 0, 2, 0, 1, 0, 3, 0, 1, 0, 2, 0, 1, 0, 4, 0, 1, 0, 2, 0, 1, 0, 3, 0, 1, 0, 2, 0, 1, 0, 5, 0, 1, 0, 2, 0, 1, 0, 3, 0, 1, 0, 2, 0, 1, 0, 4, 0, 1, 0, 2, 0, 1, 0, 3, 0, 1, 0, 2, 0, 1, 0] [6, 0, 1, 0, 2, 0, 1, 0, 3, 0, 1, 0, 2, 0, 1, 0, 4, 0, 1, 0, 2, 0, 1, 0, 3, 0, 1, 0, 2, 0, 1, 0, 5, 0, 1, 0, 2, 0, 1, 0, 3, 0, 1, 0, 2, 0, 1, 0, 4, 0, 1, 0, 2, 0, 1, 0, 3, 0, 1, 0, 2, 0, 1, 0]) (List.append [7, 0, 1, 0, 2, 0, 1, 0, 3, 0, 1, 0, 2, 0, 1, 0, 4, 0, 1, 0, 2, 0, 1, 0, 3, 0, 1, 0, 2, 0, 1, 0, 5, 0, 1, 0, 2, 0, 1, 0, 3, 0, 1, 0, 2, 0, 1, 0, 4, 0, 1, 0, 2, 0, 1, 0, 3, 0, 1, 0, 2, 0, 1, 0] [6, 0, 1, 0, 2, 0, 1, 0, 3, 0, 1, 0, 2, 0, 1, 0, 4, 0, 1, 0, 2, 0, 1, 0, 3, 0, 1, 0, 2, 0, 1, 0, 5, 0, 1, 0, 2, 0, 1, 0, 3, 0, 1, 0, 2, 0, 1, 0, 4, 0, 1, 0, 2, 0, 1, 0, 3, 0, 1, 0, 2, 0, 1, 0]))⟩⟩ : ByteArray)) p0).bind fun v1 =>
 some ((wI .i64 v1))
def CR (N : Nat) (p0 : Av) (p2 : Int) (j1 : Unit → Option Bool) : Nat → Int → Option Bool
 | 0, _ => none
 | n1 + 1, v1 =>
  AJ ((v1 != 0))
   ((Cm N v1).bind fun v4 =>
   (BE p0.fk v4).bind fun v5 =>
   (BE v5 p2).bind fun v6 =>
   AJ ((!v6))
    (some false)
    (CR N p0 p2 j1 n1 (EN .u8 v1 ((wI .u8 (v1 - 1))))))
   (j1 ())
def EZ (N : Nat) (p0 : Av) (p1 : Int) (p2 : Int) : Option Bool :=
 CR N p0 p2 (fun (_ : Unit) =>
  some true) N p1
def FT (N : Nat) (p0 : Ab) (p1 : Ac) (p2 : Int) : Option (Bool × (List Int)) :=
 (BE p0.fe p2).bind fun v1 =>
 (ED N v1).bind fun v2 =>
 AJ ((!v2))
  (some (false, p1.fc))
  ((E2 N p1 v1.fg).bind fun v4 =>
  (BE p1.fc p2).bind fun v5 =>
  Bb (fun (v6 : Bool) =>
   AJ v6
    (some (false, p1.fc))
    ((BE p1.fc p2).bind fun _ =>
    some (true, p1.fc.set ((p2).toNat) v4)))
  fun j6 =>
  (BE p1.fc p2).bind fun v7 =>
  AJ ((v7 == v4))
   (j6 true)
   (AJ ((v1.ff == 4))
    ((BE p1.fd v1.fg).bind fun v10 =>
    (EZ N v1 ((CC .u8 v5 v4)) v10).bind fun v11 =>
    j6 (!v11))
    (j6 false)))
def FW (N : Nat) (p0 : Ab) (p1 : Ac) (p2 : Ad) : Option (Ac × Bool) :=
 (Fp N p1).bind fun v1 =>
 AJ ((p2.ff == 1))
  ((G8 N p0 v1 p2).bind fun v3 =>
  some ((Ac.mk v1.fd v3.2.1 v3.2.2), v3.1))
  (AJ ((p2.ff == 3))
   ((FT N p0 v1 p2.fh).bind fun v5 =>
   some ((Ac.mk v1.fd v1.fa v5.2), v5.1))
   ((BE v1.fa p2.fh).bind fun v6 =>
   AJ ((decide (v6 < 0)))
    (some (v1, false))
    ((BE v1.fa p2.fh).bind fun _ =>
    Bb (fun (v9 : (List Int)) =>
     some ((Ac.mk v9 (v1.fa.set ((p2.fh).toNat) ((-1))) v1.fc), true))
    fun j9 =>
    AJ ((p2.ff == 2))
     ((BE v1.fd p2.fh).bind fun _ =>
     j9 (v1.fd.set ((p2.fh).toNat) v6))
     (j9 v1.fd))))
def FU (N : Nat) (p0 : Ab) (p1 : Ac) (p2 : Ad) : Option (Ac × Int) :=
 (E7 N p2).bind fun v1 =>
 AJ ((!v1))
  (some ((Ac.mk (([] : List Int)) (([] : List Int)) (([] : List Int))), 1))
  ((Fr N p0 p2).bind fun v3 =>
  AJ ((!v3))
   (some ((Ac.mk (([] : List Int)) (([] : List Int)) (([] : List Int))), 4))
   ((FW N p0 p1 p2).bind fun v5 =>
   AJ ((!v5.2))
    (some ((Ac.mk (([] : List Int)) (([] : List Int)) (([] : List Int))), 11))
    (some (v5.1, 0))))
def E5 (N : Nat) (p0 : Ab) (p1 : Ac) (p2 : Ad) : Option (Ac × Int) :=
 (Em N p0 p1).bind fun v1 =>
 AJ ((v1 != 0))
  (some ((Ac.mk (([] : List Int)) (([] : List Int)) (([] : List Int))), v1))
  ((FU N p0 p1 p2).bind fun v3 =>
  some (v3.1, v3.2))
def De (N : Nat) (p0 : List Int) (p1 : List Int) (j2 : Unit → Option Bool) : Nat → Int → Option Bool
 | 0, _ => none
 | n2 + 1, v2 =>
  AJ ((decide (v2 < (p0.length : Int))))
   ((BE p0 v2).bind fun v5 =>
   (BE p1 v2).bind fun v6 =>
   AJ ((v5 != v6))
    (some false)
    (De N p0 p1 j2 n2 (wI .i64 (v2 + 1))))
   (j2 ())
def EK (N : Nat) (p0 : List Int) (p1 : List Int) : Option Bool :=
 AJ (((p0.length : Int) != (p1.length : Int)))
  (some false)
  (De N p0 p1 (fun (_ : Unit) =>
   some true) N 0)
def CB (N : Nat) (p0 : List Int) (p1 : Int → Option Bool) (j1 : Unit → Option Int) : Nat → Int → Option Int
 | 0, _ => none
 | n1 + 1, v1 =>
  AJ ((decide (v1 < (p0.length : Int))))
   ((BE p0 v1).bind fun v4 =>
   (p1 v4).bind fun v5 =>
   AJ v5
    (some v1)
    (CB N p0 p1 j1 n1 (wI .i64 (v1 + 1))))
   (j1 ())
def D5 (N : Nat) (p0 : List Int) (p1 : Int → Option Bool) : Option Int :=
 CB N p0 p1 (fun (_ : Unit) =>
  some ((-1))) N 0
def DB (N : Nat) (p0 : List Int) (p1 : Int → Option Bool) : Option Bool :=
 (D5 N p0 p1).bind fun v1 =>
 some ((decide (0 ≤ v1)))
def G9 (_ : Nat) (p0 : Int) : Option Bool :=
 some ((decide (0 ≤ p0)))
def H7 (N : Nat) (p0 : Ab) (p1 : Ac) : Option Bool :=
 Bb (fun (v1 : Bool) =>
  some v1)
 fun j1 =>
 (Em N p0 p1).bind fun v2 =>
 AJ ((v2 == 0))
  ((EK N p1.fd p0.fo).bind fun v4 =>
  AJ v4
   ((DB N p1.fa ((fun (x : Int) => G9 N x))).bind fun v6 =>
   j1 (!v6))
   (j1 false))
  (j1 false)
def EX (N : Nat) (p0 : Ab) (p1 : List Ad) (j5 : Ac → Option (Int × Ac × Ak × Int)) : Nat → (Ac × Int) → Option (Int × Ac × Ak × Int)
 | 0, _ => none
 | n5 + 1, v5 =>
  AJ ((decide (v5.2 < (p1.length : Int))))
   ((BE p1 v5.2).bind fun v8 =>
   (E5 N p0 v5.1 v8).bind fun v9 =>
   Bb (fun (v10 : Bool) =>
    AJ v10
     (some (v5.2, (Ac.mk (([] : List Int)) (([] : List Int)) (([] : List Int))), (Ak.mk 0 0 0), 0))
     ((EV N p0 v9.1).bind fun v13 =>
     AJ ((v13.2.2 == 0))
      (some (v5.2, v13.1, v13.2.1, 0))
      (EX N p0 p1 j5 n5 (v9.1, (wI .i64 (v5.2 + 1))))))
   fun j10 =>
   AJ ((v9.2 != 0))
    (j10 true)
    (j10 (v8.ff == 4)))
   (j5 v5.1)
def Hl (N : Nat) (p0 : Ab) (p1 : List Ad) : Option (Int × Ac × Ak × Int) :=
 (GA N p0).bind fun v1 =>
 AJ ((v1.2 != 0))
  (some (0, (Ac.mk (([] : List Int)) (([] : List Int)) (([] : List Int))), (Ak.mk 0 0 0), v1.2))
  ((EV N p0 v1.1).bind fun v3 =>
  AJ ((v3.2.2 == 0))
   (some ((-1), v3.1, v3.2.1, 0))
   (EX N p0 p1 (fun (v6 : Ac) =>
    (H7 N p0 v6).bind fun v15 =>
    AJ ((!v15))
     (some ((p1.length : Int), (Ac.mk (([] : List Int)) (([] : List Int)) (([] : List Int))), (Ak.mk 0 0 0), 14))
     (some (0, (Ac.mk (([] : List Int)) (([] : List Int)) (([] : List Int))), (Ak.mk 0 0 0), 15))) N (v1.1, 0)))
def Ip (N : Nat) (p0 : Ab) (p1 : List Ad) : Option Bool :=
 (Hl N p0 p1).bind fun v1 =>
 some ((v1.2.2.2 == 15))
def Ev (N : Nat) (p0 : Ab) (p1 : Ac) : Option (Bool × Int) :=
 (EV N p0 p1).bind fun v1 =>
 AJ ((v1.2.2 == 0))
  (some (false, 0))
  (AJ ((v1.2.2 == 15))
   (some (true, 0))
   (some (false, v1.2.2)))
def El (_ : Nat) (p0 : Int) : Option ByteArray :=
 (BE (([(⟨#[]⟩ : ByteArray), (⟨#[115, 116, 97, 114, 116]⟩ : ByteArray), (⟨#[102, 105, 110, 105, 115, 104]⟩ : ByteArray), (⟨#[99, 108, 101, 97, 114]⟩ : ByteArray), (⟨#[97, 98, 111, 114, 116]⟩ : ByteArray)] : List ByteArray)) p0).bind fun v1 =>
 some v1
def FX (_ : Nat) (p0 : Int) : Option ByteArray := PE p0
def Fn (N : Nat) (p0 : Ad) : Option (ByteArray × Int) :=
 (E7 N p0).bind fun v1 =>
 AJ ((!v1))
  (some ((⟨#[]⟩ : ByteArray), 1))
  ((El N p0.ff).bind fun v3 =>
  (Dh (v3.size + ((⟨#[32]⟩ : ByteArray)).size ≤ 9223372036854775807)).bind fun _ =>
  (FX N p0.fh).bind fun v5 =>
  (Dh (((v3 ++ (⟨#[32]⟩ : ByteArray))).size + v5.size ≤ 9223372036854775807)).bind fun _ =>
  Bb (fun (v7 : ByteArray) =>
   some (v7, 0))
  fun j7 =>
  AJ ((p0.ff == 1))
   ((FX N p0.fi).bind fun v9 =>
   (Dh (((⟨#[32]⟩ : ByteArray)).size + v9.size ≤ 9223372036854775807)).bind fun _ =>
   (Dh ((((v3 ++ (⟨#[32]⟩ : ByteArray)) ++ v5)).size + (((⟨#[32]⟩ : ByteArray) ++ v9)).size ≤ 9223372036854775807)).bind fun _ =>
   j7 (((v3 ++ (⟨#[32]⟩ : ByteArray)) ++ v5) ++ ((⟨#[32]⟩ : ByteArray) ++ v9)))
   (j7 ((v3 ++ (⟨#[32]⟩ : ByteArray)) ++ v5)))
def AW (N : Nat) (p0 : List Ad) (p1 : Ad) (j1 : Unit → Option Int) : Nat → Int → Option Int
 | 0, _ => none
 | n1 + 1, v1 =>
  AJ ((decide (v1 < (p0.length : Int))))
   ((BE p0 v1).bind fun v4 =>
   AJ (((p1.ff == v4.ff) && ((p1.fh == v4.fh) && ((p1.fi == v4.fi) && true))))
    (some v1)
    (AW N p0 p1 j1 n1 (wI .i64 (v1 + 1))))
   (j1 ())
def BM (N : Nat) (p0 : List Ad) (p1 : Ad) : Option Int :=
 AW N p0 p1 (fun (_ : Unit) =>
  some ((-1))) N 0
def Bt (N : Nat) (p0 : List Ad) (p1 : Ad) : Option Bool :=
 (BM N p0 p1).bind fun v1 =>
 some ((decide (0 ≤ v1)))
def DC (N : Nat) (p0 : List Ad) (j4 : Unit → Option Int) : Nat → Int → Option Int
 | 0, _ => none
 | n4 + 1, v4 =>
  AJ ((decide (v4 < (p0.length : Int))))
   ((BE p0 v4).bind fun v7 =>
   (Fn N v7).bind fun v8 =>
   Bb (fun (v9 : Bool) =>
    AJ v9
     (some 1)
     (DC N p0 j4 n4 (wI .i64 (v4 + 1))))
   fun j9 =>
   AJ ((v8.2 != 0))
    (j9 true)
    (AJ ((v7.ff == 4))
     (j9 true)
     ((Dh ((0 : Int) ≤ v4 ∧ 0 ≤ (v4).toNat ∧ (v4).toNat ≤ p0.length)).bind fun _ =>
     (Bt N (((p0.drop 0).take ((v4).toNat - 0))) v7).bind fun v13 =>
     j9 v13)))
   (j4 ())
def FO (N : Nat) (p0 : List Ad) : Option Int :=
 Bb (fun (v1 : Bool) =>
  AJ v1
   (some 6)
   (DC N p0 (fun (_ : Unit) =>
    some 0) N 0))
 fun j1 =>
 AJ ((decide ((p0.length : Int) < 1)))
  (j1 true)
  (j1 (decide (5 < (p0.length : Int))))
def Di (N : Nat) (p0 : Ab) (p2 : List Ad) (j1 : Ac → Option (Ac × Bool)) : Nat → ((List Int) × (List Int) × (List Int) × Int) → Option (Ac × Bool)
 | 0, _ => none
 | n1 + 1, v1 =>
  AJ ((decide (v1.2.2.2 < (p2.length : Int))))
   ((BE p2 v1.2.2.2).bind fun v4 =>
   (E5 N p0 ((Ac.mk v1.1 v1.2.1 v1.2.2.1)) v4).bind fun v5 =>
   AJ ((v5.2 != 0))
    (some ((Ac.mk (([] : List Int)) (([] : List Int)) (([] : List Int))), false))
    ((Ev N p0 v5.1).bind fun v7 =>
    Bb (fun (v8 : Bool) =>
     AJ v8
      (some ((Ac.mk (([] : List Int)) (([] : List Int)) (([] : List Int))), false))
      (Di N p0 p2 j1 n1 (v5.1.fd, v5.1.fa, v5.1.fc, (wI .i64 (v1.2.2.2 + 1)))))
    fun j8 =>
    AJ ((v7.2 != 0))
     (j8 true)
     (j8 (!v7.1))))
   (j1 (Ac.mk v1.1 v1.2.1 v1.2.2.1))
def CF (N : Nat) (p0 : Ab) (p1 : Ac) (p2 : List Ad) : Option (Ac × Bool) :=
 Di N p0 p2 (fun (v2 : Ac) =>
  some (v2, true)) N (p1.fd, p1.fa, p1.fc, 0)
def AU (_ : Nat) (p0 : List Ad) : Option ((List Ad)) :=
 (Dh ((([] : List Ad)).length + p0.length ≤ Dl)).bind fun _ =>
 some ((([] : List Ad)) ++ p0)
def EF (_ : Nat) (p0 : Int) : Option Bool :=
 some ((p0 != p0))
def Ed (N : Nat) (p0 : Int) (p1 : Int) : Option Int :=
 (EF N p0).bind fun v1 =>
 (EF N p1).bind fun v2 =>
 AJ v1
  (AJ v2
   (some 0)
   (some ((-1))))
  (AJ v2
   (some 1)
   (AJ ((decide (p0 < p1)))
    (some ((-1)))
    (AJ ((decide (p1 < p0)))
     (some 1)
     (some 0))))
def BN (N : Nat) (p0 : List Int) (p1 : List Int) (j1 : Unit → Option Int) : Nat → Int → Option Int
 | 0, _ => none
 | n1 + 1, v1 =>
  AJ ((decide (v1 < (p0.length : Int))))
   ((BE p0 v1).bind fun v4 =>
   AJ ((decide ((p1.length : Int) ≤ v1)))
    (some 1)
    ((BE p1 v1).bind fun v6 =>
    (Ed N v4 v6).bind fun v7 =>
    AJ ((v7 != 0))
     (some v7)
     (BN N p0 p1 j1 n1 (wI .i64 (v1 + 1)))))
   (j1 ())
def B7 (N : Nat) (p0 : List Int) (p1 : List Int) : Option Int :=
 BN N p0 p1 (fun (_ : Unit) =>
  AJ ((decide ((p0.length : Int) < (p1.length : Int))))
   (some ((-1)))
   (some 0)) N 0
def DK (_ : Nat) (p0 : Int) : Option Bool :=
 some ((p0 != p0))
def Dc (N : Nat) (p0 : Int) (p1 : Int) : Option Int :=
 (DK N p0).bind fun v1 =>
 (DK N p1).bind fun v2 =>
 AJ v1
  (AJ v2
   (some 0)
   (some ((-1))))
  (AJ v2
   (some 1)
   (AJ ((decide (p0 < p1)))
    (some ((-1)))
    (AJ ((decide (p1 < p0)))
     (some 1)
     (some 0))))
def Bd (N : Nat) (p0 : List Int) (p1 : List Int) (j1 : Unit → Option Int) : Nat → Int → Option Int
 | 0, _ => none
 | n1 + 1, v1 =>
  AJ ((decide (v1 < (p0.length : Int))))
   ((BE p0 v1).bind fun v4 =>
   AJ ((decide ((p1.length : Int) ≤ v1)))
    (some 1)
    ((BE p1 v1).bind fun v6 =>
    (Dc N v4 v6).bind fun v7 =>
    AJ ((v7 != 0))
     (some v7)
     (Bd N p0 p1 j1 n1 (wI .i64 (v1 + 1)))))
   (j1 ())
def BK (N : Nat) (p0 : List Int) (p1 : List Int) : Option Int :=
 Bd N p0 p1 (fun (_ : Unit) =>
  AJ ((decide ((p0.length : Int) < (p1.length : Int))))
   (some ((-1)))
   (some 0)) N 0
def Ea (N : Nat) (p0 : List Int) (j1 : Unit → Option Int) : Nat → Int → Option Int
 | 0, _ => none
 | n1 + 1, v1 =>
  AJ ((decide (v1 < (p0.length : Int))))
   ((BE p0 v1).bind fun v4 =>
   AJ ((v4 != 0))
    (some v4)
    (Ea N p0 j1 n1 (wI .i64 (v1 + 1))))
   (j1 ())
def FP (N : Nat) (p0 : List Int) : Option Int :=
 Ea N p0 (fun (_ : Unit) =>
  some 0) N 0
def EC (N : Nat) (p0 : Ac) (p1 : Ac) : Option Int :=
 (B7 N p0.fd p1.fd).bind fun v1 =>
 (B7 N p0.fa p1.fa).bind fun v2 =>
 (BK N p0.fc p1.fc).bind fun v3 =>
 (FP N (([v1, v2, v3] : List Int))).bind fun v4 =>
 some v4
def Fl (N : Nat) (p0 : List Ad) (p1 : List Int) (p2 : List Int) (p3 : List Int) (p4 : List Av) (p5 : List Int) (p6 : List Int) (p7 : List Int) (p8 : List Int) (p9 : List Int) (p10 : List Int) (p11 : Option (List Ad)) : Option (Bool × (Option (List Ad))) :=
 (CF N ((Ab.mk p1 p2 p3 p4)) ((Ac.mk p5 p6 p7)) p0).bind fun v1 =>
 Bb (fun (v2 : Bool) =>
  AJ v2
   (some (false, (some p0)))
   (some (true, p11)))
 fun j2 =>
 AJ ((!v1.2))
  (j2 true)
  ((EC N v1.1 ((Ac.mk p8 p9 p10))).bind fun v4 =>
  j2 (v4 != 0))
def BH (_ : Nat) (p0 : List Ad) (p1 : Int) (p2 : Int) : Option (Nat × (List Ad)) :=
 (Dh ((0 : Int) ≤ p1 ∧ (p1).toNat ≤ (p2).toNat ∧ 0 ≤ p2 ∧ (p2).toNat ≤ ((p0.length : Int)).toNat ∧ 0 ≤ (p0.length : Int) ∧ ((p0.length : Int)).toNat ≤ p0.length)).bind fun _ =>
 AJ ((p1 == p2))
  (some (p0.length, p0))
  ((Dh ((0 : Int) ≤ p1 ∧ 0 ≤ (p1).toNat ∧ (p1).toNat ≤ p0.length)).bind fun _ =>
  (Dh ((0 : Int) ≤ p2 ∧ (p2).toNat ≤ p0.length ∧ p0.length ≤ p0.length)).bind fun _ =>
  (Dh ((p1).toNat + (((p0.drop ((p2).toNat)).take ((p0.length - (p2).toNat)))).length ≤ p0.length)).bind fun _ =>
  (Dh ((0 : Int) ≤ (((((p1).toNat + (((p0.drop ((p2).toNat)).take ((p0.length - (p2).toNat)))).length)) : Nat) : Int) ∧ (0 : Int) ≤ (p0.length : Int) ∧ ((((((p1).toNat + (((p0.drop ((p2).toNat)).take ((p0.length - (p2).toNat)))).length)) : Nat) : Int)).toNat ≤ ((p0.length : Int)).toNat ∧ ((p0.length : Int)).toNat ≤ (Hk p0 (0 + ((p1).toNat)) (((p0.drop ((p2).toNat)).take ((p0.length - (p2).toNat))))).length)).bind fun _ =>
  some (((p1).toNat + (((p0.drop ((p2).toNat)).take ((p0.length - (p2).toNat)))).length), Hk (Hk p0 (0 + ((p1).toNat)) (((p0.drop ((p2).toNat)).take ((p0.length - (p2).toNat))))) (((((((p1).toNat + (((p0.drop ((p2).toNat)).take ((p0.length - (p2).toNat)))).length)) : Nat) : Int)).toNat) (List.replicate ((((p0.length : Int)).toNat - ((((((p1).toNat + (((p0.drop ((p2).toNat)).take ((p0.length - (p2).toNat)))).length)) : Nat) : Int)).toNat)) ((Ad.mk 0 0 0)))))
def C3 (N : Nat) (p0 : List Ad) (p1 : List Ad) (p2 : List Int) (p3 : List Int) (p4 : List Int) (p5 : List Av) (p6 : List Int) (p7 : List Int) (p8 : List Int) (p9 : List Int) (p10 : List Int) (p11 : List Int) (rc : (List Ad) → (List Ad) → (List Int) → (List Int) → (List Int) → (List Av) → (List Int) → (List Int) → (List Int) → (List Int) → (List Int) → (List Int) → (Option (List Ad)) → Option (Bool × (Option (List Ad)))) (j3 : ((Option (List Ad))) → Option (Bool × (Option (List Ad)))) : Nat → ((Option (List Ad)) × Int) → Option (Bool × (Option (List Ad)))
 | 0, _ => none
 | n3 + 1, v3 =>
  AJ ((decide (v3.2 < (p1.length : Int))))
   ((BE p1 v3.2).bind fun v6 =>
   (AU N p0).bind fun v7 =>
   (Dh (v7.length + (([v6] : List Ad)).length ≤ Dl)).bind fun _ =>
   (AU N p1).bind fun v9 =>
   (BH N v9 v3.2 ((wI .i64 (v3.2 + 1)))).bind fun v10 =>
   (Dh (v10.1 ≤ v10.2.length)).bind fun _ =>
   (rc ((v7 ++ (([v6] : List Ad)))) ((v10.2.take v10.1)) p2 p3 p4 p5 p6 p7 p8 p9 p10 p11 v3.1).bind fun v13 =>
   AJ ((!v13.1))
    (some (false, v13.2))
    (C3 N p0 p1 p2 p3 p4 p5 p6 p7 p8 p9 p10 p11 rc j3 n3 (v13.2, (wI .i64 (v3.2 + 1)))))
   (j3 v3.1)
def EA (N : Nat) (rc : (List Ad) → (List Ad) → (List Int) → (List Int) → (List Int) → (List Av) → (List Int) → (List Int) → (List Int) → (List Int) → (List Int) → (List Int) → (Option (List Ad)) → Option (Bool × (Option (List Ad)))) (p0 : List Ad) (p1 : List Ad) (p2 : List Int) (p3 : List Int) (p4 : List Int) (p5 : List Av) (p6 : List Int) (p7 : List Int) (p8 : List Int) (p9 : List Int) (p10 : List Int) (p11 : List Int) (p12 : Option (List Ad)) : Option (Bool × (Option (List Ad))) :=
 AJ (((p1.length : Int) == 0))
  ((Fl N p0 p2 p3 p4 p5 p6 p7 p8 p9 p10 p11 p12).bind fun v2 =>
  some (v2.1, v2.2))
  (C3 N p0 p1 p2 p3 p4 p5 p6 p7 p8 p9 p10 p11 rc (fun (v4 : (Option (List Ad))) =>
   some (true, v4)) N (p12, 0))
def CI (N : Nat) : Nat → (List Ad) → (List Ad) → (List Int) → (List Int) → (List Int) → (List Av) → (List Int) → (List Int) → (List Int) → (List Int) → (List Int) → (List Int) → (Option (List Ad)) → Option (Bool × (Option (List Ad)))
 | 0, _, _, _, _, _, _, _, _, _, _, _, _, _ => none
 | k + 1, p0, p1, p2, p3, p4, p5, p6, p7, p8, p9, p10, p11, p12 => EA N (CI N k) p0 p1 p2 p3 p4 p5 p6 p7 p8 p9 p10 p11 p12
def Gw (N : Nat) (p0 : List Ad) (p1 : List Ad) (p2 : List Int) (p3 : List Int) (p4 : List Int) (p5 : List Av) (p6 : List Int) (p7 : List Int) (p8 : List Int) (p9 : List Int) (p10 : List Int) (p11 : List Int) (p12 : Option (List Ad)) : Option (Bool × (Option (List Ad))) := CI N N p0 p1 p2 p3 p4 p5 p6 p7 p8 p9 p10 p11 p12
def FB (N : Nat) (p0 : Ab) (p1 : Ac) (p2 : List Ad) : Option ((List Ad) × Int) :=
 (Ev N p0 p1).bind fun v1 =>
 AJ ((v1.2 != 0))
  (some (([] : List Ad), v1.2))
  ((FO N p2).bind fun v3 =>
  AJ ((v3 != 0))
   (some (([] : List Ad), v3))
   ((CF N p0 p1 p2).bind fun v5 =>
   Bb (fun (v6 : Bool) =>
    AJ v6
     ((AU N p2).bind fun v9 =>
     some (v9, 0))
     ((Gw N (([] : List Ad)) p2 p0.fb p0.fm p0.fo p0.fe p1.fd p1.fa p1.fc v5.1.fd v5.1.fa v5.1.fc ((none : Option (List Ad)))).bind fun v10 =>
     (Dh (Vl v10.2 = true)).bind fun _ =>
     AJ v10.2.isNone
      (some (([] : List Ad), 15))
      (some ((v10.2.getD []), 0))))
   fun j6 =>
   AJ ((!v1.1))
    (j6 true)
    (j6 (!v5.2))))
def D9 (N : Nat) (p0 : Ab) (p1 : Ac) (p2 : List Ad) : Option (Bool × Int) :=
 (Em N p0 p1).bind fun v1 =>
 AJ ((v1 != 0))
  (some (false, v1))
  ((FB N p0 p1 p2).bind fun v3 =>
  some ((v3.2 == 15), 0))
def GK (N : Nat) (p0 : Ab) (v5 : (List Int) × (List Int) × (List Int) × (List Ad) × (List (List Ad))) (j8 : Int → Option ((List (List Ad)) × Int)) : Nat → Int → Option ((List (List Ad)) × Int)
 | 0, _ => none
 | n8 + 1, v8 =>
  AJ ((decide (1 < v8)))
   ((Dh ((0 : Int) ≤ v8 ∧ 0 ≤ (v8).toNat ∧ (v8).toNat ≤ v5.2.2.2.1.length)).bind fun _ =>
   (D9 N p0 ((Ac.mk v5.1 v5.2.1 v5.2.2.1)) (((v5.2.2.2.1.drop 0).take ((v8).toNat - 0)))).bind fun v12 =>
   AJ v12.1
    (j8 v8)
    (GK N p0 v5 j8 n8 (wI .i64 (v8 - 1))))
   (j8 v8)
def Gx (N : Nat) (p0 : Ab) (j5 : ((List (List Ad))) → Option ((List (List Ad)) × Int)) : Nat → ((List Int) × (List Int) × (List Int) × (List Ad) × (List (List Ad))) → Option ((List (List Ad)) × Int)
 | 0, _ => none
 | n5 + 1, v5 =>
  AJ ((decide (0 < (v5.2.2.2.1.length : Int))))
   (GK N p0 v5 (fun (v9 : Int) =>
    (Dh ((0 : Int) ≤ v9 ∧ 0 ≤ (v9).toNat ∧ (v9).toNat ≤ v5.2.2.2.1.length)).bind fun _ =>
    (AU N (((v5.2.2.2.1.drop 0).take ((v9).toNat - 0)))).bind fun v15 =>
    (Dh (v5.2.2.2.2.length + (([v15] : List (List Ad))).length ≤ Dl)).bind fun _ =>
    (Dh ((0 : Int) ≤ v9 ∧ 0 ≤ (v9).toNat ∧ (v9).toNat ≤ v5.2.2.2.1.length)).bind fun _ =>
    (CF N p0 ((Ac.mk v5.1 v5.2.1 v5.2.2.1)) (((v5.2.2.2.1.drop 0).take ((v9).toNat - 0)))).bind fun v18 =>
    (Dh ((0 : Int) ≤ v9 ∧ (v9).toNat ≤ v5.2.2.2.1.length ∧ v5.2.2.2.1.length ≤ v5.2.2.2.1.length)).bind fun _ =>
    Gx N p0 j5 n5 (v18.1.fd, v18.1.fa, v18.1.fc, ((v5.2.2.2.1.drop (v9).toNat).take (v5.2.2.2.1.length - (v9).toNat)), v5.2.2.2.2 ++ (([v15] : List (List Ad))))) N (O3 5 ((v5.2.2.2.1.length : Int))))
   (j5 v5.2.2.2.2)
def JB (N : Nat) (p0 : Ab) (p1 : List Ad) : Option ((List (List Ad)) × Int) :=
 (GA N p0).bind fun v1 =>
 AJ ((v1.2 != 0))
  (some (([] : List (List Ad)), v1.2))
  ((Ip N p0 p1).bind fun v3 =>
  AJ ((!v3))
   (some (([] : List (List Ad)), 13))
   (Gx N p0 (fun (v6 : (List (List Ad))) =>
    some (v6, 0)) N (v1.1.fd, v1.1.fa, v1.1.fc, p1, ([] : List (List Ad)))))
def BU (N : Nat) (p0 : List (List Bool)) (p1 : Int) (p2 : Int) (j2 : Unit → Option Bool) : Nat → Int → Option Bool
 | 0, _ => none
 | n2 + 1, v2 =>
  AJ ((decide (v2 < p1)))
   ((BE p0 v2).bind fun v5 =>
   AJ (((v5.length : Int) != p2))
    (some false)
    (BU N p0 p1 p2 j2 n2 (wI .i64 (v2 + 1))))
   (j2 ())
def CS (N : Nat) (p0 : List (List Bool)) (p1 : Int) (p2 : Int) : Option Bool :=
 AJ (((p0.length : Int) != p1))
  (some false)
  (BU N p0 p1 p2 (fun (_ : Unit) =>
   some true) N 0)
def By (N : Nat) (p1 : Av) (j22 : Unit → Option Int) : Nat → Int → Option Int
 | 0, _ => none
 | n22 + 1, v22 =>
  AJ ((decide (v22 < (p1.fk.length : Int))))
   ((BE p1.fk v22).bind fun v25 =>
   (BE v25 v22).bind fun v26 =>
   AJ ((!v26))
    (some 1)
    (By N p1 j22 n22 (wI .i64 (v22 + 1))))
   (j22 ())
def DL (N : Nat) (p0 : Ab) (p1 : Av) : Option Int :=
 Bb (fun (v1 : Bool) =>
  AJ v1
   (some 1)
   (Bb (fun (v7 : Bool) =>
    AJ v7
     (some 4)
     ((BE p0.fb p1.fg).bind fun v12 =>
     (BE p0.fb p1.fj).bind fun v13 =>
     (CS N p1.fq v12 v13).bind fun v14 =>
     AJ ((!v14))
      (some 6)
      (AJ ((p1.ff != 4))
       (AJ (((p1.fk.length : Int) != 0))
        (some 6)
        (some 0))
       ((BE p0.fb p1.fg).bind fun v18 =>
       (BE p0.fb p1.fg).bind fun v19 =>
       (CS N p1.fk v18 v19).bind fun v20 =>
       AJ ((!v20))
        (some 6)
        (By N p1 (fun (_ : Unit) =>
         some 0) N 0)))))
   fun j7 =>
   AJ ((decide (p1.fg < 0)))
    (j7 true)
    (AJ ((decide ((p0.fb.length : Int) ≤ p1.fg)))
     (j7 true)
     (AJ ((decide (p1.fj < 0)))
      (j7 true)
      (j7 (decide ((p0.fb.length : Int) ≤ p1.fj)))))))
 fun j1 =>
 AJ ((decide (p1.ff < 1)))
  (j1 true)
  (AJ ((decide (4 < p1.ff)))
   (j1 true)
   (AJ p1.fp
    ((AR N p1).bind fun v5 =>
    j1 v5)
    (j1 false)))
def A2 (N : Nat) (p0 : Ab) (j7 : Unit → Option Int) : Nat → Int → Option Int
 | 0, _ => none
 | n7 + 1, v7 =>
  AJ ((decide (v7 < (p0.fb.length : Int))))
   ((BE p0.fb v7).bind fun v10 =>
   Bb (fun (v11 : Bool) =>
    AJ v11
     (some 7)
     (A2 N p0 j7 n7 (wI .i64 (v7 + 1))))
   fun j11 =>
   AJ ((decide (v10 < 1)))
    (j11 true)
    (AJ ((decide (6 < v10)))
     (j11 true)
     ((BE p0.fm v7).bind fun v14 =>
     AJ ((decide (v14 < 0)))
      (j11 true)
      ((BE p0.fm v7).bind fun v16 =>
      AJ ((decide (v10 ≤ v16)))
       (j11 true)
       ((BE p0.fo v7).bind fun v18 =>
       AJ ((decide (v18 < 0)))
        (j11 true)
        ((BE p0.fo v7).bind fun v20 =>
        j11 (decide (v10 ≤ v20))))))))
   (j7 ())
def AY (N : Nat) (p0 : Ab) (j22 : Unit → Option Int) : Nat → Int → Option Int
 | 0, _ => none
 | n22 + 1, v22 =>
  AJ ((decide (v22 < (p0.fe.length : Int))))
   ((BE p0.fe v22).bind fun v25 =>
   (DL N p0 v25).bind fun v26 =>
   AJ ((v26 != 0))
    (some v26)
    (AY N p0 j22 n22 (wI .i64 (v22 + 1))))
   (j22 ())
def BW (N : Nat) (p0 : Ab) : Option Int :=
 Bb (fun (v1 : Bool) =>
  AJ v1
   (some 3)
   (Bb (fun (v4 : Bool) =>
    AJ v4
     (some 6)
     (A2 N p0 (fun (_ : Unit) =>
      AY N p0 (fun (_ : Unit) =>
       some 0) N 0) N 0))
   fun j4 =>
   AJ (((p0.fm.length : Int) != (p0.fb.length : Int)))
    (j4 true)
    (j4 ((p0.fo.length : Int) != (p0.fb.length : Int)))))
 fun j1 =>
 AJ ((decide (6 < (p0.fb.length : Int))))
  (j1 true)
  (j1 (decide (12 < (p0.fe.length : Int))))
def DV (N : Nat) (p0 : Ab) (j3 : ((List Int) × (List Int)) → Option (Ac × Int)) : Nat → ((List Int) × (List Int) × Int) → Option (Ac × Int)
 | 0, _ => none
 | n3 + 1, v3 =>
  AJ ((decide (v3.2.2 < (p0.fb.length : Int))))
   ((BE p0.fm v3.2.2).bind fun v6 =>
   (Dh (v3.1.length + (([v6] : List Int)).length ≤ Dl)).bind fun _ =>
   (Dh (v3.2.1.length + (([(-1)] : List Int)).length ≤ Dl)).bind fun _ =>
   DV N p0 j3 n3 (v3.1 ++ (([v6] : List Int)), v3.2.1 ++ (([(-1)] : List Int)), (wI .i64 (v3.2.2 + 1))))
   (j3 (v3.1, v3.2.1))
def DU (N : Nat) (p0 : Ab) (j9 : ((List Int)) → Option (Ac × Int)) : Nat → ((List Int) × Int) → Option (Ac × Int)
 | 0, _ => none
 | n9 + 1, v9 =>
  AJ ((decide (v9.2 < (p0.fe.length : Int))))
   (Bb (fun (v12 : Int) =>
    (Dh (v9.1.length + (([v12] : List Int)).length ≤ Dl)).bind fun _ =>
    DU N p0 j9 n9 (v9.1 ++ (([v12] : List Int)), (wI .i64 (v9.2 + 1))))
   fun j12 =>
   (BE p0.fe v9.2).bind fun v13 =>
   (AR N v13).bind fun v14 =>
   AJ v14
    ((BE p0.fe v9.2).bind fun v16 =>
    (BE p0.fm v16.fg).bind fun v17 =>
    (Dh (0 ≤ v17)).bind fun _ =>
    j12 (C7 .u8 1 v17))
    (j12 0))
   (j9 v9.1)
def Fu (N : Nat) (p0 : Ab) : Option (Ac × Int) :=
 (BW N p0).bind fun v1 =>
 AJ ((v1 != 0))
  (some ((Ac.mk (([] : List Int)) (([] : List Int)) (([] : List Int))), v1))
  (DV N p0 (fun (v4 : (List Int) × (List Int)) =>
   DU N p0 (fun (v10 : (List Int)) =>
    some ((Ac.mk v4.1 v4.2 v10), 0)) N (([] : List Int), 0)) N (([] : List Int), ([] : List Int), 0))
def Ff (N : Nat) (p0 : Ab) (p1 : List (List Ad)) (j5 : ((List Ac)) → Option ((List Ac) × Int)) : Nat → (Ac × (List Ac) × Int) → Option ((List Ac) × Int)
 | 0, _ => none
 | n5 + 1, v5 =>
  AJ ((decide (v5.2.2 < (p1.length : Int))))
   ((BE p1 v5.2.2).bind fun v8 =>
   (D9 N p0 v5.1 v8).bind fun v9 =>
   Bb (fun (v10 : Bool) =>
    AJ v10
     (some (([] : List Ac), 13))
     ((CF N p0 v5.1 v8).bind fun v13 =>
     (Dh (v5.2.1.length + (([v13.1] : List Ac)).length ≤ Dl)).bind fun _ =>
     Ff N p0 p1 j5 n5 (v13.1, v5.2.1 ++ (([v13.1] : List Ac)), (wI .i64 (v5.2.2 + 1)))))
   fun j10 =>
   AJ ((v9.2 != 0))
    (j10 true)
    (j10 (!v9.1)))
   (j5 v5.2.1)
def GM (N : Nat) (p0 : Ab) (p1 : List (List Ad)) : Option ((List Ac) × Int) :=
 (Cf N p0).bind fun v1 =>
 AJ ((v1 != 0))
  (some (([] : List Ac), v1))
  ((GA N p0).bind fun v3 =>
  AJ ((v3.2 != 0))
   (some (([] : List Ac), v3.2))
   (Ff N p0 p1 (fun (v6 : (List Ac)) =>
    some (v6, 0)) N (v3.1, ([v3.1] : List Ac), 0)))
def D8 (N : Nat) (p0 : List Ad) (p1 : List Ad) (j2 : Unit → Option Bool) : Nat → Int → Option Bool
 | 0, _ => none
 | n2 + 1, v2 =>
  AJ ((decide (v2 < (p0.length : Int))))
   ((BE p0 v2).bind fun v5 =>
   (BE p1 v2).bind fun v6 =>
   AJ ((!((v5.ff == v6.ff) && ((v5.fh == v6.fh) && ((v5.fi == v6.fi) && true)))))
    (some false)
    (D8 N p0 p1 j2 n2 (wI .i64 (v2 + 1))))
   (j2 ())
def Ez (N : Nat) (p0 : List Ad) (p1 : List Ad) : Option Bool :=
 AJ (((p0.length : Int) != (p1.length : Int)))
  (some false)
  (D8 N p0 p1 (fun (_ : Unit) =>
   some true) N 0)
def D7 (N : Nat) (p0 : List (List Ad)) (p1 : List (List Ad)) (j2 : Unit → Option Bool) : Nat → Int → Option Bool
 | 0, _ => none
 | n2 + 1, v2 =>
  AJ ((decide (v2 < (p0.length : Int))))
   ((BE p0 v2).bind fun v5 =>
   (BE p1 v2).bind fun v6 =>
   (Ez N v5 v6).bind fun v7 =>
   AJ ((!v7))
    (some false)
    (D7 N p0 p1 j2 n2 (wI .i64 (v2 + 1))))
   (j2 ())
def FH (N : Nat) (p0 : List (List Ad)) (p1 : List (List Ad)) : Option Bool :=
 AJ (((p0.length : Int) != (p1.length : Int)))
  (some false)
  (D7 N p0 p1 (fun (_ : Unit) =>
   some true) N 0)
def H4 (N : Nat) (p0 : Ab) (p1 : List (List Ad)) : Option Bool :=
 (GM N p0 p1).bind fun v1 =>
 AJ ((v1.2 != 0))
  (some false)
  ((BE v1.1 0).bind fun v3 =>
  (Ev N p0 v3).bind fun v4 =>
  Bb (fun (v5 : Bool) =>
   some v5)
  fun j5 =>
  AJ ((v4.2 == 0))
   (AJ v4.1
    ((BE v1.1 ((wI .i64 ((v1.1.length : Int) - 1)))).bind fun v8 =>
    (H7 N p0 v8).bind fun v9 =>
    j5 v9)
    (j5 false))
   (j5 false))
def ER (N : Nat) (v4 : List Ad) (j5 : Int → Option Int) : Nat → (Int × Int) → Option Int
 | 0, _ => none
 | n5 + 1, v5 =>
  AJ ((decide (v5.2 < (v4.length : Int))))
   (ER N v4 j5 n5 ((O3 1000000000000000 ((wI .i64 (v5.1 * (O3 ((wI .i64 (v5.2 + 1))) 1000))))), (wI .i64 (v5.2 + 1))))
   (j5 v5.1)
def EW (N : Nat) (p0 : List (List Ad)) (j1 : Int → Option Int) : Nat → (Int × Int) → Option Int
 | 0, _ => none
 | n1 + 1, v1 =>
  AJ ((decide (v1.2 < (p0.length : Int))))
   ((BE p0 v1.2).bind fun v4 =>
   ER N v4 (fun (v6 : Int) =>
    EW N p0 j1 n1 (v6, (wI .i64 (v1.2 + 1)))) N (v1.1, 0))
   (j1 v1.1)
def Ho (N : Nat) (p0 : List (List Ad)) : Option Int :=
 EW N p0 (fun (v2 : Int) =>
  some v2) N (1, 0)
def DP (N : Nat) : Option Bool :=
 (EU N).bind fun v1 =>
 (JB N v1.1 v1.2).bind fun v2 =>
 (Fu N v1.1).bind fun v3 =>
 (FB N v1.1 v3.1 v1.2).bind fun v4 =>
 (Dh ((0 : Int) ≤ 2 ∧ 0 ≤ (2 : Int).toNat ∧ (2 : Int).toNat ≤ v1.2.length)).bind fun _ =>
 (D9 N v1.1 v3.1 (((v1.2.drop 0).take ((2 : Int).toNat - 0)))).bind fun v6 =>
 (GM N v1.1 v2.1).bind fun v7 =>
 Bb (fun (v8 : Bool) =>
  some v8)
 fun j8 =>
 AJ ((v2.2 == 0))
  ((Dh ((0 : Int) ≤ 2 ∧ 0 ≤ (2 : Int).toNat ∧ (2 : Int).toNat ≤ v1.2.length)).bind fun _ =>
  (Dh ((0 : Int) ≤ 2 ∧ (2 : Int).toNat ≤ v1.2.length ∧ v1.2.length ≤ v1.2.length)).bind fun _ =>
  (FH N v2.1 (([((v1.2.drop 0).take ((2 : Int).toNat - 0)), ((v1.2.drop (2 : Int).toNat).take (v1.2.length - (2 : Int).toNat))] : List (List Ad)))).bind fun v12 =>
  AJ v12
   (AJ ((v4.2 == 0))
    ((BE v1.2 0).bind fun v15 =>
    (BE v1.2 2).bind fun v16 =>
    (BE v1.2 3).bind fun v17 =>
    (BE v1.2 1).bind fun v18 =>
    (Ez N v4.1 (([v15, v16, v17, v18] : List Ad))).bind fun v19 =>
    AJ v19
     (AJ v6.1
      (AJ ((v6.2 == 0))
       (AJ ((v7.2 == 0))
        (AJ (((v7.1.length : Int) == 3))
         ((H4 N v1.1 v2.1).bind fun v25 =>
         AJ v25
          ((Ho N v2.1).bind fun v27 =>
          j8 (v27 == 4))
          (j8 false))
         (j8 false))
        (j8 false))
       (j8 false))
      (j8 false))
     (j8 false))
    (j8 false))
   (j8 false))
  (j8 false)
def CM (_ : Nat) (p0 : List Int) (p1 : Int) : Option Int :=
 AJ ((decide (p1 < (p0.length : Int))))
  ((BE p0 p1).bind fun v2 =>
  some ((wI .i64 v2)))
  (some 0)
def Bl (_ : Nat) (p0 : Ac) (p1 : Int) : Option Int :=
 (BE p0.fd p1).bind fun v1 =>
 (Dh (0 ≤ v1)).bind fun _ =>
 Bb (fun (v3 : Int) =>
  some v3)
 fun j3 =>
 (BE p0.fa p1).bind fun v4 =>
 AJ ((decide (0 ≤ v4)))
  ((BE p0.fa p1).bind fun v6 =>
  (Dh (0 ≤ v6)).bind fun _ =>
  j3 (KX .u8 ((C7 .u8 1 v1)) ((C7 .u8 1 v6))))
  (j3 (C7 .u8 1 v1))
def B4 (N : Nat) (p0 : Ab) (p1 : Bk) (j1 : ((List Int) × (List Int)) → Option Ac) : Nat → ((List Int) × (List Int) × Int) → Option Ac
 | 0, _ => none
 | n1 + 1, v1 =>
  AJ ((decide (v1.2.2 < (p0.fb.length : Int))))
   ((BE p0.fb v1.2.2).bind fun v4 =>
   (CM N p1.fd v1.2.2).bind fun v5 =>
   (Dh (v4 ≠ 0)).bind fun _ =>
   Bb (fun (v7 : Int) =>
    (Dh (v1.1.length + (([(Int.tmod v5 v4)] : List Int)).length ≤ Dl)).bind fun _ =>
    (Dh (v1.2.1.length + (([v7] : List Int)).length ≤ Dl)).bind fun _ =>
    B4 N p0 p1 j1 n1 (v1.1 ++ (([(Int.tmod v5 v4)] : List Int)), v1.2.1 ++ (([v7] : List Int)), (wI .i64 (v1.2.2 + 1))))
   fun j7 =>
   (CM N p1.fa v1.2.2).bind fun v8 =>
   (Dh (v4 ≠ 0)).bind fun _ =>
   AJ ((decide (0 < (Int.tmod v8 v4))))
    ((Dh (v4 ≠ 0)).bind fun _ =>
    j7 (Int.tmod ((wI .i64 ((Int.tmod v5 v4) + (Int.tmod v8 v4)))) v4))
    (j7 (-1)))
   (j1 (v1.1, v1.2.1))
def A4 (N : Nat) (p0 : Ab) (p1 : Bk) (v2 : (List Int) × (List Int)) (j14 : ((List Int)) → Option Ac) : Nat → ((List Int) × Int) → Option Ac
 | 0, _ => none
 | n14 + 1, v14 =>
  AJ ((decide (v14.2 < (p0.fe.length : Int))))
   ((BE p0.fe v14.2).bind fun v17 =>
   Bb (fun (v18 : Int) =>
    (Dh (v14.1.length + (([v18] : List Int)).length ≤ Dl)).bind fun _ =>
    A4 N p0 p1 v2 j14 n14 (v14.1 ++ (([v18] : List Int)), (wI .i64 (v14.2 + 1))))
   fun j18 =>
   (AR N v17).bind fun v19 =>
   AJ v19
    ((BE p0.fb v17.fg).bind fun v21 =>
    (Dh (0 ≤ v21)).bind fun _ =>
    (Bl N ((Ac.mk v2.1 v2.2 v14.1)) v17.fg).bind fun v23 =>
    (CM N p1.fc v14.2).bind fun v24 =>
    j18 (KX .u8 v23 ((EN .u8 ((wI .u8 v24)) ((wI .u8 ((C7 .u8 1 v21) - 1)))))))
    (j18 0))
   (j14 v14.1)
def DR (N : Nat) (p0 : Ab) (p1 : Bk) : Option Ac :=
 B4 N p0 p1 (fun (v2 : (List Int) × (List Int)) =>
  A4 N p0 p1 v2 (fun (v15 : (List Int)) =>
   some ((Ac.mk v2.1 v2.2 v15))) N (([] : List Int), 0)) N (([] : List Int), ([] : List Int), 0)
def BJ (N : Nat) (p0 : Ab) (p1 : Ac) (j7 : Unit → Option Int) : Nat → Int → Option Int
 | 0, _ => none
 | n7 + 1, v7 =>
  AJ ((decide (v7 < (p0.fb.length : Int))))
   (Bb (fun (v10 : Bool) =>
    AJ v10
     (some 7)
     ((BE p1.fd v7).bind fun v21 =>
     (BE p1.fa v7).bind fun v22 =>
     AJ ((v21 == v22))
      (some 1)
      (BJ N p0 p1 j7 n7 (wI .i64 (v7 + 1)))))
   fun j10 =>
   (BE p1.fd v7).bind fun v11 =>
   AJ ((decide (v11 < 0)))
    (j10 true)
    ((BE p1.fd v7).bind fun v13 =>
    (BE p0.fb v7).bind fun v14 =>
    AJ ((decide (v14 ≤ v13)))
     (j10 true)
     ((BE p1.fa v7).bind fun v16 =>
     AJ ((decide (v16 < (-1))))
      (j10 true)
      ((BE p1.fa v7).bind fun v18 =>
      (BE p0.fb v7).bind fun v19 =>
      j10 (decide (v19 ≤ v18))))))
   (j7 ())
def BD (N : Nat) (p0 : Ab) (p1 : Ac) (j24 : Unit → Option Int) : Nat → Int → Option Int
 | 0, _ => none
 | n24 + 1, v24 =>
  AJ ((decide (v24 < (p0.fe.length : Int))))
   ((BE p0.fe v24).bind fun v27 =>
   (BE p0.fb v27.fg).bind fun v28 =>
   (Dh (0 ≤ v28)).bind fun _ =>
   Bb (fun (v30 : Bool) =>
    AJ v30
     (some 1)
     (BD N p0 p1 j24 n24 (wI .i64 (v24 + 1))))
   fun j30 =>
   (AR N v27).bind fun v31 =>
   AJ ((!v31))
    ((BE p1.fc v24).bind fun v33 =>
    AJ ((v33 != 0))
     (j30 true)
     ((AR N v27).bind fun v35 =>
     AJ v35
      ((BE p1.fc v24).bind fun v37 =>
      AJ (((CC .u8 v37 ((wI .u8 ((C7 .u8 1 v28) - 1)))) != 0))
       (j30 true)
       ((Bl N p1 v27.fg).bind fun v39 =>
       (BE p1.fc v24).bind fun v40 =>
       j30 ((CC .u8 v39 v40) != 0)))
      (j30 false)))
    ((AR N v27).bind fun v41 =>
    AJ v41
     ((BE p1.fc v24).bind fun v43 =>
     AJ (((CC .u8 v43 ((wI .u8 ((C7 .u8 1 v28) - 1)))) != 0))
      (j30 true)
      ((Bl N p1 v27.fg).bind fun v45 =>
      (BE p1.fc v24).bind fun v46 =>
      j30 ((CC .u8 v45 v46) != 0)))
     (j30 false)))
   (j24 ())
def Cv (N : Nat) (p0 : Ab) (p1 : Ac) : Option Int :=
 (BW N p0).bind fun v1 =>
 AJ ((v1 != 0))
  (some v1)
  (Bb (fun (v3 : Bool) =>
   AJ v3
    (some 6)
    (BJ N p0 p1 (fun (_ : Unit) =>
     BD N p0 p1 (fun (_ : Unit) =>
      some 0) N 0) N 0))
  fun j3 =>
  AJ (((p1.fd.length : Int) != (p0.fb.length : Int)))
   (j3 true)
   (AJ (((p1.fa.length : Int) != (p0.fb.length : Int)))
    (j3 true)
    (j3 ((p1.fc.length : Int) != (p0.fe.length : Int)))))
def C0 (_ : Nat) (p0 : Ad) : Option Bool :=
 Bb (fun (v1 : Bool) =>
  some v1)
 fun j1 =>
 AJ ((decide (1 ≤ p0.ff)))
  (AJ ((decide (p0.ff ≤ 4)))
   (AJ ((decide (0 ≤ p0.fh)))
    (AJ ((decide (0 ≤ p0.fi)))
     (AJ ((p0.ff == 1))
      (j1 true)
      (j1 (p0.fi == 0)))
     (j1 false))
    (j1 false))
   (j1 false))
  (j1 false)
def Cr (N : Nat) (p0 : List Ad) (v4 : Int) (j13 : Unit → Option Int) : Nat → Int → Option Int
 | 0, _ => none
 | n13 + 1, v13 =>
  AJ ((decide (v13 < v4)))
   ((BE p0 v13).bind fun v16 =>
   (BE p0 v4).bind fun v17 =>
   AJ (((v16.ff == v17.ff) && ((v16.fh == v17.fh) && ((v16.fi == v17.fi) && true))))
    (some 1)
    (Cr N p0 v4 j13 n13 (wI .i64 (v13 + 1))))
   (j13 ())
def BO (N : Nat) (p0 : List Ad) (j4 : Unit → Option Int) : Nat → Int → Option Int
 | 0, _ => none
 | n4 + 1, v4 =>
  AJ ((decide (v4 < (p0.length : Int))))
   (Bb (fun (v7 : Bool) =>
    AJ v7
     (some 1)
     (Cr N p0 v4 (fun (_ : Unit) =>
      BO N p0 j4 n4 (wI .i64 (v4 + 1))) N 0))
   fun j7 =>
   (BE p0 v4).bind fun v8 =>
   AJ ((v8.ff == 4))
    (j7 true)
    ((BE p0 v4).bind fun v10 =>
    (C0 N v10).bind fun v11 =>
    j7 (!v11)))
   (j4 ())
def D0 (N : Nat) (p0 : List Ad) : Option Int :=
 Bb (fun (v1 : Bool) =>
  AJ v1
   (some 6)
   (BO N p0 (fun (_ : Unit) =>
    some 0) N 0))
 fun j1 =>
 AJ ((decide ((p0.length : Int) < 1)))
  (j1 true)
  (j1 (decide (5 < (p0.length : Int))))
def Dx (_ : Nat) (p0 : Ac) : Option Ac :=
 (Dh ((([] : List Int)).length + p0.fd.length ≤ Dl)).bind fun _ =>
 (Dh ((([] : List Int)).length + p0.fa.length ≤ Dl)).bind fun _ =>
 (Dh ((([] : List Int)).length + p0.fc.length ≤ Dl)).bind fun _ =>
 some ((Ac.mk ((([] : List Int)) ++ p0.fd) ((([] : List Int)) ++ p0.fa) ((([] : List Int)) ++ p0.fc)))
def BY (N : Nat) (p0 : Ac) (j1 : Int → Option ((List Ac))) : Nat → (Int × Int) → Option ((List Ac))
 | 0, _ => none
 | n1 + 1, v1 =>
  AJ ((decide (v1.2 < (p0.fa.length : Int))))
   (Bb (fun (v4 : Int) =>
    BY N p0 j1 n1 (v4, (wI .i64 (v1.2 + 1))))
   fun j4 =>
   (BE p0.fa v1.2).bind fun v5 =>
   AJ ((decide (0 ≤ v5)))
    (j4 (wI .i64 (v1.1 + 1)))
    (j4 v1.1))
   (j1 v1.1)
def Bv (N : Nat) (p0 : Ac) (v7 : (List Ac) × Int) (j12 : ((List Int)) → Option ((List Ac))) : Nat → ((List Int) × Int × Int) → Option ((List Ac))
 | 0, _ => none
 | n12 + 1, v12 =>
  AJ ((decide (v12.2.2 < (p0.fa.length : Int))))
   (Bb (fun (v15 : (List Int) × Int) =>
    Bv N p0 v7 j12 n12 (v15.1, v15.2, (wI .i64 (v12.2.2 + 1))))
   fun j15 =>
   (BE p0.fa v12.2.2).bind fun v16 =>
   AJ ((decide (v16 < 0)))
    (j15 (v12.1, v12.2.1))
    (Bb (fun (v18 : (List Int)) =>
     j15 (v18, (wI .i64 (v12.2.1 + 1))))
    fun j18 =>
    (Dh (0 ≤ v12.2.1)).bind fun _ =>
    AJ (((Int.tmod ((EO .i64 v7.2 v12.2.1)) 2) == 1))
     ((BE v12.1 v12.2.2).bind fun _ =>
     j18 (v12.1.set ((v12.2.2).toNat) ((-1))))
     (j18 v12.1)))
   (j12 v12.1)
def Bh (N : Nat) (p0 : Ac) (v2 : Int) (j7 : ((List Ac)) → Option ((List Ac))) : Nat → ((List Ac) × Int) → Option ((List Ac))
 | 0, _ => none
 | n7 + 1, v7 =>
  (Dh (0 ≤ v2)).bind fun _ =>
  AJ ((decide (v7.2 < (C7 .i64 1 v2))))
   ((Dx N p0).bind fun v11 =>
   Bv N p0 v7 (fun (v13 : (List Int)) =>
    (Dh (v7.1.length + (([(Ac.mk v11.fd v13 v11.fc)] : List Ac)).length ≤ Dl)).bind fun _ =>
    Bh N p0 v2 j7 n7 (v7.1 ++ (([(Ac.mk v11.fd v13 v11.fc)] : List Ac)), (wI .i64 (v7.2 + 1)))) N (v11.fa, 0, 0))
   (j7 v7.1)
def DE (N : Nat) (p0 : Ac) : Option ((List Ac)) :=
 BY N p0 (fun (v2 : Int) =>
  Bh N p0 v2 (fun (v8 : (List Ac)) =>
   some v8) N (([] : List Ac), 0)) N (0, 0)
def BV (_ : Nat) (p0 : Int) (p1 : Int) : Option Bool :=
 (Dh (0 ≤ p1)).bind fun _ =>
 some (((EN .u8 ((EO .u8 p0 p1)) 1) == 1))
def A9 (N : Nat) (p0 : Ab) (p1 : Ac) (v1 : (List Ak) × Int) (v4 : Av) (v10 : (List Ak) × Int) (j17 : ((List Ak) × Bool) → Option ((List Ak))) : Nat → ((List Ak) × Bool × Int) → Option ((List Ak))
 | 0, _ => none
 | n17 + 1, v17 =>
  (BE p0.fb v4.fj).bind fun v19 =>
  AJ ((decide (v17.2.2 < v19)))
   (Bb (fun (v21 : (List Ak) × Bool) =>
    A9 N p0 p1 v1 v4 v10 j17 n17 (v21.1, v21.2, (wI .i64 (v17.2.2 + 1))))
   fun j21 =>
   (Bl N p1 v4.fj).bind fun v22 =>
   (BV N v22 v17.2.2).bind fun v23 =>
   AJ ((!v23))
    (j21 (v17.1, v17.2.1))
    (Bb (fun (v25 : Bool) =>
     Bb (fun (v29 : Bool) =>
      AJ v29
       ((Dh (v17.1.length + (([(Ak.mk v1.2 v10.2 v17.2.2)] : List Ak)).length ≤ Dl)).bind fun _ =>
       j21 (v17.1 ++ (([(Ak.mk v1.2 v10.2 v17.2.2)] : List Ak)), v25))
       (j21 (v17.1, v25)))
     fun j29 =>
     AJ ((!v4.fp))
      ((BE v4.fq v10.2).bind fun v31 =>
      (BE v31 v17.2.2).bind fun v32 =>
      j29 (!v32))
      (j29 false))
    fun j25 =>
    AJ v17.2.1
     (j25 true)
     ((BE v4.fq v10.2).bind fun v27 =>
     (BE v27 v17.2.2).bind fun v28 =>
     j25 v28)))
   (j17 (v17.1, v17.2.1))
def Bm (N : Nat) (p0 : Ab) (p1 : Ac) (v1 : (List Ak) × Int) (v4 : Av) (v6 : Int) (j10 : ((List Ak)) → Option ((List Ak))) : Nat → ((List Ak) × Int) → Option ((List Ak))
 | 0, _ => none
 | n10 + 1, v10 =>
  (BE p0.fb v4.fg).bind fun v12 =>
  AJ ((decide (v10.2 < v12)))
   (Bb (fun (v14 : (List Ak)) =>
    Bm N p0 p1 v1 v4 v6 j10 n10 (v14, (wI .i64 (v10.2 + 1))))
   fun j14 =>
   (BV N v6 v10.2).bind fun v15 =>
   AJ ((!v15))
    (j14 v10.1)
    (A9 N p0 p1 v1 v4 v10 (fun (v18 : (List Ak) × Bool) =>
     Bb (fun (v35 : Bool) =>
      AJ v35
       ((Dh (v18.1.length + (([(Ak.mk v1.2 v10.2 ((-1)))] : List Ak)).length ≤ Dl)).bind fun _ =>
       j14 (v18.1 ++ (([(Ak.mk v1.2 v10.2 ((-1)))] : List Ak))))
       (j14 v18.1))
     fun j35 =>
     AJ v4.fp
      (j35 (!v18.2))
      (j35 false)) N (v10.1, false, 0)))
   (j10 v10.1)
def B1 (N : Nat) (p0 : Ab) (p1 : Ac) (j1 : ((List Ak)) → Option ((List Ak))) : Nat → ((List Ak) × Int) → Option ((List Ak))
 | 0, _ => none
 | n1 + 1, v1 =>
  AJ ((decide (v1.2 < (p0.fe.length : Int))))
   ((BE p0.fe v1.2).bind fun v4 =>
   (Bl N p1 v4.fg).bind fun v5 =>
   Bb (fun (v6 : Int) =>
    Bm N p0 p1 v1 v4 v6 (fun (v11 : (List Ak)) =>
     B1 N p0 p1 j1 n1 (v11, (wI .i64 (v1.2 + 1)))) N (v1.1, 0))
   fun j6 =>
   (AR N v4).bind fun v7 =>
   AJ v7
    ((BE p1.fc v1.2).bind fun v9 =>
    j6 v9)
    (j6 v5))
   (j1 v1.1)
def DN (N : Nat) (p0 : Ab) (p1 : Ac) : Option ((List Ak)) :=
 B1 N p0 p1 (fun (v2 : (List Ak)) =>
  some v2) N (([] : List Ak), 0)
def Dy (N : Nat) (p0 : Ab) (p1 : Ac) : Option Bool :=
 (DN N p0 p1).bind fun v1 =>
 some (((v1.length : Int) == 0))
def BG (N : Nat) (p0 : Ab) (v1 : (List Ac)) (j2 : Unit → Option Bool) : Nat → Int → Option Bool
 | 0, _ => none
 | n2 + 1, v2 =>
  AJ ((decide (v2 < (v1.length : Int))))
   ((BE v1 v2).bind fun v5 =>
   (Dy N p0 v5).bind fun v6 =>
   AJ ((!v6))
    (some false)
    (BG N p0 v1 j2 n2 (wI .i64 (v2 + 1))))
   (j2 ())
def Cq (N : Nat) (p0 : Ab) (p1 : Ac) : Option Bool :=
 (DE N p1).bind fun v1 =>
 BG N p0 v1 (fun (_ : Unit) =>
  some true) N 0
def Du (N : Nat) (v1 : (List (List Int)) × Int) (v4 : (List (List Int)) × Int) (v7 : (List (List Int)) × Int) (j11 : Bool → Option ((List (List Int)))) : Nat → (Bool × Int) → Option ((List (List Int)))
 | 0, _ => none
 | n11 + 1, v11 =>
  (BE v1.1 v4.2).bind fun v13 =>
  AJ ((decide (v11.2 < (v13.length : Int))))
   (Bb (fun (v15 : Bool) =>
    Du N v1 v4 v7 j11 n11 (v15, (wI .i64 (v11.2 + 1))))
   fun j15 =>
   AJ v11.1
    (j15 true)
    ((BE v1.1 v4.2).bind fun v17 =>
    (BE v17 v11.2).bind fun v18 =>
    j15 (v18 == v7.2)))
   (j11 v11.1)
def DJ (N : Nat) (p0 : Int) (v1 : (List (List Int)) × Int) (v4 : (List (List Int)) × Int) (j7 : ((List (List Int))) → Option ((List (List Int)))) : Nat → ((List (List Int)) × Int) → Option ((List (List Int)))
 | 0, _ => none
 | n7 + 1, v7 =>
  AJ ((decide (v7.2 < p0)))
   (Bb (fun (v10 : (List (List Int))) =>
    DJ N p0 v1 v4 j7 n7 (v10, (wI .i64 (v7.2 + 1))))
   fun j10 =>
   Du N v1 v4 v7 (fun (v12 : Bool) =>
    AJ ((!v12))
     ((BE v1.1 v4.2).bind fun v20 =>
     (Dh ((([] : List Int)).length + v20.length ≤ Dl)).bind fun _ =>
     (Dh (((([] : List Int)) ++ v20).length + (([v7.2] : List Int)).length ≤ Dl)).bind fun _ =>
     (Dh (v7.1.length + (([((([] : List Int)) ++ v20) ++ (([v7.2] : List Int))] : List (List Int))).length ≤ Dl)).bind fun _ =>
     j10 (v7.1 ++ (([((([] : List Int)) ++ v20) ++ (([v7.2] : List Int))] : List (List Int)))))
     (j10 v7.1)) N (false, 0))
   (j7 v7.1)
def DH (N : Nat) (p0 : Int) (v1 : (List (List Int)) × Int) (j4 : ((List (List Int))) → Option ((List (List Int)))) : Nat → ((List (List Int)) × Int) → Option ((List (List Int)))
 | 0, _ => none
 | n4 + 1, v4 =>
  AJ ((decide (v4.2 < (v1.1.length : Int))))
   (DJ N p0 v1 v4 (fun (v8 : (List (List Int))) =>
    DH N p0 v1 j4 n4 (v8, (wI .i64 (v4.2 + 1)))) N (v4.1, 0))
   (j4 v4.1)
def DI (N : Nat) (p0 : Int) (j1 : ((List (List Int))) → Option ((List (List Int)))) : Nat → ((List (List Int)) × Int) → Option ((List (List Int)))
 | 0, _ => none
 | n1 + 1, v1 =>
  AJ ((decide (v1.2 < p0)))
   (DH N p0 v1 (fun (v5 : (List (List Int))) =>
    DI N p0 j1 n1 (v5, (wI .i64 (v1.2 + 1)))) N (([] : List (List Int)), 0))
   (j1 v1.1)
def Dw (N : Nat) (p0 : Int) : Option ((List (List Int))) :=
 DI N p0 (fun (v2 : (List (List Int))) =>
  some v2) N (([([] : List Int)] : List (List Int)), 0)
def Bz (N : Nat) (p0 : Ab) (p2 : Ad) (j12 : ((List Int)) → Option (Ac × Bool)) : Nat → ((List Int) × Int) → Option (Ac × Bool)
 | 0, _ => none
 | n12 + 1, v12 =>
  AJ ((decide (v12.2 < (p0.fe.length : Int))))
   (Bb (fun (v15 : (List Int)) =>
    Bz N p0 p2 j12 n12 (v15, (wI .i64 (v12.2 + 1))))
   fun j15 =>
   Bb (fun (v16 : Bool) =>
    AJ v16
     ((BE v12.1 v12.2).bind fun v22 =>
     (Dh (0 ≤ p2.fi)).bind fun _ =>
     (BE v12.1 v12.2).bind fun _ =>
     j15 (v12.1.set ((v12.2).toNat) ((KX .u8 v22 ((C7 .u8 1 p2.fi))))))
     (j15 v12.1))
   fun j16 =>
   (BE p0.fe v12.2).bind fun v17 =>
   AJ ((v17.fg == p2.fh))
    ((BE p0.fe v12.2).bind fun v19 =>
    (AR N v19).bind fun v20 =>
    j16 v20)
    (j16 false))
   (j12 v12.1)
def Bn (N : Nat) (p0 : Ab) (p1 : Ac) (p2 : Ad) (v32 : Av) (v35 : Int) (j38 : Unit → Option (Ac × Bool)) : Nat → Int → Option (Ac × Bool)
 | 0, _ => none
 | n38 + 1, v38 =>
  (BE p0.fb v32.fg).bind fun v40 =>
  AJ ((decide (v38 < v40)))
   (Bb (fun (v42 : Bool) =>
    Bb (fun (v47 : Bool) =>
     AJ v47
      (some ((Ac.mk (([] : List Int)) (([] : List Int)) (([] : List Int))), false))
      (Bn N p0 p1 p2 v32 v35 j38 n38 (wI .i64 (v38 + 1))))
    fun j47 =>
    AJ v42
     (AJ ((v32.ff == 4))
      ((BE v32.fk v38).bind fun v50 =>
      (BE p1.fd v32.fg).bind fun v51 =>
      (BE v50 v51).bind fun v52 =>
      j47 (!v52))
      (j47 false))
     (j47 false))
   fun j42 =>
   (BE p1.fc p2.fh).bind fun v43 =>
   (BV N v43 v38).bind fun v44 =>
   AJ v44
    ((BV N v35 v38).bind fun v46 =>
    j42 (!v46))
    (j42 false))
   (j38 ())
def C2 (N : Nat) (p0 : Ab) (p1 : Ac) (p2 : Ad) : Option (Ac × Bool) :=
 (Dh ((([] : List Int)).length + p1.fd.length ≤ Dl)).bind fun _ =>
 (Dh ((([] : List Int)).length + p1.fa.length ≤ Dl)).bind fun _ =>
 (Dh ((([] : List Int)).length + p1.fc.length ≤ Dl)).bind fun _ =>
 Bb (fun (v4 : (List Int) × (List Int) × (List Int)) =>
  some ((Ac.mk v4.1 v4.2.1 v4.2.2), true))
 fun j4 =>
 AJ ((p2.ff == 1))
  (Bb (fun (v6 : Bool) =>
   AJ v6
    (some ((Ac.mk (([] : List Int)) (([] : List Int)) (([] : List Int))), false))
    ((BE ((([] : List Int)) ++ p1.fa) p2.fh).bind fun _ =>
    Bz N p0 p2 (fun (v13 : (List Int)) =>
     j4 ((([] : List Int)) ++ p1.fd, ((([] : List Int)) ++ p1.fa).set ((p2.fh).toNat) p2.fi, v13)) N ((([] : List Int)) ++ p1.fc, 0)))
  fun j6 =>
  (BE p1.fa p2.fh).bind fun v7 =>
  AJ ((decide (0 ≤ v7)))
   (j6 true)
   ((BE p1.fd p2.fh).bind fun v9 =>
   j6 (p2.fi == v9)))
  (AJ ((p2.ff == 2))
   ((BE p1.fa p2.fh).bind fun v26 =>
   AJ ((decide (v26 < 0)))
    (some ((Ac.mk (([] : List Int)) (([] : List Int)) (([] : List Int))), false))
    ((BE p1.fa p2.fh).bind fun v28 =>
    (BE ((([] : List Int)) ++ p1.fd) p2.fh).bind fun _ =>
    (BE ((([] : List Int)) ++ p1.fa) p2.fh).bind fun _ =>
    j4 (((([] : List Int)) ++ p1.fd).set ((p2.fh).toNat) v28, ((([] : List Int)) ++ p1.fa).set ((p2.fh).toNat) ((-1)), (([] : List Int)) ++ p1.fc)))
   (AJ ((p2.ff == 3))
    ((BE p0.fe p2.fh).bind fun v32 =>
    (AR N v32).bind fun v33 =>
    AJ ((!v33))
     (some ((Ac.mk (([] : List Int)) (([] : List Int)) (([] : List Int))), false))
     ((Bl N p1 v32.fg).bind fun v35 =>
     (BE p1.fc p2.fh).bind fun v36 =>
     AJ ((v36 == v35))
      (some ((Ac.mk (([] : List Int)) (([] : List Int)) (([] : List Int))), false))
      (Bn N p0 p1 p2 v32 v35 (fun (_ : Unit) =>
       (BE ((([] : List Int)) ++ p1.fc) p2.fh).bind fun _ =>
       j4 ((([] : List Int)) ++ p1.fd, (([] : List Int)) ++ p1.fa, ((([] : List Int)) ++ p1.fc).set ((p2.fh).toNat) v35)) N 0)))
    ((BE p1.fa p2.fh).bind fun v55 =>
    AJ ((decide (v55 < 0)))
     (some ((Ac.mk (([] : List Int)) (([] : List Int)) (([] : List Int))), false))
     ((BE ((([] : List Int)) ++ p1.fa) p2.fh).bind fun _ =>
     j4 ((([] : List Int)) ++ p1.fd, ((([] : List Int)) ++ p1.fa).set ((p2.fh).toNat) ((-1)), (([] : List Int)) ++ p1.fc)))))
def DM (N : Nat) (p0 : Ab) (p1 : Ac) (p2 : Ad) : Option (Ac × Int) :=
 (Cv N p0 p1).bind fun v1 =>
 AJ ((v1 != 0))
  (some ((Ac.mk (([] : List Int)) (([] : List Int)) (([] : List Int))), v1))
  ((C0 N p2).bind fun v3 =>
  AJ ((!v3))
   (some ((Ac.mk (([] : List Int)) (([] : List Int)) (([] : List Int))), 1))
   (Bb (fun (v5 : Bool) =>
    AJ v5
     (some ((Ac.mk (([] : List Int)) (([] : List Int)) (([] : List Int))), 4))
     (Bb (fun (v11 : Bool) =>
      AJ v11
       (some ((Ac.mk (([] : List Int)) (([] : List Int)) (([] : List Int))), 4))
       ((C2 N p0 p1 p2).bind fun v15 =>
       AJ ((!v15.2))
        (some ((Ac.mk (([] : List Int)) (([] : List Int)) (([] : List Int))), 11))
        (some (v15.1, 0))))
     fun j11 =>
     AJ ((p2.ff == 1))
      ((BE p0.fb p2.fh).bind fun v13 =>
      j11 (decide (v13 ≤ p2.fi)))
      (j11 false)))
   fun j5 =>
   AJ ((p2.ff == 3))
    (AJ ((decide ((p0.fe.length : Int) ≤ p2.fh)))
     (j5 true)
     (AJ ((p2.ff != 3))
      (j5 (decide ((p0.fb.length : Int) ≤ p2.fh)))
      (j5 false)))
    (AJ ((p2.ff != 3))
     (j5 (decide ((p0.fb.length : Int) ≤ p2.fh)))
     (j5 false))))
def B6 (N : Nat) (p0 : Ab) (p2 : List Ad) (j1 : Ac → Option (Ac × Bool)) : Nat → ((List Int) × (List Int) × (List Int) × Int) → Option (Ac × Bool)
 | 0, _ => none
 | n1 + 1, v1 =>
  AJ ((decide (v1.2.2.2 < (p2.length : Int))))
   ((BE p2 v1.2.2.2).bind fun v4 =>
   (DM N p0 ((Ac.mk v1.1 v1.2.1 v1.2.2.1)) v4).bind fun v5 =>
   Bb (fun (v6 : Bool) =>
    AJ v6
     (some ((Ac.mk (([] : List Int)) (([] : List Int)) (([] : List Int))), false))
     (B6 N p0 p2 j1 n1 (v5.1.fd, v5.1.fa, v5.1.fc, (wI .i64 (v1.2.2.2 + 1)))))
   fun j6 =>
   AJ ((v5.2 != 0))
    (j6 true)
    ((Cq N p0 v5.1).bind fun v8 =>
    j6 (!v8)))
   (j1 (Ac.mk v1.1 v1.2.1 v1.2.2.1))
def CD (N : Nat) (p0 : Ab) (p1 : Ac) (p2 : List Ad) : Option (Ac × Bool) :=
 B6 N p0 p2 (fun (v2 : Ac) =>
  some (v2, true)) N (p1.fd, p1.fa, p1.fc, 0)
def B9 (N : Nat) (p0 : List Ad) (p1 : List Int) (j1 : ((List Ad)) → Option ((List Ad))) : Nat → ((List Ad) × Int) → Option ((List Ad))
 | 0, _ => none
 | n1 + 1, v1 =>
  AJ ((decide (v1.2 < (p1.length : Int))))
   ((BE p1 v1.2).bind fun v4 =>
   (BE p0 v4).bind fun v5 =>
   (Dh (v1.1.length + (([v5] : List Ad)).length ≤ Dl)).bind fun _ =>
   B9 N p0 p1 j1 n1 (v1.1 ++ (([v5] : List Ad)), (wI .i64 (v1.2 + 1))))
   (j1 v1.1)
def Dd (N : Nat) (p0 : List Ad) (p1 : List Int) : Option ((List Ad)) :=
 B9 N p0 p1 (fun (v2 : (List Ad)) =>
  some v2) N (([] : List Ad), 0)
def CG (N : Nat) (p0 : List Int) (p1 : List Int) (j1 : Unit → Option Int) : Nat → Int → Option Int
 | 0, _ => none
 | n1 + 1, v1 =>
  Bb (fun (v3 : Bool) =>
   AJ v3
    ((BE p0 v1).bind fun v6 =>
    (BE p1 v1).bind fun v7 =>
    AJ ((decide (v6 < v7)))
     (some ((-1)))
     ((BE p0 v1).bind fun v9 =>
     (BE p1 v1).bind fun v10 =>
     AJ ((decide (v10 < v9)))
      (some 1)
      (CG N p0 p1 j1 n1 (wI .i64 (v1 + 1)))))
    (j1 ()))
  fun j3 =>
  AJ ((decide (v1 < (p0.length : Int))))
   (j3 (decide (v1 < (p1.length : Int))))
   (j3 false)
def CJ (N : Nat) (p0 : List Int) (p1 : List Int) : Option Int :=
 CG N p0 p1 (fun (_ : Unit) =>
  AJ ((decide ((p0.length : Int) < (p1.length : Int))))
   (some ((-1)))
   (AJ ((decide ((p1.length : Int) < (p0.length : Int))))
    (some 1)
    (some 0))) N 0
def B8 (N : Nat) (p0 : List Int) (j1 : ((List Int)) → Option ((List Int))) : Nat → ((List Int) × Int) → Option ((List Int))
 | 0, _ => none
 | n1 + 1, v1 =>
  AJ ((decide (v1.2 < (p0.length : Int))))
   ((BE p0 v1.2).bind fun v4 =>
   (Dh (v1.1.length + (([(wI .i64 v4)] : List Int)).length ≤ Dl)).bind fun _ =>
   B8 N p0 j1 n1 (v1.1 ++ (([(wI .i64 v4)] : List Int)), (wI .i64 (v1.2 + 1))))
   (j1 v1.1)
def Cz (N : Nat) (p0 : List Int) : Option ((List Int)) :=
 B8 N p0 (fun (v2 : (List Int)) =>
  some v2) N (([] : List Int), 0)
def Df (N : Nat) (p0 : Ac) (p1 : Ac) : Option Int :=
 (CJ N p0.fd p1.fd).bind fun v1 =>
 AJ ((v1 != 0))
  (some v1)
  ((CJ N p0.fa p1.fa).bind fun v3 =>
  AJ ((v3 != 0))
   (some v3)
   ((Cz N p0.fc).bind fun v5 =>
   (Cz N p1.fc).bind fun v6 =>
   (CJ N v5 v6).bind fun v7 =>
   some v7))
def DO (N : Nat) (p0 : Ac) (p1 : Ac) : Option Bool :=
 (Df N p0 p1).bind fun v1 =>
 some ((v1 == 0))
def CE (N : Nat) (p0 : Ab) (p1 : Ac) (p2 : List Ad) (v8 : (List (List Int))) (v9 : Ac × Bool) (j10 : Unit → Option ((List Ad) × Int)) : Nat → Int → Option ((List Ad) × Int)
 | 0, _ => none
 | n10 + 1, v10 =>
  AJ ((decide (v10 < (v8.length : Int))))
   ((BE v8 v10).bind fun v13 =>
   (Dd N p2 v13).bind fun v14 =>
   (CD N p0 p1 v14).bind fun v15 =>
   Bb (fun (v16 : Bool) =>
    AJ v16
     (some (v14, 0))
     (CE N p0 p1 p2 v8 v9 j10 n10 (wI .i64 (v10 + 1))))
   fun j16 =>
   AJ ((!v15.2))
    (j16 true)
    ((DO N v15.1 v9.1).bind fun v18 =>
    j16 (!v18)))
   (j10 ())
def DF (N : Nat) (p0 : Ab) (p1 : Ac) (p2 : List Ad) : Option ((List Ad) × Int) :=
 (Cv N p0 p1).bind fun v1 =>
 AJ ((v1 != 0))
  (some (([] : List Ad), v1))
  ((D0 N p2).bind fun v3 =>
  AJ ((v3 != 0))
   (some (([] : List Ad), v3))
   ((Cq N p0 p1).bind fun v5 =>
   AJ ((!v5))
    ((Dh ((([] : List Ad)).length + p2.length ≤ Dl)).bind fun _ =>
    some ((([] : List Ad)) ++ p2, 0))
    ((Dw N ((p2.length : Int))).bind fun v8 =>
    (CD N p0 p1 p2).bind fun v9 =>
    CE N p0 p1 p2 v8 v9 (fun (_ : Unit) =>
     some (([] : List Ad), 15)) N 0)))
def D3 (N : Nat) (p0 : Ab) (p1 : Ac) (p2 : List Ad) : Option (Bool × Int) :=
 (DF N p0 p1 p2).bind fun v1 =>
 AJ ((v1.2 == 15))
  (some (true, 0))
  ((Cv N p0 p1).bind fun v3 =>
  AJ ((v3 != 0))
   (some (false, v3))
   (some (false, 0)))
def CU (N : Nat) (p0 : BF) (p1 : Bk) (p2 : List Ad) : Option Bool :=
 (DT N p0).bind fun v1 =>
 Bb (fun (v2 : Bool) =>
  AJ v2
   ((DP N).bind fun v7 =>
   some v7)
   ((DR N v1.1 p1).bind fun v8 =>
   (D9 N v1.1 v8 p2).bind fun v9 =>
   (D3 N v1.1 v8 p2).bind fun v10 =>
   Bb (fun (v11 : Bool) =>
    some v11)
   fun j11 =>
   AJ ((v9.1 == v10.1))
    (j11 (v9.2 == v10.2))
    (j11 false)))
 fun j2 =>
 (DP N).bind fun v3 =>
 AJ ((!v3))
  (j2 true)
  (AJ ((!v1.2))
   (j2 true)
   (j2 (decide (7 < (p2.length : Int)))))
def JA {α : Type} (w : α → Prop) (xs : List α) : Prop := ∀ x, x ∈ xs → w x
def Ty (n : Int) : Prop := (Lit.int .i64 n).wf = true
def IE (n : Int) : Prop := (Lit.int .u8 n).wf = true
def UQ (n : Int) : Prop := (Lit.int .u16 n).wf = true
def GX (x : F1) : Prop := IE x.ff ∧ IE x.fg ∧ IE x.fj ∧ (fun _ => True) x.fp ∧ UQ x.ft ∧ UQ x.fu ∧ True
def Ek (x : BF) : Prop := (JA IE) x.fb ∧ (JA IE) x.fm ∧ (JA IE) x.fo ∧ (JA GX) x.fr ∧ True
def En (x : Bk) : Prop := (JA IE) x.fd ∧ (JA IE) x.fa ∧ (JA IE) x.fc ∧ True
def Jf (x : Ad) : Prop := Ty x.ff ∧ Ty x.fh ∧ Ty x.fi ∧ True
open Go.RowKit
open Go.Proofs
abbrev K4 (x : F1) : List C := [.pure (.val (.int .u8 x.ff)), .pure (.val (.int .u8 x.fg)), .pure (.val (.int .u8 x.fj)), .pure (.val (.bool x.fp)), .pure (.val (.int .u16 x.ft)), .pure (.val (.int .u16 x.fu))]
abbrev Cj (x : BF) : List C := [sC (x.fb.map B3), sC (x.fm.map B3), sC (x.fo.map B3), sC (x.fr.map FA)]
abbrev CP (x : Bk) : List C := [sC (x.fd.map B3), sC (x.fa.map B3), sC (x.fc.map B3)]
abbrev Cc (x : Ad) : List C := [iC x.ff, iC x.fh, iC x.fi]
abbrev A7 (x : Av) : List C := [iC x.ff, iC x.fg, iC x.fj, .pure (.val (.bool x.fp)), sC (x.fq.map (Fj eB)), sC (x.fk.map (Fj eB))]
abbrev Ah (x : Ab) : List C := [sC (x.fb.map An), sC (x.fm.map An), sC (x.fo.map An), sC (x.fe.map AQ)]
abbrev Ay (x : Ac) : List C := [sC (x.fd.map An), sC (x.fa.map An), sC (x.fc.map B3)]
abbrev Gr (x : Ak) : List C := [iC x.fv, iC x.fw, iC x.fy]
theorem Az : Tryz.prog.follows .mixedOrders = true := by kernel_rfl
theorem wq {X : Hz} {y : Code} {id : Nat} {ops : Array Oper} {dr : Bool} {Q : Exit → St → Prop} {st : St} {n : Nat} (hn : ops.size = n) (h : A3 Tryz.prog X ops dr (fun st' => W Tryz.prog X y Q st') n 0 st []) : W Tryz.prog X (.seq (.region id ops dr) y) Q st := XW Az hn h
theorem wp {X : Hz} {y z : Code} {id : Nat} {ops : Array Oper} {dr : Bool} {Q : Exit → St → Prop} {st : St} {n : Nat} (hn : ops.size = n) (h : A3 Tryz.prog X ops dr (fun st' => W Tryz.prog X y (Nj (W Tryz.prog X z Q) Q) st') n 0 st []) : W Tryz.prog X (.seq (.seq (.region id ops dr) y) z) Q st := AO (XW Az hn h)
theorem Py : Ef Tryz.prog 22 false = true := by kernel_rfl
theorem UR : Ef Tryz.prog 23 false = true := by kernel_rfl
theorem XB : Ef Tryz.prog 25 true = true := by kernel_rfl
theorem W7 : Ef Tryz.prog 27 true = true := by kernel_rfl
theorem Rk : Ef Tryz.prog 28 false = true := by kernel_rfl
theorem AV : Ef Tryz.prog 29 false = true := by kernel_rfl
theorem BL : Ef Tryz.prog 3 false = true := by kernel_rfl
theorem GD : Ef Tryz.prog 30 false = true := by kernel_rfl
theorem CL : Ef Tryz.prog 32 true = true := by kernel_rfl
theorem Ge : Ef Tryz.prog 36 false = true := by kernel_rfl
theorem A0 : Ef Tryz.prog 38 true = true := by kernel_rfl
theorem QZ : Ef Tryz.prog 4 false = true := by kernel_rfl
theorem VC : Ef Tryz.prog 5 false = true := by kernel_rfl
theorem Gb : Ef Tryz.prog 54 true = true := by kernel_rfl
theorem VM : Ef Tryz.prog 58 false = true := by kernel_rfl
theorem XQ : Ef Tryz.prog 60 true = true := by kernel_rfl
theorem Je : Ef Tryz.prog 61 false = true := by kernel_rfl
theorem Gv : Ef Tryz.prog 63 true = true := by kernel_rfl
theorem I9 : Ef Tryz.prog 74 false = true := by kernel_rfl
theorem X0 : Ef Tryz.prog 9 false = true := by kernel_rfl
theorem LM : Ef Tryz.prog 93 true = true := by kernel_rfl
theorem N3 : Ef Tryz.prog 96 false = true := by kernel_rfl
theorem XX : NA Tryz.prog 4 = true := by kernel_rfl
theorem VG : EH Tryz.prog 28 24 = true := by kernel_rfl
theorem Ws : EH Tryz.prog 29 24 = true := by kernel_rfl
theorem Ja : EH Tryz.prog 3 8 = true := by kernel_rfl
theorem Sz : EH Tryz.prog 38 72 = true := by kernel_rfl
theorem U3 : EH Tryz.prog 4 1 = true := by kernel_rfl
theorem QR : EH Tryz.prog 54 24 = true := by kernel_rfl
theorem Wl : EH Tryz.prog 63 80 = true := by kernel_rfl
theorem Ni : EH Tryz.prog 74 1 = true := by kernel_rfl
theorem QJ : EH Tryz.prog 93 24 = true := by kernel_rfl
theorem Wx : EH Tryz.prog 96 24 = true := by kernel_rfl
theorem NZ : Ct Tryz.prog 25 0 0 = true := by kernel_rfl
theorem Th : Ct Tryz.prog 25 1 1 = true := by kernel_rfl
theorem Td : Ct Tryz.prog 25 2 2 = true := by kernel_rfl
theorem OE : Ct Tryz.prog 25 3 3 = true := by kernel_rfl
theorem S8 : Ct Tryz.prog 27 0 0 = true := by kernel_rfl
theorem Tv : Ct Tryz.prog 27 1 1 = true := by kernel_rfl
theorem Tw : Ct Tryz.prog 27 2 2 = true := by kernel_rfl
theorem Bg : Ct Tryz.prog 32 0 0 = true := by kernel_rfl
theorem F4 : Ct Tryz.prog 32 1 1 = true := by kernel_rfl
theorem H8 : Ct Tryz.prog 32 2 2 = true := by kernel_rfl
theorem Cd : Ct Tryz.prog 32 3 3 = true := by kernel_rfl
theorem Ce : Ct Tryz.prog 38 0 0 = true := by kernel_rfl
theorem Bf : Ct Tryz.prog 38 1 1 = true := by kernel_rfl
theorem BZ : Ct Tryz.prog 38 2 2 = true := by kernel_rfl
theorem DS : Ct Tryz.prog 54 0 0 = true := by kernel_rfl
theorem D6 : Ct Tryz.prog 54 1 1 = true := by kernel_rfl
theorem FC : Ct Tryz.prog 54 2 2 = true := by kernel_rfl
theorem TZ : Ct Tryz.prog 60 0 0 = true := by kernel_rfl
theorem Ue : Ct Tryz.prog 60 1 1 = true := by kernel_rfl
theorem TT : Ct Tryz.prog 60 2 2 = true := by kernel_rfl
theorem T1 : Ct Tryz.prog 60 3 3 = true := by kernel_rfl
theorem Uc : Ct Tryz.prog 60 4 4 = true := by kernel_rfl
theorem TP : Ct Tryz.prog 60 5 5 = true := by kernel_rfl
theorem Fa : Ct Tryz.prog 63 0 0 = true := by kernel_rfl
theorem Ck : Ct Tryz.prog 63 1 1 = true := by kernel_rfl
theorem Hy : Ct Tryz.prog 63 2 2 = true := by kernel_rfl
theorem If : Ct Tryz.prog 63 3 3 = true := by kernel_rfl
theorem IZ : Ct Tryz.prog 63 4 4 = true := by kernel_rfl
theorem FZ : Ct Tryz.prog 63 5 5 = true := by kernel_rfl
theorem T9 : AA Tryz.prog 10 = true := by kernel_rfl
theorem WI : AA Tryz.prog 100 = true := by kernel_rfl
theorem Uo : AA Tryz.prog 101 = true := by kernel_rfl
theorem UD : AA Tryz.prog 102 = true := by kernel_rfl
theorem Qy : AA Tryz.prog 103 = true := by kernel_rfl
theorem Wp : AA Tryz.prog 104 = true := by kernel_rfl
theorem WD : AA Tryz.prog 105 = true := by kernel_rfl
theorem V2 : AA Tryz.prog 106 = true := by kernel_rfl
theorem VZ : AA Tryz.prog 107 = true := by kernel_rfl
theorem We : AA Tryz.prog 109 = true := by kernel_rfl
theorem Xp : AA Tryz.prog 11 = true := by kernel_rfl
theorem WA : AA Tryz.prog 110 = true := by kernel_rfl
theorem VT : AA Tryz.prog 111 = true := by kernel_rfl
theorem V1 : AA Tryz.prog 112 = true := by kernel_rfl
theorem UC : AA Tryz.prog 117 = true := by kernel_rfl
theorem Wi : AA Tryz.prog 118 = true := by kernel_rfl
theorem WC : AA Tryz.prog 119 = true := by kernel_rfl
theorem Wh : AA Tryz.prog 12 = true := by kernel_rfl
theorem Wn : AA Tryz.prog 125 = true := by kernel_rfl
theorem WZ : AA Tryz.prog 13 = true := by kernel_rfl
theorem Wj : AA Tryz.prog 14 = true := by kernel_rfl
theorem WY : AA Tryz.prog 15 = true := by kernel_rfl
theorem WN : AA Tryz.prog 17 = true := by kernel_rfl
theorem WO : AA Tryz.prog 18 = true := by kernel_rfl
theorem Wd : AA Tryz.prog 20 = true := by kernel_rfl
theorem MP : AA Tryz.prog 21 = true := by kernel_rfl
theorem VS : AA Tryz.prog 22 = true := by kernel_rfl
theorem Xb : AA Tryz.prog 23 = true := by kernel_rfl
theorem Xz : AA Tryz.prog 24 = true := by kernel_rfl
theorem VQ : AA Tryz.prog 25 = true := by kernel_rfl
theorem XK : AA Tryz.prog 26 = true := by kernel_rfl
theorem Vc : AA Tryz.prog 27 = true := by kernel_rfl
theorem Rn : AA Tryz.prog 28 = true := by kernel_rfl
theorem TA : AA Tryz.prog 29 = true := by kernel_rfl
theorem U2 : AA Tryz.prog 30 = true := by kernel_rfl
theorem U9 : AA Tryz.prog 31 = true := by kernel_rfl
theorem Xe : AA Tryz.prog 32 = true := by kernel_rfl
theorem SY : AA Tryz.prog 33 = true := by kernel_rfl
theorem TV : AA Tryz.prog 34 = true := by kernel_rfl
theorem Wo : AA Tryz.prog 35 = true := by kernel_rfl
theorem XI : AA Tryz.prog 36 = true := by kernel_rfl
theorem WP : AA Tryz.prog 37 = true := by kernel_rfl
theorem W5 : AA Tryz.prog 38 = true := by kernel_rfl
theorem Wy : AA Tryz.prog 39 = true := by kernel_rfl
theorem W3 : AA Tryz.prog 40 = true := by kernel_rfl
theorem Wm : AA Tryz.prog 41 = true := by kernel_rfl
theorem WU : AA Tryz.prog 42 = true := by kernel_rfl
theorem Xg : AA Tryz.prog 43 = true := by kernel_rfl
theorem U8 : AA Tryz.prog 44 = true := by kernel_rfl
theorem WR : AA Tryz.prog 45 = true := by kernel_rfl
theorem V3 : AA Tryz.prog 46 = true := by kernel_rfl
theorem Wg : AA Tryz.prog 48 = true := by kernel_rfl
theorem Vb : AA Tryz.prog 50 = true := by kernel_rfl
theorem UH : AA Tryz.prog 51 = true := by kernel_rfl
theorem UL : AA Tryz.prog 52 = true := by kernel_rfl
theorem UF : AA Tryz.prog 53 = true := by kernel_rfl
theorem XH : AA Tryz.prog 54 = true := by kernel_rfl
theorem Xh : AA Tryz.prog 55 = true := by kernel_rfl
theorem VH : AA Tryz.prog 56 = true := by kernel_rfl
theorem W6 : AA Tryz.prog 57 = true := by kernel_rfl
theorem XM : AA Tryz.prog 58 = true := by kernel_rfl
theorem V6 : AA Tryz.prog 59 = true := by kernel_rfl
theorem Xi : AA Tryz.prog 60 = true := by kernel_rfl
theorem VE : AA Tryz.prog 61 = true := by kernel_rfl
theorem Xr : AA Tryz.prog 62 = true := by kernel_rfl
theorem Xs : AA Tryz.prog 63 = true := by kernel_rfl
theorem Xn : AA Tryz.prog 64 = true := by kernel_rfl
theorem Xy : AA Tryz.prog 65 = true := by kernel_rfl
theorem SP : AA Tryz.prog 66 = true := by kernel_rfl
theorem W1 : AA Tryz.prog 67 = true := by kernel_rfl
theorem Xj : AA Tryz.prog 68 = true := by kernel_rfl
theorem W4 : AA Tryz.prog 69 = true := by kernel_rfl
theorem XZ : AA Tryz.prog 7 = true := by kernel_rfl
theorem XN : AA Tryz.prog 70 = true := by kernel_rfl
theorem XE : AA Tryz.prog 71 = true := by kernel_rfl
theorem XG : AA Tryz.prog 72 = true := by kernel_rfl
theorem Uf : AA Tryz.prog 75 = true := by kernel_rfl
theorem WL : AA Tryz.prog 76 = true := by kernel_rfl
theorem W0 : AA Tryz.prog 77 = true := by kernel_rfl
theorem W9 : AA Tryz.prog 78 = true := by kernel_rfl
theorem VX : AA Tryz.prog 79 = true := by kernel_rfl
theorem XS : AA Tryz.prog 8 = true := by kernel_rfl
theorem XD : AA Tryz.prog 80 = true := by kernel_rfl
theorem VW : AA Tryz.prog 81 = true := by kernel_rfl
theorem XJ : AA Tryz.prog 82 = true := by kernel_rfl
theorem Xf : AA Tryz.prog 83 = true := by kernel_rfl
theorem Xu : AA Tryz.prog 84 = true := by kernel_rfl
theorem WM : AA Tryz.prog 85 = true := by kernel_rfl
theorem W8 : AA Tryz.prog 86 = true := by kernel_rfl
theorem XC : AA Tryz.prog 87 = true := by kernel_rfl
theorem Xw : AA Tryz.prog 88 = true := by kernel_rfl
theorem UK : AA Tryz.prog 89 = true := by kernel_rfl
theorem XY : AA Tryz.prog 9 = true := by kernel_rfl
theorem V0 : AA Tryz.prog 90 = true := by kernel_rfl
theorem Xx : AA Tryz.prog 91 = true := by kernel_rfl
theorem VP : AA Tryz.prog 92 = true := by kernel_rfl
theorem WW : AA Tryz.prog 93 = true := by kernel_rfl
theorem XP : AA Tryz.prog 95 = true := by kernel_rfl
theorem Ww : AA Tryz.prog 96 = true := by kernel_rfl
theorem V5 : AA Tryz.prog 97 = true := by kernel_rfl
theorem W2 : AA Tryz.prog 99 = true := by kernel_rfl
theorem QF : Nc Tryz.prog 126 .u64 = true := by kernel_rfl
theorem QE : Nc Tryz.prog 137 .u32 = true := by kernel_rfl
theorem Uz : Nc Tryz.prog 140 .u64 = true := by kernel_rfl
theorem TX : Nc Tryz.prog 3 .i64 = true := by kernel_rfl
theorem XR : Nc Tryz.prog 74 .u8 = true := by kernel_rfl
theorem Wr : H9 Tryz.prog 32 = some [(0, 1), (1, 1), (2, 1), (3, 1)] := by kernel_rfl
theorem F5 : H9 Tryz.prog 38 = some [(0, 1), (1, 1), (2, 1)] := by kernel_rfl
theorem Tq : H9 Tryz.prog 54 = some [(0, 1), (1, 1), (2, 1)] := by kernel_rfl
theorem WQ : H9 Tryz.prog 63 = some [(0, 1), (1, 1), (2, 1), (3, 1), (4, 1), (5, 1)] := by kernel_rfl
theorem MW : H9 Tryz.prog 93 = some [(0, 1), (1, 1), (2, 1)] := by kernel_rfl
theorem RJ : Si Tryz.prog 54 = some [0, 0, 0] := by kernel_rfl
theorem F6 : sliceB Tryz.prog 117 93 = true := by kernel_rfl
theorem RS : sliceB Tryz.prog 133 9 = true := by kernel_rfl
theorem Ml : sliceB Tryz.prog 22 5 = true := by kernel_rfl
theorem R9 : sliceB Tryz.prog 23 60 = true := by kernel_rfl
theorem Bo : sliceB Tryz.prog 28 54 = true := by kernel_rfl
theorem Au : sliceB Tryz.prog 29 3 = true := by kernel_rfl
theorem DG : sliceB Tryz.prog 30 63 = true := by kernel_rfl
theorem Cw : sliceB Tryz.prog 36 74 = true := by kernel_rfl
theorem ID : sliceB Tryz.prog 47 28 = true := by kernel_rfl
theorem FL : sliceB Tryz.prog 61 96 = true := by kernel_rfl
theorem GT : sliceB Tryz.prog 70 38 = true := by kernel_rfl
theorem JV : sliceB Tryz.prog 86 29 = true := by kernel_rfl
theorem GI : sliceB Tryz.prog 96 4 = true := by kernel_rfl
theorem SI : (Tryz.prog.underlying 126).isSome = true := by kernel_rfl
theorem QL : (Tryz.prog.underlying 137).isSome = true := by kernel_rfl
theorem Uv : (Tryz.prog.underlying 140).isSome = true := by kernel_rfl
theorem Xt : (Tryz.prog.underlying 3).isSome = true := by kernel_rfl
theorem UZ : (Tryz.prog.underlying 5).isSome = true := by kernel_rfl
theorem Xk : (Tryz.prog.underlying 74).isSome = true := by kernel_rfl
theorem WV : QO Tryz.prog 9 = true := by kernel_rfl
theorem WT : GB Tryz.prog 25 4 = true := by kernel_rfl
theorem Xa : GB Tryz.prog 27 3 = true := by kernel_rfl
theorem OW : GB Tryz.prog 28 1 = true := by kernel_rfl
theorem Kr : GB Tryz.prog 29 1 = true := by kernel_rfl
theorem Cy : GB Tryz.prog 3 1 = true := by kernel_rfl
theorem WX : GB Tryz.prog 30 1 = true := by kernel_rfl
theorem Cp : GB Tryz.prog 32 4 = true := by kernel_rfl
theorem VV : GB Tryz.prog 36 1 = true := by kernel_rfl
theorem AF : GB Tryz.prog 38 3 = true := by kernel_rfl
theorem P2 : GB Tryz.prog 4 1 = true := by kernel_rfl
theorem Xq : GB Tryz.prog 5 1 = true := by kernel_rfl
theorem Cg : GB Tryz.prog 54 3 = true := by kernel_rfl
theorem Ve : GB Tryz.prog 60 6 = true := by kernel_rfl
theorem Wb : GB Tryz.prog 61 1 = true := by kernel_rfl
theorem Dr : GB Tryz.prog 63 6 = true := by kernel_rfl
theorem EQ : GB Tryz.prog 74 1 = true := by kernel_rfl
theorem XV : GB Tryz.prog 9 1 = true := by kernel_rfl
theorem Fz : GB Tryz.prog 93 3 = true := by kernel_rfl
theorem MM : GB Tryz.prog 96 1 = true := by kernel_rfl
theorem TW : DQ Tryz.prog 28 = some (.slice none 0 0) := by kernel_rfl
theorem UV : DQ Tryz.prog 29 = some (.slice none 0 0) := by kernel_rfl
theorem I1 : DQ Tryz.prog 3 = some (.int .i64 0) := by kernel_rfl
theorem PF : DQ Tryz.prog 32 = some (.agg #[.slice none 0 0, .slice none 0 0, .slice none 0 0, .slice none 0 0]) := by kernel_rfl
theorem Cb : DQ Tryz.prog 38 = some (.agg #[.slice none 0 0, .slice none 0 0, .slice none 0 0]) := by kernel_rfl
theorem VD : DQ Tryz.prog 4 = some (.bool false) := by kernel_rfl
theorem IV : DQ Tryz.prog 54 = some (.agg #[.int .i64 0, .int .i64 0, .int .i64 0]) := by kernel_rfl
theorem Xv : DQ Tryz.prog 60 = some (.agg #[.int .u8 0, .int .u8 0, .int .u8 0, .bool false, .int .u16 0, .int .u16 0]) := by kernel_rfl
theorem KU : DQ Tryz.prog 63 = some (.agg #[.int .i64 0, .int .i64 0, .int .i64 0, .bool false, .slice none 0 0, .slice none 0 0]) := by kernel_rfl
theorem Mt : DQ Tryz.prog 74 = some (.int .u8 0) := by kernel_rfl
theorem X2 : DQ Tryz.prog 9 = some (.string ⟨#[]⟩) := by kernel_rfl
theorem HD : DQ Tryz.prog 93 = some (.agg #[.int .i64 0, .int .i64 0, .int .i64 0]) := by kernel_rfl
theorem VF : DQ Tryz.prog 96 = some (.slice none 0 0) := by kernel_rfl
set_option maxRecDepth 10000
theorem HL (N : Nat) (p0 : List Int) (p1 : Int) (r : Int) (h : Dk N p0 p1 = some r) : Aq Tryz.prog 20 [pD (.sl (p0.map B3)), iD p1] [] (iD r) := by
 unfold Dk at h
 refine cw (n := 14) (rs := [.tmp 4]) Tryz.func20 fun w0 S0 => ?_
 refine wq rfl (qa rfl (Aa (wp rfl (qw 2 rfl (AB Ml rfl (AT rfl (Aa ?_)))))))
 refine Bc h (fun h => ?_) fun h => ?_
 ·refine wq rfl (qw 2 rfl ?_)
  refine BT h fun v2 a2 b2 h => qi Ml Xq a2 (Af b2) rfl (qk VC rfl (Iv UZ TX rfl (qe rfl ?_)))
  obtain rfl := sj h
  refine Ae (sm [] [(4, iD ((wI .i64 v2)))] [] rfl rfl) (Ap ?_)
  exact ⟨⟨[_], tm, rfl⟩, tv⟩
 ·refine Al (wq rfl (qe rfl ?_))
  obtain rfl := sj h
  refine Ae (sm [] [(4, iD 0)] [] rfl rfl) (Ap ?_)
  exact ⟨⟨[_], tm, rfl⟩, tv⟩
theorem Bx (N : Nat) (p0 : Av) (r : Bool) (h : AR N p0 = some r) : Aq Tryz.prog 21 [.e (.agg (A7 p0))] [] (bD r) := by
 unfold AR at h
 refine cw (n := 11) (rs := [.tmp 2]) Tryz.func21 fun w0 S0 => ?_
 refine wq rfl (qb rfl (qe rfl ?_))
 refine AK h (fun v1 => mk [(2, bD v1)] []) (fun j1 h => ?_) (fun v1 h => ?_)
 ·refine Ag Az rfl (qf Fa rfl (ql BL rfl (Br rfl (qm rfl ?_))))
  refine Dm 6 h rfl (fun h => ?_) fun h => ?_
  ·refine qw 3 rfl (qp rfl (qe rfl ?_))
   exact sn [] h
  ·refine qf Fa rfl (ql BL rfl (Br rfl (qp rfl (qe rfl ?_))))
   exact sn [] h
 ·obtain rfl := sj h
  refine Ae (sm [] [(2, bD v1)] [] rfl rfl) (Ap ?_)
  exact ⟨⟨[_], tm, rfl⟩, tv⟩
theorem HK (N : Nat) (p0 : Int) (p1 : Int) (p2 : Int) (p3 : Bool) (r : (List (List Bool))) (h : Dg N p0 p1 p2 p3 = some r) : Aq Tryz.prog 22 [iD p0, iD p1, pD (.val (.int .u16 p2)), bD p3] [(1, r.map (Fj eB))] (oD (.own 0)) := by
 unfold Dg at h
 refine cw (n := 47) (rs := [.tmp 8]) Tryz.func22 fun w0 S0 => ?_
 refine wq rfl (qa rfl (Aa (wq rfl (qa rfl (Aa (wp rfl (qe rfl ?_)))))))
 refine AH (L := BP N p0 p1 p2 p3) h (fun v1 => mk [(0, iD p0), (1, iD p1), (2, pD (.val (.int .u16 p2))), (3, bD p3), (9, oD (.own 2001)), (10, iD v1.2)] [(2001, .vec 1 (v1.1.map (Fj eB)))]) (fun v2 => mk [(9, oD (.own 2002))] [(2002, .vec 1 (v2.map (Fj eB)))]) (fun _ _ => rfl) ((B2 9 2010 1 rfl rfl rfl).trans (sm [(2001, 2010)] _ _ rfl rfl)) (fun j1 n1 v1 h => ?_) (fun v2 s h hs => ?_)
 ·unfold BP at h
  refine wp rfl (qw 2 rfl (AT rfl (Aa ?_)))
  refine Bc h (fun h => ?_) fun h => ?_
  ·refine Al (AO (AM (wq rfl (qa rfl (Aa (wp rfl (qe rfl ?_)))))))
   refine AH (L := BR N p1 p2 p3 v1) h (fun v4 => mk [(0, iD p0), (1, iD p1), (2, pD (.val (.int .u16 p2))), (3, bD p3), (9, oD (.own 2003)), (10, iD v1.2), (11, oD (.own 2004)), (12, iD v4.2)] [(2003, .vec 1 (v1.1.map (Fj eB))), (2004, .vec 1 (v4.1.map eB))]) (fun v5 => mk [(0, iD p0), (1, iD p1), (2, pD (.val (.int .u16 p2))), (3, bD p3), (9, oD (.own 2005)), (10, iD v1.2), (11, oD (.own 2006))] [(2005, .vec 1 (v1.1.map (Fj eB))), (2006, .vec 1 (v5.map eB))]) (fun _ _ => rfl) ((B2 11 2009 1 rfl rfl rfl).trans (sm [(2003, 2001), (2004, 2009)] _ _ rfl rfl)) (fun j4 n4 v4 h => ?_) (fun v5 s h hs => ?_)
   ·unfold BR at h
    refine wp rfl (qw 2 rfl (AT rfl (Aa ?_)))
    refine Bc h (fun h => ?_) fun h => ?_
    ·refine Al ?_
     refine AK h (fun v7 => mk [(0, iD p0), (1, iD p1), (2, pD (.val (.int .u16 p2))), (3, bD p3), (9, oD (.own 2007)), (10, iD v1.2), (11, oD (.own 2008)), (12, iD v4.2)] [(2007, .vec 1 (v1.1.map (Fj eB))), (2008, .vec 1 (v7.map eB))]) (fun j7 h => ?_) (fun v7 h => ?_)
     ·refine AM (Ag Az rfl (qw 3 rfl ?_))
      refine Dm 25 h rfl (fun h => ?_) fun h => ?_
      ·refine qw 2 rfl (Br rfl (qp rfl (qm rfl ?_)))
       refine Dm 30 h rfl (fun h => ?_) fun h => ?_
       ·refine qw 8 rfl (qp rfl (D1 GI P2 VD rfl ?_))
        refine Ey h fun c10 h => Dz (f := eB) GI GI P2 U3 VD c10 rfl (qe rfl ?_)
        exact sn [(2007, 2003), (2008, 41)] h
       ·refine qw 2 rfl (KA rfl (qm rfl (Be rfl ?_)))
        refine Ey h fun c11 h => Ix rfl c11 (I0 rfl (by decide) (Br rfl (qp rfl (D1 GI P2 VD rfl ?_))))
        refine Ey h fun c12 h => Dz (f := eB) GI GI P2 U3 VD c12 rfl (qe rfl ?_)
        exact sn [(2007, 2003), (2008, 41)] h
      ·refine qw 3 rfl (qp rfl (qw 3 rfl (KA rfl (qm rfl (Be rfl ?_)))))
       refine Ey h fun c13 h => Ix rfl c13 (I0 rfl (by decide) (Br rfl (qp rfl (D1 GI P2 VD rfl ?_))))
       refine Ey h fun c14 h => Dz (f := eB) GI GI P2 U3 VD c14 rfl (qe rfl ?_)
       exact sn [(2007, 2003), (2008, 41)] h
     ·refine Ag Az rfl (qm rfl (Be rfl (qe rfl ?_)))
      exact sn [(2003, 2007), (2004, 2008)] h
    ·refine AS ?_
     exact sn [(2005, 2003), (2006, 2004)] h
   ·refine Ae hs (Ag Az rfl (qw 2 rfl (D2 (A5 2006 _ _ rfl rfl) (D1 FL MM VF rfl ?_))))
    refine Ey h fun c15 h => Dz (f := (Fj eB)) FL FL MM Wx VF c15 rfl (qa rfl (Aa (Ag Az rfl (qm rfl (Be rfl (qe rfl ?_))))))
    exact sn [(2001, 45)] h
  ·refine AS ?_
   exact sn [(2002, 2001)] h
 ·refine Ae hs (wq rfl (qm rfl (qe rfl ?_)))
  obtain rfl := sj h
  refine Ae (sm [(1000, 2002)] [(8, oD (.own 1000))] [(1000, .vec 1 (v2.map (Fj eB)))] rfl rfl) (Ap ?_)
  exact ⟨⟨[_], tm, rfl⟩, ⟨rfl, tv⟩⟩
theorem K5 (N : Nat) (p0 : BF) (r : Ab × Bool) (h : DT N p0 = some r) : Aq Tryz.prog 7 [.e (.agg (Cj p0))] [(1, r.1.fb.map An), (1, r.1.fm.map An), (1, r.1.fo.map An), (6, r.1.fe.map AQ)] (.tup [.agg [.own 0, .own 1, .own 2, .own 3], .one (.pure (.val (.bool r.2)))]) := by
 unfold DT at h
 refine cw (n := 152) (rs := [.cell 2 32, .tmp 3]) Tryz.func7 fun w0 S0 => ?_
 refine wq rfl (qb rfl (qz PF rfl (qa rfl (Aa (AO ?_)))))
 refine AK h (fun v1 => mk [(1, oD (.ptr 1 0)), (2, oD (.ptr 2 0)), (19, bD v1)] [(1, .box (Cj p0)), (2, .box [.pure (.nil0), .pure (.nil0), .pure (.nil0), .pure (.nil0)])]) (fun j1 h => ?_) (fun v1 h => ?_)
 ·refine Ag Az rfl (qf NZ rfl (ql Py rfl (AB Ml rfl (EP rfl (qm rfl ?_)))))
  refine Dm 14 h rfl (fun h => ?_) fun h => ?_
  ·refine qw 4 rfl (qp rfl (Aa ?_))
   exact sn [] h
  ·refine qf OE rfl (ql UR rfl (AB R9 rfl (EP rfl (qp rfl (Aa ?_)))))
   exact sn [] h
 ·refine Bc h (fun h => ?_) fun h => ?_
  ·refine wq rfl (A8 PF Wr rfl (qs Cp rfl (qe rfl ?_)))
   obtain rfl := sj h
   refine Ae ((Ax 2 0 2001 1 _ rfl rfl rfl rfl).trans ((Ax 2 1 2002 1 _ rfl rfl rfl rfl).trans ((Ax 2 2 2003 1 _ rfl rfl rfl rfl).trans ((Ax 2 3 2004 6 _ rfl rfl rfl rfl).trans (sm [(1000, 2001), (1001, 2002), (1002, 2003), (1003, 2004)] [(2, oD (.ptr 2 0)), (3, bD false)] [(2, .box [.own 1000, .own 1001, .own 1002, .own 1003]), (1000, .vec 1 ((([] : List Int)).map An)), (1001, .vec 1 ((([] : List Int)).map An)), (1002, .vec 1 ((([] : List Int)).map An)), (1003, .vec 6 ((([] : List Av)).map AQ))] rfl rfl))))) (Ap ?_)
   exact ⟨⟨[_, _], ⟨.cellN _ _ _ _ _ _ _ rfl rfl CL Cp rfl rfl (GV rfl), tm⟩, rfl⟩, ⟨rfl, rfl, rfl, rfl, tv⟩⟩
  ·refine Al (wq rfl (qz PF rfl (Aa (wp rfl (qe rfl ?_)))))
   refine AH (L := B5 N p0) h (fun v4 => mk [(1, oD (.ptr 1 0)), (2, oD (.ptr 2 0)), (4, oD (.ptr 4 0)), (5, iD v4.2.2.2)] [(1, .box (Cj p0)), (2, .box [.pure (.nil0), .pure (.nil0), .pure (.nil0), .pure (.nil0)]), (4, .box [.own 2005, .own 2006, .own 2007, .pure (.nil0)]), (2005, .vec 1 (v4.1.map An)), (2006, .vec 1 (v4.2.1.map An)), (2007, .vec 1 (v4.2.2.1.map An))]) (fun v5 => mk [(1, oD (.ptr 1 0)), (2, oD (.ptr 2 0)), (4, oD (.ptr 4 0))] [(1, .box (Cj p0)), (2, .box [.pure (.nil0), .pure (.nil0), .pure (.nil0), .pure (.nil0)]), (4, .box [.own 2008, .own 2009, .own 2010, .pure (.nil0)]), (2008, .vec 1 (v5.1.map An)), (2009, .vec 1 (v5.2.1.map An)), (2010, .vec 1 (v5.2.2.map An))]) (fun _ _ => rfl) ((Ax 4 0 2011 1 _ rfl rfl rfl rfl).trans ((Ax 4 1 2012 1 _ rfl rfl rfl rfl).trans ((Ax 4 2 2013 1 _ rfl rfl rfl rfl).trans (sm [(2005, 2011), (2006, 2012), (2007, 2013)] _ _ rfl rfl)))) (fun j4 n4 v4 h => ?_) (fun v5 s h hs => ?_)
   ·unfold B5 at h
    refine wp rfl (qm rfl (qf NZ rfl (ql Py rfl (AB Ml rfl (AT rfl (Aa ?_))))))
    refine Bc h (fun h => ?_) fun h => ?_
    ·refine Al (AO (AM (wq rfl (qf NZ rfl (ql Py rfl (qm rfl ?_))))))
     refine BT h fun v7 a7 b7 h => qi Ml Xq a7 (Af b7) rfl (qk VC rfl (I0 rfl (by decide) (Iv UZ TX rfl (Be rfl (qa rfl (Aa (wq rfl (qf Bg rfl (ql AV rfl (qm rfl (D1 Au Cy I1 rfl ?_)))))))))))
     refine Ey h fun c8 h => Dz (f := An) Au Au Cy Ja I1 c8 rfl (qf Bg rfl (qs Kr rfl (Aa (wq rfl (qf F4 rfl (ql AV rfl (qf Th rfl (ql Py rfl (qm rfl ?_)))))))))
     refine BS h fun v9 a9 h => Ar [] (HL N p0.fm v4.2.2.2 v9 a9) Wd rfl (qm rfl ?_)
     refine Ey h fun c10 h => I0 rfl c10 (D1 Au Cy I1 rfl ?_)
     refine Ey h fun c11 h => Dz (f := An) Au Au Cy Ja I1 c11 rfl (qf F4 rfl (qs Kr rfl (AI (by kernel_rfl) (Ag Az rfl (qf H8 rfl (ql AV rfl (qf Td rfl (ql Py rfl (qm rfl ?_)))))))))
     refine BS h fun v12 a12 h => Ar [] (HL N p0.fo v4.2.2.2 v12 a12) Wd rfl (qm rfl ?_)
     refine Ey h fun c13 h => I0 rfl c13 (D1 Au Cy I1 rfl ?_)
     refine Ey h fun c14 h => Dz (f := An) Au Au Cy Ja I1 c14 rfl (qf H8 rfl (qs Kr rfl (AI (by kernel_rfl) (Ag Az rfl (qm rfl (Be rfl (qe rfl ?_)))))))
     exact sn [(2005, 40), (2006, 51), (2007, 62)] h
    ·refine AS ?_
     exact sn [(2008, 2005), (2009, 2006), (2010, 2007)] h
   ·refine Ae hs (wp rfl (qe rfl ?_))
    refine AH (L := Bi N p0 v5) h (fun v15 => mk [(1, oD (.ptr 1 0)), (2, oD (.ptr 2 0)), (4, oD (.ptr 4 0)), (7, iD v15.2)] [(1, .box (Cj p0)), (2, .box [.pure (.nil0), .pure (.nil0), .pure (.nil0), .pure (.nil0)]), (4, .box [.own 2014, .own 2015, .own 2016, .own 2017]), (2014, .vec 1 (v5.1.map An)), (2015, .vec 1 (v5.2.1.map An)), (2016, .vec 1 (v5.2.2.map An)), (2017, .vec 6 (v15.1.map AQ))]) (fun v16 => mk [(2, oD (.ptr 2 0)), (4, oD (.ptr 4 0))] [(2, .box [.pure (.nil0), .pure (.nil0), .pure (.nil0), .pure (.nil0)]), (4, .box [.own 2018, .own 2019, .own 2020, .own 2021]), (2018, .vec 1 (v5.1.map An)), (2019, .vec 1 (v5.2.1.map An)), (2020, .vec 1 (v5.2.2.map An)), (2021, .vec 6 (v16.map AQ))]) (fun _ _ => rfl) ((Ax 4 3 2039 6 _ rfl rfl rfl rfl).trans (sm [(2014, 2008), (2015, 2009), (2016, 2010), (2017, 2039)] _ _ rfl rfl)) (fun j15 n15 v15 h => ?_) (fun v16 s h hs => ?_)
    ·unfold Bi at h
     refine AO ?_
     refine AK h (fun v17 => mk [(1, oD (.ptr 1 0)), (2, oD (.ptr 2 0)), (4, oD (.ptr 4 0)), (7, iD v15.2), (74, bD v17)] [(1, .box (Cj p0)), (2, .box [.pure (.nil0), .pure (.nil0), .pure (.nil0), .pure (.nil0)]), (4, .box [.own 2022, .own 2023, .own 2024, .own 2025]), (2022, .vec 1 (v5.1.map An)), (2023, .vec 1 (v5.2.1.map An)), (2024, .vec 1 (v5.2.2.map An)), (2025, .vec 6 (v15.1.map AQ))]) (fun j17 h => ?_) (fun v17 h => ?_)
     ·refine Ag Az rfl (qm rfl (qf OE rfl (ql UR rfl (AB R9 rfl (AT rfl (qm rfl ?_))))))
      refine Dm 69 h rfl (fun h => ?_) fun h => ?_
      ·refine qf Bg rfl (ql AV rfl (FI Au rfl (EP rfl (qp rfl (Aa ?_)))))
       exact sn [(2022, 2014), (2023, 2015), (2024, 2016), (2025, 2017)] h
      ·refine qw 4 rfl (qp rfl (Aa ?_))
       exact sn [(2022, 2014), (2023, 2015), (2024, 2016), (2025, 2017)] h
     ·refine Bc h (fun h => ?_) fun h => ?_
      ·refine Al (AO (AM (wq rfl (qf OE rfl (ql UR rfl (qm rfl ?_))))))
       refine BT h fun v20 a20 b20 h => qi R9 Ve a20 (Af b20) rfl (qK XQ Ve rfl (qz Xv rfl (qs Ve rfl (Aa (wq rfl (qf TZ rfl (ql VC rfl (I0 rfl (by decide) (Iv UZ TX rfl (Be rfl (qf Ue rfl (ql VC rfl (Iv UZ TX rfl (qf Bg rfl (ql AV rfl (FI Au rfl ?_))))))))))))))))
       refine Ey h fun c21 h => I0 rfl c21 (qf TT rfl (ql VC rfl (Iv UZ TX rfl (qf Bg rfl (ql AV rfl (FI Au rfl ?_))))))
       refine Ey h fun c22 h => I0 rfl c22 (A8 KU WQ rfl (qz KU rfl (qs Dr rfl (AI (by kernel_rfl) ?_))))
       refine AK h (fun v23 => mk [(1, oD (.ptr 1 0)), (2, oD (.ptr 2 0)), (4, oD (.ptr 4 0)), (7, iD v15.2), (8, oD (.ptr 8 0)), (9, oD (.ptr 9 0))] [(1, .box (Cj p0)), (2, .box [.pure (.nil0), .pure (.nil0), .pure (.nil0), .pure (.nil0)]), (4, .box [.own 2026, .own 2027, .own 2028, .own 2029]), (8, .box (K4 v20)), (9, .box [iC ((wI .i64 (1 + (wI .i64 ((Int.tmod v20.ff 4)))))), iC ((Int.tmod ((wI .i64 v20.fg)) ((v5.1.length : Int)))), iC ((Int.tmod ((wI .i64 v20.fj)) ((v5.1.length : Int)))), .pure (.val (.bool v23)), .pure (.nil0), .pure (.nil0)]), (2026, .vec 1 (v5.1.map An)), (2027, .vec 1 (v5.2.1.map An)), (2028, .vec 1 (v5.2.2.map An)), (2029, .vec 6 (v15.1.map AQ))]) (fun j23 h => ?_) (fun v23 h => ?_)
       ·refine Ag Az rfl (qf T1 rfl (ql QZ rfl (qm rfl ?_)))
        refine Dm 104 h rfl (fun h => ?_) fun h => ?_
        ·refine qL Gv Dr rfl ?_
         refine BS h fun v25 a25 h => Ar [] (Bx N ((Av.mk ((wI .i64 (1 + (wI .i64 ((Int.tmod v20.ff 4)))))) ((Int.tmod ((wI .i64 v20.fg)) ((v5.1.length : Int)))) ((Int.tmod ((wI .i64 v20.fj)) ((v5.1.length : Int)))) false (([] : List (List Bool))) (([] : List (List Bool))))) v25 a25) MP rfl (BX rfl (qp rfl (qf If rfl (qs P2 rfl (Aa ?_)))))
         exact sn [(2026, 2022), (2027, 2023), (2028, 2024), (2029, 2025)] h
        ·refine qw 3 rfl (qp rfl (qf If rfl (qs P2 rfl (Aa ?_))))
         exact sn [(2026, 2022), (2027, 2023), (2028, 2024), (2029, 2025)] h
       ·refine wq rfl (qf Bg rfl (ql AV rfl (qf Ck rfl (ql BL rfl ?_))))
        refine BT h fun v26 a26 b26 h => qI Au Cy a26 (Af b26) rfl (qj BL (Af b26) rfl (qf Bg rfl (ql AV rfl (qf Hy rfl (ql BL rfl ?_)))))
        refine BT h fun v27 a27 b27 h => qI Au Cy a27 (Af b27) rfl (qj BL (Af b27) rfl (qf Uc rfl (ql VM rfl ?_)))
        refine BS h fun v28 a28 h => Ar [2030] (HK N v26 v27 v20.ft false v28 a28) VS rfl (qf IZ rfl (qs Wb rfl (AI (by kernel_rfl) ?_)))
        refine AK h (fun v29 => mk [(1, oD (.ptr 1 0)), (2, oD (.ptr 2 0)), (4, oD (.ptr 4 0)), (7, iD v15.2), (9, oD (.ptr 9 0))] [(1, .box (Cj p0)), (2, .box [.pure (.nil0), .pure (.nil0), .pure (.nil0), .pure (.nil0)]), (4, .box [.own 2031, .own 2032, .own 2033, .own 2034]), (9, .box [iC ((wI .i64 (1 + (wI .i64 ((Int.tmod v20.ff 4)))))), iC ((Int.tmod ((wI .i64 v20.fg)) ((v5.1.length : Int)))), iC ((Int.tmod ((wI .i64 v20.fj)) ((v5.1.length : Int)))), .pure (.val (.bool v23)), .own 2035, .own 2036]), (2031, .vec 1 (v5.1.map An)), (2032, .vec 1 (v5.2.1.map An)), (2033, .vec 1 (v5.2.2.map An)), (2034, .vec 6 (v15.1.map AQ)), (2035, .vec 1 (v28.map (Fj eB))), (2036, .vec 1 (v29.map (Fj eB)))]) (fun j29 h => ?_) (fun v29 h => ?_)
        ·refine wq rfl (qf Fa rfl (ql BL rfl (Br rfl (Aa ?_))))
         refine Bc h (fun h => ?_) fun h => ?_
         ·refine Ag Az rfl (qf Bg rfl (ql AV rfl (qf Ck rfl (ql BL rfl ?_))))
          refine BT h fun v31 a31 b31 h => qI Au Cy a31 (Af b31) rfl (qj BL (Af b31) rfl (qf Bg rfl (ql AV rfl (qf Ck rfl (ql BL rfl ?_)))))
          refine BT h fun v32 a32 b32 h => qI Au Cy a32 (Af b32) rfl (qj BL (Af b32) rfl (qf TP rfl (ql VM rfl ?_)))
          refine BS h fun v33 a33 h => Ar [2037] (HK N v31 v32 v20.fu true v33 a33) VS rfl (qf FZ rfl (qs Wb rfl (AI (by kernel_rfl) ?_)))
          exact sn [(2031, 2026), (2032, 2027), (2033, 2028), (2034, 2029), (2035, 2030), (2036, 2037)] h
         ·refine Al ?_
          exact TM _ h ((Ax 9 5 2038 1 _ rfl rfl rfl rfl).trans (sm [(2031, 2026), (2032, 2027), (2033, 2028), (2034, 2029), (2035, 2030), (2036, 2038)] _ _ rfl rfl))
        ·refine Ag Az rfl (qf Cd rfl (ql GD rfl (qL Gv Dr rfl (D2 (A5 2035 _ _ rfl rfl) (D2 (A5 2036 _ _ rfl rfl) (D1 DG Dr KU rfl ?_))))))
         refine Ey h fun c34 h => Dz (f := AQ) DG DG Dr Wl KU c34 rfl (qf Cd rfl (qs WX rfl (Aa (Ag Az rfl (qm rfl (Be rfl (qe rfl ?_)))))))
         exact sn [(2014, 2031), (2015, 2032), (2016, 2033), (2017, 149)] h
      ·refine AS ?_
       exact sn [(2018, 2022), (2019, 2023), (2020, 2024), (2021, 2025)] h
    ·refine Ae hs (wq rfl (qL CL Cp rfl (qs Cp rfl (qe rfl ?_))))
     obtain rfl := sj h
     refine Ae (sm [(1000, 2018), (1001, 2019), (1002, 2020), (1003, 2021)] [(2, oD (.ptr 2 0)), (3, bD true)] [(2, .box [.own 1000, .own 1001, .own 1002, .own 1003]), (1000, .vec 1 (v5.1.map An)), (1001, .vec 1 (v5.2.1.map An)), (1002, .vec 1 (v5.2.2.map An)), (1003, .vec 6 (v16.map AQ))] rfl rfl) (Ap ?_)
     exact ⟨⟨[_, _], ⟨.cellN _ _ _ _ _ _ _ rfl rfl CL Cp rfl rfl (GV rfl), tm⟩, rfl⟩, ⟨rfl, rfl, rfl, rfl, tv⟩⟩
theorem I6 (N : Nat) (r : Ab × (List Ad)) (h : EU N = some r) : Aq Tryz.prog 23 [] [(1, r.1.fb.map An), (1, r.1.fm.map An), (1, r.1.fo.map An), (3, r.2.map Ai)] (.tup [.agg [.own 0, .own 1, .own 2, sC (r.1.fe.map AQ)], .one (.own 3)]) := by
 unfold EU at h
 refine cw (n := 13) (rs := [.cell 0 32, .tmp 1]) Tryz.func23 fun w0 S0 => ?_
 refine wq rfl (qz PF rfl (qa rfl (Aa (wq rfl (D1 Au Cy I1 rfl (D1 Au Cy I1 rfl (D1 Au Cy I1 rfl (A8 PF Wr rfl (qz PF rfl (qs Cp rfl (Aa (wq rfl (qL CL Cp rfl (A8 IV Tq rfl (A8 IV Tq rfl (A8 IV Tq rfl (A8 IV Tq rfl (D1 Bo Cg IV rfl (qs Cp rfl (qe rfl ?_))))))))))))))))))))
 obtain rfl := sj h
 refine Ae ((E6 0 _ rfl).trans (sm [(1000, 3), (1001, 4), (1002, 5), (1003, 12)] [(0, oD (.ptr 0 0)), (1, oD (.own 1003))] [(0, .box [.own 1000, .own 1001, .own 1002, sC ((([] : List Av)).map AQ)]), (1000, .vec 1 ((([2, 2] : List Int)).map An)), (1001, .vec 1 ((([0, 0] : List Int)).map An)), (1002, .vec 1 ((([1, 1] : List Int)).map An)), (1003, .vec 3 ((([(Ad.mk 1 0 1), (Ad.mk 1 1 1), (Ad.mk 2 0 0), (Ad.mk 2 1 0)] : List Ad)).map Ai))] rfl rfl)) (Ap ?_)
 exact ⟨⟨[_, _], ⟨.cellN _ _ _ _ _ _ _ rfl rfl CL Cp rfl rfl (GV rfl), tm⟩, rfl⟩, ⟨rfl, rfl, rfl, rfl, tv⟩⟩
theorem Gy (N : Nat) (p0 : Int) (p1 : Int) (r : Bool) (h : Dn N p0 p1 = some r) : Aq Tryz.prog 75 [iD p0, iD p1] [] (bD r) := by
 unfold Dn at h
 refine cw (n := 12) (rs := [.tmp 4]) Tryz.func75 fun w0 S0 => ?_
 refine wq rfl (qe rfl ?_)
 refine AK h (fun v1 => mk [(4, bD v1)] []) (fun j1 h => ?_) (fun v1 h => ?_)
 ·refine Ag Az rfl (qm rfl (Ep rfl (qm rfl ?_)))
  refine Dm 7 h rfl (fun h => ?_) fun h => ?_
  ·refine qw 2 rfl (AT rfl (qp rfl (qe rfl ?_)))
   exact sn [] h
  ·refine qw 3 rfl (qp rfl (qe rfl ?_))
   exact sn [] h
 ·obtain rfl := sj h
  refine Ae (sm [] [(4, bD v1)] [] rfl rfl) (Ap ?_)
  exact ⟨⟨[_], tm, rfl⟩, tv⟩
theorem Ou (N : Nat) (p0 : Int) (p1 : Bool) (r : Bool) (h : FQ N p0 p1 = some r) : Aq Tryz.prog 95 [iD p0, bD p1] [] (bD r) := by
 unfold FQ at h
 refine cw (n := 23) (rs := [.tmp 4]) Tryz.func95 fun w0 S0 => ?_
 refine wq rfl (qe rfl ?_)
 refine AK h (fun v1 => mk [(4, bD v1)] []) (fun j1 h => ?_) (fun v1 h => ?_)
 ·refine Ag Az rfl (qm rfl (Br rfl (qm rfl ?_)))
  refine Dm 7 h rfl (fun h => ?_) fun h => ?_
  ·refine qw 2 rfl (qp rfl (qw 4 rfl (qu rfl (qu rfl (qw 2 rfl (qu rfl (qu rfl (qn rfl (qp rfl (qe rfl ?_))))))))))
   exact sn [] h
  ·refine qm rfl (Br rfl (qp rfl (qm rfl ?_)))
   refine Dm 11 h rfl (fun h => ?_) fun h => ?_
   ·refine qw 3 rfl (qu rfl (qu rfl (qw 2 rfl (qu rfl (qu rfl (qn rfl (qp rfl (qe rfl ?_))))))))
    exact sn [] h
   ·refine qm rfl (Br rfl (qm rfl ?_))
    refine Dm 14 h rfl (fun h => ?_) fun h => ?_
    ·refine qw 2 rfl (qp rfl (qw 2 rfl (BX rfl (qp rfl (qp rfl (qe rfl ?_))))))
     exact sn [] h
    ·refine qm rfl (Br rfl (qp rfl (qm rfl ?_)))
     refine Dm 18 h rfl (fun h => ?_) fun h => ?_
     ·refine qm rfl (BX rfl (qp rfl (qp rfl (qe rfl ?_))))
      exact sn [] h
     ·refine qw 2 rfl (qp rfl (qp rfl (qe rfl ?_)))
      exact sn [] h
 ·obtain rfl := sj h
  refine Ae (sm [] [(4, bD v1)] [] rfl rfl) (Ap ?_)
  exact ⟨⟨[_], tm, rfl⟩, tv⟩
theorem Ld (N : Nat) (p0 : List Bool) (p1 : Int) (r : Bool) (h : Db N p0 p1 = some r) : Aq Tryz.prog 107 [pD (.sl (p0.map eB)), oD (.rop [.val (.int .i64 p1)])] [] (bD r) := by
 unfold Db at h
 refine cw (n := 8) (rs := [.tmp 3]) Tryz.func107 fun w0 S0 => ?_
 refine wq rfl (qa rfl (Aa (wq rfl (qm rfl (AB GI rfl (qk BL rfl (BB rfl (qe rfl ?_))))))))
 obtain rfl := sj h
 refine Ae (sm [] [(3, bD (((p0.length : Int) != p1)))] [] rfl rfl) (Ap ?_)
 exact ⟨⟨[_], tm, rfl⟩, tv⟩
theorem Hn (N : Nat) (p0 : List (List Bool)) (p1 : (List Bool) → Option Bool) (r : Int) (h : CO N p0 p1 = some r) : Aq Tryz.prog 112 [pD (.sl (p0.map (Fj eB))), oD (.clo (Mq (Rx false (Fj eB)) tB p1))] [] (iD r) := by
 unfold CO at h
 refine cw (n := 19) (rs := [.tmp 4]) Tryz.func112 fun w0 S0 => ?_
 refine wq rfl (qa rfl (Aa (wp rfl (qm rfl (AB FL rfl (qm rfl (Aa ?_)))))))
 refine AH (L := Ba N p0 p1) h (fun v1 => mk [(0, pD (.sl (p0.map (Fj eB)))), (1, oD (.clo (Mq (Rx false (Fj eB)) tB p1))), (7, iD ((p0.length : Int))), (8, iD v1)] []) (fun v2 => mk [] []) (fun _ _ => rfl) (sm [] _ _ rfl rfl) (fun j1 n1 v1 h => ?_) (fun v2 s h hs => ?_)
 ·unfold Ba at h
  refine wq rfl (AT rfl (Aa (AO ?_)))
  refine Bc h (fun h => ?_) fun h => ?_
  ·refine Al (AO (AM (wq rfl (qm rfl (qa rfl (Aa (wq rfl (qw 3 rfl ?_))))))))
   refine BT h fun v4 a4 b4 h => qi FL MM a4 (Af b4) rfl (qk N3 rfl ?_)
   refine BS h fun v5 a5 h => QY (ds0 := [_]) (ar := (Rx false (Fj eB)) v4) (.p rfl) rfl rfl ⟨rfl, tv⟩ rfl rfl rfl (QP (QG _ _ (WJ WS)) a5) ?_
   refine Aa ?_
   refine Bc h (fun h => ?_) fun h => ?_
   ·refine wq rfl (qm rfl (qe rfl ?_))
    obtain rfl := sj h
    refine Ae (sm [] [(4, iD v1)] [] rfl rfl) (Ap ?_)
    exact ⟨⟨[_], tm, rfl⟩, tv⟩
   ·refine Al (Ag Az rfl (Be rfl (qm rfl (Aa ?_))))
    exact sn [] h
  ·refine AS ?_
   exact sn [] h
 ·refine Ae hs (wq rfl (qe rfl ?_))
  obtain rfl := sj h
  refine Ae (sm [] [(4, iD ((-1)))] [] rfl rfl) (Ap ?_)
  exact ⟨⟨[_], tm, rfl⟩, tv⟩
theorem GO (N : Nat) (p0 : List (List Bool)) (p1 : (List Bool) → Option Bool) (r : Bool) (h : Ch N p0 p1 = some r) : Aq Tryz.prog 106 [pD (.sl (p0.map (Fj eB))), oD (.clo (Mq (Rx false (Fj eB)) tB p1))] [] (bD r) := by
 unfold Ch at h
 refine cw (n := 9) (rs := [.tmp 4]) Tryz.func106 fun w0 S0 => ?_
 refine wq rfl (qa rfl (Aa (wq rfl (qw 2 rfl ?_))))
 refine BS h fun v1 a1 h => Ar [] (Hn N p0 p1 v1 a1) V1 rfl (Ep rfl (qe rfl ?_))
 obtain rfl := sj h
 refine Ae (sm [] [(4, bD ((decide (0 ≤ v1))))] [] rfl rfl) (Ap ?_)
 exact ⟨⟨[_], tm, rfl⟩, tv⟩
theorem Jx (N : Nat) (p0 : List (List Bool)) (p1 : Int) (p2 : Int) (r : Bool) (h : Ei N p0 p1 p2 = some r) : Aq Tryz.prog 96 [pD (.sl (p0.map (Fj eB))), iD p1, iD p2] [] (bD r) := by
 unfold Ei at h
 refine cw (n := 17) (rs := [.tmp 6]) Tryz.func96 fun w0 S0 => ?_
 refine wq rfl (qb rfl (qe rfl ?_))
 refine AK h (fun v1 => mk [(6, bD v1)] []) (fun j1 h => ?_) (fun v1 h => ?_)
 ·refine Ag Az rfl (qm rfl (AB FL rfl (qm rfl (Br rfl (qm rfl ?_)))))
  refine Dm 11 h rfl (fun h => ?_) fun h => ?_
  ·refine qm rfl (D2 (Kv 5 [.val (.int .i64 p2)] rfl rfl) ?_)
   refine Ql (capD := [_]) (Mq (Rx false (Fj eB)) tB ((fun (x : List Bool) => Db N x p2))) (.g rfl rfl) VZ rfl ⟨rfl, tv⟩ rfl (fun ar t ht => by obtain ⟨x, r, rfl, hq, rfl⟩ := Ny ht; exact Ld N x p2 r hq) ?_
   refine BS h fun v3 a3 h => Ar [] (GO N p0 ((fun (x : List Bool) => Db N x p2)) v3 a3) V2 rfl (BX rfl (qp rfl (qe rfl ?_)))
   exact sn [] h
  ·refine qw 4 rfl (qp rfl (qe rfl ?_))
   exact sn [] h
 ·obtain rfl := sj h
  refine Ae (sm [] [(6, bD v1)] [] rfl rfl) (Ap ?_)
  exact ⟨⟨[_], tm, rfl⟩, tv⟩
theorem M3 (N : Nat) (p0 : Ab) (p1 : Av) (r : Int) (h : Fk N p0 p1 = some r) : Aq Tryz.prog 76 [.e (.agg (Ah p0)), .e (.agg (A7 p1))] [] (iD r) := by
 unfold Fk at h
 refine cw (n := 87) (rs := [.tmp 4]) Tryz.func76 fun w0 S0 => ?_
 refine wq rfl (qb rfl (qb rfl (qa rfl (Aa (wp rfl (qf Fa rfl (ql BL rfl (qf If rfl (ql QZ rfl ?_)))))))))
 refine BS h fun v1 a1 h => Ar [] (Ou N p1.ff p1.fp v1 a1) XP rfl (BX rfl (Aa ?_))
 refine Bc h (fun h => ?_) fun h => ?_
 ·refine wq rfl (qe rfl ?_)
  obtain rfl := sj h
  refine Ae (sm [] [(4, iD 1)] [] rfl rfl) (Ap ?_)
  exact ⟨⟨[_], tm, rfl⟩, tv⟩
 ·refine Al (AO ?_)
  refine AK h (fun v3 => mk [(2, oD (.ptr 2 0)), (3, oD (.ptr 3 0)), (29, bD v3)] [(2, .box (Ah p0)), (3, .box (A7 p1))]) (fun j3 h => ?_) (fun v3 h => ?_)
  ·refine Ag Az rfl (qf Ck rfl (ql BL rfl (qf Bg rfl (ql AV rfl (AB Au rfl ?_)))))
   refine BS h fun v4 a4 h => Ar [] (Gy N p1.fg ((p0.fb.length : Int)) v4 a4) Uf rfl (BX rfl (qm rfl ?_))
   refine Dm 21 h rfl (fun h => ?_) fun h => ?_
   ·refine qw 7 rfl (qp rfl (Aa ?_))
    exact sn [] h
   ·refine qf Hy rfl (ql BL rfl (qf Bg rfl (ql AV rfl (AB Au rfl ?_))))
    refine BS h fun v6 a6 h => Ar [] (Gy N p1.fj ((p0.fb.length : Int)) v6 a6) Uf rfl (BX rfl (qp rfl (Aa ?_)))
    exact sn [] h
  ·refine Bc h (fun h => ?_) fun h => ?_
   ·refine wq rfl (qe rfl ?_)
    obtain rfl := sj h
    refine Ae (sm [] [(4, iD 4)] [] rfl rfl) (Ap ?_)
    exact ⟨⟨[_], tm, rfl⟩, tv⟩
   ·refine Al (wq rfl (qf Bg rfl (ql AV rfl (qf Ck rfl (ql BL rfl ?_)))))
    refine BT h fun v8 a8 b8 h => qi Au Cy a8 (Af b8) rfl (qk BL rfl (qa rfl (Aa (wq rfl (qf Fa rfl (ql BL rfl (Br rfl (qa rfl (Aa (AO ?_))))))))))
    refine AK h (fun v9 => mk [(3, oD (.ptr 3 0)), (70, bD v9)] [(3, .box (A7 p1))]) (fun j9 h => ?_) (fun v9 h => ?_)
    ·refine Ag Az rfl (qf IZ rfl (ql Je rfl (qm rfl (qf Bg rfl (ql AV rfl (qf Hy rfl (ql BL rfl ?_)))))))
     refine BT h fun v10 a10 b10 h => qi Au Cy a10 (Af b10) rfl (qk BL rfl ?_)
     refine BS h fun v11 a11 h => Ar [] (Jx N p1.fq v8 v10 v11 a11) Ww rfl (BX rfl (qm rfl ?_))
     refine Dm 50 h rfl (fun h => ?_) fun h => ?_
     ·refine qw 2 rfl (qu rfl (qu rfl (qu rfl (qu rfl (qu rfl (qu rfl (qn rfl (qp rfl (qw 4 rfl (qu rfl (qu rfl (qu rfl (qu rfl (qn rfl (qp rfl (AI (by kernel_rfl) ?_))))))))))))))))
      exact sn [] h
     ·refine qw 2 rfl ?_
      refine Dm 52 h rfl (fun h => ?_) fun h => ?_
      ·refine qf FZ rfl (ql Je rfl (qw 2 rfl ?_))
       refine BS h fun v14 a14 h => Ar [] (Jx N p1.fk v8 v8 v14 a14) Ww rfl (BX rfl (qp rfl (qp rfl (qm rfl ?_))))
       refine Dm 61 h rfl (fun h => ?_) fun h => ?_
       ·refine qw 3 rfl (qu rfl (qu rfl (qu rfl (qu rfl (qn rfl (qp rfl (AI (by kernel_rfl) ?_)))))))
        exact sn [] h
       ·refine qm rfl (BX rfl (qm rfl ?_))
        refine Dm 64 h rfl (fun h => ?_) fun h => ?_
        ·refine qf FZ rfl (ql Je rfl (AB FL rfl (EP rfl (qp rfl (qp rfl (AI (by kernel_rfl) ?_))))))
         exact sn [] h
        ·refine qw 4 rfl (qp rfl (qp rfl (AI (by kernel_rfl) ?_)))
         exact sn [] h
      ·refine qw 6 rfl (qp rfl (qp rfl (qw 2 rfl (BX rfl (qm rfl ?_)))))
       refine Dm 64 h rfl (fun h => ?_) fun h => ?_
       ·refine qf FZ rfl (ql Je rfl (AB FL rfl (EP rfl (qp rfl (qp rfl (AI (by kernel_rfl) ?_))))))
        exact sn [] h
       ·refine qw 4 rfl (qp rfl (qp rfl (AI (by kernel_rfl) ?_)))
        exact sn [] h
    ·refine Bc h (fun h => ?_) fun h => ?_
     ·refine wq rfl (qe rfl ?_)
      obtain rfl := sj h
      refine Ae (sm [] [(4, iD 6)] [] rfl rfl) (Ap ?_)
      exact ⟨⟨[_], tm, rfl⟩, tv⟩
     ·refine Al (wp rfl (qf FZ rfl (ql Je rfl (AB FL rfl (qm rfl (Aa ?_))))))
      refine AH (L := Cu N p1) h (fun v19 => mk [(3, oD (.ptr 3 0)), (73, iD ((p1.fk.length : Int))), (74, iD v19)] [(3, .box (A7 p1))]) (fun v20 => mk [] []) (fun _ _ => rfl) (sm [] _ _ rfl rfl) (fun j19 n19 v19 h => ?_) (fun v20 s h hs => ?_)
      ·unfold Cu at h
       refine wq rfl (AT rfl (Aa (AO ?_)))
       refine Bc h (fun h => ?_) fun h => ?_
       ·refine Al (AO (AM (wq rfl (qm rfl (qa rfl (Aa (wq rfl (qf FZ rfl (ql Je rfl (qm rfl ?_))))))))))
        refine BT h fun v22 a22 b22 h => qi FL MM a22 (Af b22) rfl (qk N3 rfl (qm rfl ?_))
        refine BT h fun v23 a23 b23 h => qi GI P2 a23 (Af b23) rfl (qk QZ rfl (BX rfl (Aa ?_)))
        refine Bc h (fun h => ?_) fun h => ?_
        ·refine wq rfl (qe rfl ?_)
         obtain rfl := sj h
         refine Ae (sm [] [(4, iD 1)] [] rfl rfl) (Ap ?_)
         exact ⟨⟨[_], tm, rfl⟩, tv⟩
        ·refine Al (Ag Az rfl (Be rfl (qm rfl (Aa ?_))))
         exact sn [] h
       ·refine AS ?_
        exact sn [] h
      ·refine Ae hs (wq rfl (qe rfl ?_))
       obtain rfl := sj h
       refine Ae (sm [] [(4, iD 0)] [] rfl rfl) (Ap ?_)
       exact ⟨⟨[_], tm, rfl⟩, tv⟩
theorem Fv (N : Nat) (p0 : Ab) (r : Int) (h : Cf N p0 = some r) : Aq Tryz.prog 50 [.e (.agg (Ah p0))] [] (iD r) := by
 unfold Cf at h
 refine cw (n := 81) (rs := [.tmp 2]) Tryz.func50 fun w0 S0 => ?_
 refine wq rfl (qb rfl (qa rfl (Aa (wq rfl (qf Bg rfl (ql AV rfl (AB Au rfl (qa rfl (Aa (AO ?_))))))))))
 refine AK h (fun v1 => mk [(1, oD (.ptr 1 0)), (3, iD ((p0.fb.length : Int))), (19, bD v1)] [(1, .box (Ah p0))]) (fun j1 h => ?_) (fun v1 h => ?_)
 ·refine Ag Az rfl (qm rfl (EP rfl (qm rfl ?_)))
  refine Dm 14 h rfl (fun h => ?_) fun h => ?_
  ·refine qw 4 rfl (qp rfl (Aa ?_))
   exact sn [] h
  ·refine qf Cd rfl (ql GD rfl (AB DG rfl (EP rfl (qp rfl (Aa ?_)))))
   exact sn [] h
 ·refine Bc h (fun h => ?_) fun h => ?_
  ·refine wq rfl (qe rfl ?_)
   obtain rfl := sj h
   refine Ae (sm [] [(2, iD 3)] [] rfl rfl) (Ap ?_)
   exact ⟨⟨[_], tm, rfl⟩, tv⟩
  ·refine Al (AO ?_)
   refine AK h (fun v4 => mk [(1, oD (.ptr 1 0)), (31, bD v4)] [(1, .box (Ah p0))]) (fun j4 h => ?_) (fun v4 h => ?_)
   ·refine Ag Az rfl (qf F4 rfl (ql AV rfl (AB Au rfl (qm rfl (BB rfl (qm rfl ?_))))))
    refine Dm 25 h rfl (fun h => ?_) fun h => ?_
    ·refine qw 5 rfl (qp rfl (Aa ?_))
     exact sn [] h
    ·refine qf H8 rfl (ql AV rfl (AB Au rfl (qm rfl (BB rfl (qp rfl (Aa ?_))))))
     exact sn [] h
   ·refine Bc h (fun h => ?_) fun h => ?_
    ·refine wq rfl (qe rfl ?_)
     obtain rfl := sj h
     refine Ae (sm [] [(2, iD 6)] [] rfl rfl) (Ap ?_)
     exact ⟨⟨[_], tm, rfl⟩, tv⟩
    ·refine Al (wp rfl (qf Bg rfl (ql AV rfl (AB Au rfl (qm rfl (Aa ?_))))))
     refine AH (L := BA N p0) h (fun v7 => mk [(1, oD (.ptr 1 0)), (33, pD (.sl (p0.fb.map An))), (34, iD ((p0.fb.length : Int))), (35, iD v7)] [(1, .box (Ah p0))]) (fun v8 => mk [(1, oD (.ptr 1 0))] [(1, .box (Ah p0))]) (fun _ _ => rfl) (sm [] _ _ rfl rfl) (fun j7 n7 v7 h => ?_) (fun v8 s h hs => ?_)
     ·unfold BA at h
      refine wq rfl (AT rfl (Aa (AO ?_)))
      refine Bc h (fun h => ?_) fun h => ?_
      ·refine Al (AO (AM (wq rfl (qm rfl ?_))))
       refine BT h fun v10 a10 b10 h => qi Au Cy a10 (Af b10) rfl (qk BL rfl (qa rfl (qe rfl ?_)))
       refine AK h (fun v11 => mk [(1, oD (.ptr 1 0)), (33, pD (.sl (p0.fb.map An))), (34, iD ((p0.fb.length : Int))), (35, iD v7), (65, bD v11)] [(1, .box (Ah p0))]) (fun j11 h => ?_) (fun v11 h => ?_)
       ·refine Ag Az rfl (qm rfl (AT rfl (qm rfl ?_)))
        refine Dm 42 h rfl (fun h => ?_) fun h => ?_
        ·refine qw 2 rfl (qp rfl (qw 9 rfl (qp rfl (qw 9 rfl (qp rfl (Aa ?_))))))
         exact sn [] h
        ·refine qm rfl (EP rfl (qp rfl (qm rfl ?_)))
         refine Dm 46 h rfl (fun h => ?_) fun h => ?_
         ·refine qw 8 rfl (qp rfl (qw 9 rfl (qp rfl (Aa ?_))))
          exact sn [] h
         ·refine qf F4 rfl (ql AV rfl (qm rfl ?_))
          refine BT h fun v14 a14 b14 h => qi Au Cy a14 (Af b14) rfl (qk BL rfl (qm rfl ?_))
          refine BS h fun v15 a15 h => Ar [] (Gy N v14 v10 v15 a15) Uf rfl (BX rfl (qp rfl (qm rfl ?_)))
          refine Dm 56 h rfl (fun h => ?_) fun h => ?_
          ·refine qw 8 rfl (qp rfl (Aa ?_))
           exact sn [] h
          ·refine qf H8 rfl (ql AV rfl (qm rfl ?_))
           refine BT h fun v17 a17 b17 h => qi Au Cy a17 (Af b17) rfl (qk BL rfl (qm rfl ?_))
           refine BS h fun v18 a18 h => Ar [] (Gy N v17 v10 v18 a18) Uf rfl (BX rfl (qp rfl (Aa ?_)))
           exact sn [] h
       ·refine Bc h (fun h => ?_) fun h => ?_
        ·refine wq rfl (qe rfl ?_)
         obtain rfl := sj h
         refine Ae (sm [] [(2, iD 7)] [] rfl rfl) (Ap ?_)
         exact ⟨⟨[_], tm, rfl⟩, tv⟩
        ·refine Al (Ag Az rfl (Be rfl (qm rfl (Aa ?_))))
         exact sn [] h
      ·refine AS ?_
       exact sn [] h
     ·refine Ae hs (wp rfl (qf Cd rfl (ql GD rfl (AB DG rfl (qm rfl (Aa ?_))))))
      refine AH (L := Bs N p0) h (fun v20 => mk [(1, oD (.ptr 1 0)), (68, pD (.sl (p0.fe.map AQ))), (69, iD ((p0.fe.length : Int))), (70, iD v20)] [(1, .box (Ah p0))]) (fun v21 => mk [] []) (fun _ _ => rfl) (sm [] _ _ rfl rfl) (fun j20 n20 v20 h => ?_) (fun v21 s h hs => ?_)
      ·unfold Bs at h
       refine wq rfl (AT rfl (Aa (AO ?_)))
       refine Bc h (fun h => ?_) fun h => ?_
       ·refine Al (AO (AM (wq rfl ?_)))
        refine BT h fun v23 a23 b23 h => qi DG Dr a23 (Af b23) rfl (qK Gv Dr rfl (qz KU rfl (qs Dr rfl (Aa (wq rfl (qL CL Cp rfl (qL Gv Dr rfl ?_)))))))
        refine BS h fun v24 a24 h => Ar [] (M3 N p0 v23 v24 a24) WL rfl (qa rfl (Aa (wq rfl (qm rfl (BB rfl (Aa ?_))))))
        refine Bc h (fun h => ?_) fun h => ?_
        ·refine wq rfl (qm rfl (qe rfl ?_))
         obtain rfl := sj h
         refine Ae (sm [] [(2, iD v24)] [] rfl rfl) (Ap ?_)
         exact ⟨⟨[_], tm, rfl⟩, tv⟩
        ·refine Al (Ag Az rfl (Be rfl (qm rfl (Aa ?_))))
         exact sn [] h
       ·refine AS ?_
        exact sn [] h
      ·refine Ae hs (wq rfl (qe rfl ?_))
       obtain rfl := sj h
       refine Ae (sm [] [(2, iD 0)] [] rfl rfl) (Ap ?_)
       exact ⟨⟨[_], tm, rfl⟩, tv⟩
theorem Da (N : Nat) (p0 : List Int) (r : (List Int)) (h : Bq N p0 = some r) : Aq Tryz.prog 66 [pD (.sl (p0.map An))] [(1, r.map An)] (oD (.own 0)) := by
 unfold Bq at h
 refine cw (n := 8) (rs := [.tmp 2]) Tryz.func66 fun w0 S0 => ?_
 refine wq rfl (qa rfl (Aa (wp rfl (qm rfl ?_))))
 refine N0 (.p rfl) rfl Au ?_
 refine Aa ?_
 refine OC rfl (fun c2 => ?_) ?_
 ·have c2 := List.map_eq_nil_iff.1 c2
  rw [c2] at h
  have h : (some (([] : List Int))) = some r := h
  refine wq rfl (qe rfl ?_)
  obtain rfl := sj h
  refine Ae ((B2 2 2001 1 rfl rfl rfl).trans (sm [(1000, 2001)] [(2, oD (.own 1000))] [(1000, .vec 1 ((([] : List Int)).map An))] rfl rfl)) (Ap ?_)
  exact ⟨⟨[_], tm, rfl⟩, ⟨rfl, tv⟩⟩
 ·refine Al (wq rfl (D1 Au Cy I1 rfl (qm rfl ?_)))
  refine Ey h fun c1 h => HM (f := An) Au Au Cy Ja I1 (fun _ => rfl) c1 rfl (qe rfl ?_)
  obtain rfl := sj h
  refine Ae (sm [(1000, 7)] [(2, oD (.own 1000))] [(1000, .vec 1 (((([] : List Int)) ++ p0).map An))] rfl rfl) (Ap ?_)
  exact ⟨⟨[_], tm, rfl⟩, ⟨rfl, tv⟩⟩
theorem KH (N : Nat) (p0 : Int) (p1 : Int) (r : Int × Int) (h : Gg N p0 p1 = some r) : Aq Tryz.prog 104 [pD (.val (.int .u32 p0)), pD (.val (.int .u32 p1))] [] (.tup [.one (.pure (.val (.int .u32 r.1))), .one (.pure (.val (.int .u32 r.2)))]) := by
 unfold Gg at h
 refine cw (n := 17) (rs := [.tmp 4, .tmp 5]) Tryz.func104 fun w0 S0 => ?_
 refine wq rfl (qa rfl (qa rfl (Aa (wq rfl (qm rfl (Iv QL Uz rfl (qm rfl (Iv QL Uz rfl (KA rfl (qa rfl (Aa (wq rfl (qm rfl (Ix rfl (by decide) (Iv Uv QE rfl (qm rfl (Iv Uv QE rfl (qa rfl (qe rfl ?_)))))))))))))))))))
 obtain rfl := sj h
 refine Ae (sm [] [(4, pD (.val (.int .u32 ((wI .u32 ((EO .u64 ((wI .u64 ((wI .u64 p0) * (wI .u64 p1)))) 32))))))), (5, pD (.val (.int .u32 ((wI .u32 ((wI .u64 ((wI .u64 p0) * (wI .u64 p1)))))))))] [] rfl rfl) (Ap ?_)
 exact ⟨⟨[_, _], ⟨.tmp _ _ rfl, tm⟩, rfl⟩, tv⟩
theorem Kx (N : Nat) (p0 : Int) (p1 : Int) (r : Int × Int) (h : Ga N p0 p1 = some r) : Aq Tryz.prog 105 [pD (.val (.int .u64 p0)), pD (.val (.int .u64 p1))] [] (.tup [.one (.pure (.val (.int .u64 r.1))), .one (.pure (.val (.int .u64 r.2)))]) := by
 unfold Ga at h
 refine cw (n := 51) (rs := [.tmp 4, .tmp 5]) Tryz.func105 fun w0 S0 => ?_
 refine wq rfl (qa rfl (qa rfl (Aa (wq rfl (qm rfl (Km rfl (qa rfl (Aa (wq rfl (qm rfl (Ix rfl (by decide) (qa rfl (Aa (wq rfl (qm rfl (Km rfl (qa rfl (Aa (wq rfl (qm rfl (Ix rfl (by decide) (qa rfl (Aa (wq rfl (qw 2 rfl (KA rfl (qa rfl (Aa (wq rfl (qw 2 rfl ?_))))))))))))))))))))))))))))))
 refine KA rfl (qm rfl (Ix rfl (by decide) (Be rfl (qa rfl (Aa (wq rfl (qm rfl (Km rfl (qa rfl (Aa (wq rfl (qm rfl (Ix rfl (by decide) (qa rfl (Aa (wq rfl (qw 3 rfl (KA rfl (Be rfl (qa rfl (Aa (wq rfl (qw 2 rfl (KA rfl (qm rfl (Be rfl (qm rfl (Ix rfl (by decide) (Be rfl (qa rfl (Aa (AO ?_))))))))))))))))))))))))))))))))
 refine Ag Az rfl (qw 2 rfl (KA rfl (qe rfl ?_)))
 obtain rfl := sj h
 refine Ae (sm [] [(4, pD (.val (.int .u64 ((wI .u64 ((wI .u64 ((wI .u64 ((EO .u64 p0 32) * (EO .u64 p1 32))) + (EO .u64 ((wI .u64 ((wI .u64 ((EO .u64 p0 32) * (EN .u64 p1 4294967295))) + (EO .u64 ((wI .u64 ((EN .u64 p0 4294967295) * (EN .u64 p1 4294967295)))) 32)))) 32))) + (EO .u64 ((wI .u64 ((EN .u64 ((wI .u64 ((wI .u64 ((EO .u64 p0 32) * (EN .u64 p1 4294967295))) + (EO .u64 ((wI .u64 ((EN .u64 p0 4294967295) * (EN .u64 p1 4294967295)))) 32)))) 4294967295) + (wI .u64 ((EN .u64 p0 4294967295) * (EO .u64 p1 32)))))) 32))))))), (5, pD (.val (.int .u64 ((wI .u64 (p0 * p1))))))] [] rfl rfl) (Ap ?_)
 exact ⟨⟨[_, _], ⟨.tmp _ _ rfl, tm⟩, rfl⟩, tv⟩
theorem LP (N : Nat) (p0 : Int) (p1 : Int) (r : Int × Int) (h : GZ N p0 p1 = some r) : Aq Tryz.prog 91 [pD (.val (.int .u64 p0)), pD (.val (.int .u64 p1))] [] (.tup [.one (.pure (.val (.int .u64 r.1))), .one (.pure (.val (.int .u64 r.2)))]) := by
 unfold GZ at h
 refine cw (n := 30) (rs := [.tmp 4, .tmp 5]) Tryz.func91 fun w0 S0 => ?_
 refine wq rfl (qa rfl (qa rfl (Aa (AO ?_))))
 refine Bc h (fun h => ?_) fun h => ?_
 ·refine wq rfl (qm rfl (Iv SI QE rfl (qm rfl (Iv SI QE rfl ?_))))
  refine BS h fun v2 a2 h => Ar [] (KH N ((wI .u32 p0)) ((wI .u32 p1)) v2 a2) Wp rfl (qm rfl (qx rfl (qx rfl (qa rfl (qa rfl (Aa (wq rfl (qm rfl (Iv QL QF rfl (qm rfl (Iv QL QF rfl (qa rfl (qe rfl ?_)))))))))))))
  obtain rfl := sj h
  refine Ae (sm [] [(4, pD (.val (.int .u64 ((wI .u64 v2.1))))), (5, pD (.val (.int .u64 ((wI .u64 v2.2)))))] [] rfl rfl) (Ap ?_)
  exact ⟨⟨[_, _], ⟨.tmp _ _ rfl, tm⟩, rfl⟩, tv⟩
 ·refine Al (wq rfl (qw 2 rfl ?_))
  refine BS h fun v3 a3 h => Ar [] (Kx N p0 p1 v3 a3) WD rfl (qm rfl (qx rfl (qx rfl (qa rfl (qa rfl (Aa (wq rfl (qw 2 rfl (qa rfl (qe rfl ?_))))))))))
  obtain rfl := sj h
  refine Ae (sm [] [(4, pD (.val (.int .u64 v3.1))), (5, pD (.val (.int .u64 v3.2)))] [] rfl rfl) (Ap ?_)
  exact ⟨⟨[_, _], ⟨.tmp _ _ rfl, tm⟩, rfl⟩, tv⟩
theorem IC (N : Nat) (p0 : List Int) (p1 : Int) (r : (List Int)) (h : Er N p0 p1 = some r) : Aq Tryz.prog 67 [pD (.sl (p0.map An)), iD p1] [(1, r.map An)] (oD (.own 0)) := by
 unfold Er at h
 refine cw (n := 48) (rs := [.tmp 4]) Tryz.func67 fun w0 S0 => ?_
 refine wq rfl (qe rfl ?_)
 refine AK h (fun v1 => mk [(0, pD (.sl (p0.map An))), (1, iD p1)] []) (fun j1 h => ?_) (fun v1 h => ?_)
 ·refine wq rfl (qm rfl (AT rfl (Aa ?_)))
  refine Bc h (fun h => ?_) fun h => ?_
  ·refine Ag Az rfl ?_
   cases h
  ·refine Al ?_
   exact sn [] h
 ·refine wq rfl (qm rfl (AB Au rfl (Iv Xt QF rfl (qm rfl (Iv Xt QF rfl ?_)))))
  refine BS h fun v3 a3 h => Ar [] (LP N ((wI .u64 ((p0.length : Int)))) ((wI .u64 p1)) v3 a3) Xx rfl (qm rfl (qx rfl (qx rfl (qa rfl (qe rfl ?_)))))
  refine AK h (fun v4 => mk [(0, pD (.sl (p0.map An))), (6, pD (.val (.int .u64 v3.2)))] []) (fun j4 h => ?_) (fun v4 h => ?_)
  ·refine AK h (fun v5 => mk [(0, pD (.sl (p0.map An))), (6, pD (.val (.int .u64 v3.2))), (26, bD v5)] []) (fun j5 h => ?_) (fun v5 h => ?_)
   ·refine Ag Az rfl (qm rfl (EP rfl (qm rfl ?_)))
    refine Dm 23 h rfl (fun h => ?_) fun h => ?_
    ·refine qw 2 rfl (qp rfl (Aa ?_))
     exact sn [] h
    ·refine qm rfl (EP rfl (qp rfl (Aa ?_)))
     exact sn [] h
   ·refine Bc h (fun h => ?_) fun h => ?_
    ·refine Ag Az rfl ?_
     cases h
    ·refine Al ?_
     exact sn [] h
  ·refine wq rfl (qm rfl (Iv SI TX rfl ?_))
   refine Ey h fun c8 h => LC (.p rfl) rfl rfl rfl Au Cy Ja (IY rfl) I1 rfl rfl rfl c8.1 c8.2.1 c8.2.2 (QX An _ ((0 : Int))) ?_
   refine qa rfl (Aa (wq rfl (qw 2 rfl ?_)))
   refine Qw An (List.replicate ((wI .i64 v3.2)).toNat ((0 : Int))) p0 (.p rfl) rfl (Ju An _ _ (List.replicate ((wI .i64 v3.2)).toNat ((0 : Int)))) rfl rfl (T3 An _ _ (fun _ => rfl)) tv Au Cy ?_
   refine qa rfl (Aa (AO ?_))
   refine AH (L := C4 N) h (fun v9 => mk [(7, oD (.own 2001)), (8, iD v9.2)] [(2001, .vec 1 (v9.1.map An))]) (fun v10 => mk [(7, oD (.own 2002))] [(2002, .vec 1 (v10.map An))]) (fun _ _ => rfl) (sm [(2001, 30)] _ _ rfl rfl) (fun j9 n9 v9 h => ?_) (fun v10 s h hs => ?_)
   ·unfold C4 at h
    refine wp rfl (qw 2 rfl (FI Au rfl (AT rfl (Aa ?_))))
    refine Bc h (fun h => ?_) fun h => ?_
    ·refine Al (AM (Ag Az rfl (qw 3 rfl ?_)))
     obtain ⟨c12, h⟩ := Gz h
     have w13 : ((v9.2).toNat) + ((v9.1.length - (v9.2).toNat)) ≤ v9.1.length := by have := c12.2.1; have := c12.2.2; omega
     refine Jb An v9.1 (.p rfl) rfl (Ju An _ _ v9.1) rfl Au Cy (.some _ _ _ _ c12.1) (.none _) ⟨rfl, tv⟩ tv c12.2.1 (by rw [Nat.zero_add]; exact c12.2.2) (Nat.zero_add _) rfl ?_
     refine qw 2 rfl ?_
     obtain ⟨c14, h⟩ := Gz h
     have w15 : 0 + ((v9.2).toNat) ≤ v9.1.length := by have := c14.2.1; have := c14.2.2; omega
     refine Jb An v9.1 (.p rfl) rfl (Ju An _ _ v9.1) rfl Au Cy (.none _) (.some _ _ _ _ c14.1) tv ⟨rfl, tv⟩ c14.2.1 (by rw [Nat.zero_add]; exact c14.2.2) (Nat.zero_add _) rfl ?_
     refine Qw An v9.1 (((v9.1.drop 0).take ((v9.2).toNat))) (.p rfl) rfl (JC An _ _ ((v9.2).toNat) ((v9.1.length - (v9.2).toNat)) v9.1 w13) rfl rfl (NS An _ _ 0 ((v9.2).toNat) v9.1 w15) ⟨rfl, tv⟩ Au Cy ?_
     refine Be rfl (qa rfl (AI (by kernel_rfl) ?_))
     exact sn [] h
    ·refine AS ?_
     exact sn [(2002, 2001)] h
   ·refine Ae hs (wq rfl (qm rfl (qe rfl ?_)))
    obtain rfl := sj h
    refine Ae (sm [(1000, 2002)] [(4, oD (.own 1000))] [(1000, .vec 1 (v10.map An))] rfl rfl) (Ap ?_)
    exact ⟨⟨[_], tm, rfl⟩, ⟨rfl, tv⟩⟩
theorem IP (N : Nat) (p0 : Av) (r : Bool) (h : Ew N p0 = some r) : Aq Tryz.prog 51 [.e (.agg (A7 p0))] [] (bD r) := by
 unfold Ew at h
 refine cw (n := 11) (rs := [.tmp 2]) Tryz.func51 fun w0 S0 => ?_
 refine wq rfl (qb rfl (qe rfl ?_))
 refine AK h (fun v1 => mk [(2, bD v1)] []) (fun j1 h => ?_) (fun v1 h => ?_)
 ·refine Ag Az rfl (qf Fa rfl (ql BL rfl (Br rfl (qm rfl ?_))))
  refine Dm 6 h rfl (fun h => ?_) fun h => ?_
  ·refine qw 3 rfl (qp rfl (qe rfl ?_))
   exact sn [] h
  ·refine qf Fa rfl (ql BL rfl (Br rfl (qp rfl (qe rfl ?_))))
   exact sn [] h
 ·obtain rfl := sj h
  refine Ae (sm [] [(2, bD v1)] [] rfl rfl) (Ap ?_)
  exact ⟨⟨[_], tm, rfl⟩, tv⟩
theorem Jm (N : Nat) (p0 : Ab) (r : Ac × Int) (h : GA N p0 = some r) : Aq Tryz.prog 44 [.e (.agg (Ah p0))] [(1, r.1.fd.map An), (1, r.1.fa.map An), (1, r.1.fc.map B3)] (.tup [.agg [.own 0, .own 1, .own 2], .one (iC r.2)]) := by
 unfold GA at h
 refine cw (n := 50) (rs := [.cell 2 38, .tmp 3]) Tryz.func44 fun w0 S0 => ?_
 refine wq rfl (qb rfl (qz Cb rfl (qa rfl (Aa (wp rfl (qL CL Cp rfl ?_))))))
 refine BS h fun v1 a1 h => Ar [] (Fv N p0 v1 a1) Vb rfl (qa rfl (Aa (wq rfl (qm rfl (BB rfl (Aa ?_))))))
 refine Bc h (fun h => ?_) fun h => ?_
 ·refine wq rfl (A8 Cb F5 rfl (qm rfl (qs AF rfl (qe rfl ?_))))
  obtain rfl := sj h
  refine Ae ((Ax 2 0 2001 1 _ rfl rfl rfl rfl).trans ((Ax 2 1 2002 1 _ rfl rfl rfl rfl).trans ((Ax 2 2 2003 1 _ rfl rfl rfl rfl).trans (sm [(1000, 2001), (1001, 2002), (1002, 2003)] [(2, oD (.ptr 2 0)), (3, iD v1)] [(2, .box [.own 1000, .own 1001, .own 1002]), (1000, .vec 1 ((([] : List Int)).map An)), (1001, .vec 1 ((([] : List Int)).map An)), (1002, .vec 1 ((([] : List Int)).map B3))] rfl rfl)))) (Ap ?_)
  exact ⟨⟨[_, _], ⟨.cellN _ _ _ _ _ _ _ rfl rfl A0 AF rfl rfl (GV rfl), tm⟩, rfl⟩, ⟨rfl, rfl, rfl, tv⟩⟩
 ·refine Al (wq rfl (qf F4 rfl (ql AV rfl ?_)))
  refine BS h fun v3 a3 h => Ar [2004] (Da N p0.fm v3 a3) SP rfl (D1 Au Cy I1 rfl (qf F4 rfl (ql AV rfl (AB Au rfl ?_))))
  refine BS h fun v4 a4 h => FY [2005] [17] (IC N (([(-1)] : List Int)) ((p0.fm.length : Int)) v4 a4) W1 (IW (fun _ => rfl) Eh) rfl (qf Cd rfl (ql GD rfl (AB DG rfl ?_)))
  refine Ey h fun c5 h => LC (.p rfl) rfl rfl rfl Cw EQ Ni (IY rfl) Mt rfl rfl rfl c5.1 c5.2.1 c5.2.2 (QX B3 _ ((0 : Int))) ?_
  refine A8 Cb F5 rfl (qz Cb rfl (qs AF rfl (AI (by kernel_rfl) (wp rfl (qf Cd rfl (ql GD rfl (AB DG rfl (qm rfl (Aa ?_)))))))))
  refine AH (L := F3 N p0) h (fun v6 => mk [(1, oD (.ptr 1 0)), (2, oD (.ptr 2 0)), (5, oD (.ptr 5 0)), (28, pD (.sl (p0.fe.map AQ))), (29, iD ((p0.fe.length : Int))), (30, iD v6.2)] [(1, .box (Ah p0)), (2, .box [.pure (.nil0), .pure (.nil0), .pure (.nil0)]), (5, .box [.own 2006, .own 2007, .own 2008]), (2006, .vec 1 (v3.map An)), (2007, .vec 1 (v4.map An)), (2008, .vec 1 (v6.1.map B3))]) (fun v7 => mk [(2, oD (.ptr 2 0)), (5, oD (.ptr 5 0))] [(2, .box [.pure (.nil0), .pure (.nil0), .pure (.nil0)]), (5, .box [.own 2009, .own 2010, .own 2011]), (2009, .vec 1 (v3.map An)), (2010, .vec 1 (v4.map An)), (2011, .vec 1 (v7.map B3))]) (fun _ _ => rfl) (sm [(2006, 2004), (2007, 2005), (2008, 25)] _ _ rfl rfl) (fun j6 n6 v6 h => ?_) (fun v7 s h hs => ?_)
  ·unfold F3 at h
   refine wq rfl (AT rfl (Aa (AO ?_)))
   refine Bc h (fun h => ?_) fun h => ?_
   ·refine Al ?_
    refine AK h (fun v9 => mk [(1, oD (.ptr 1 0)), (2, oD (.ptr 2 0)), (5, oD (.ptr 5 0)), (28, pD (.sl (p0.fe.map AQ))), (29, iD ((p0.fe.length : Int))), (30, iD v6.2)] [(1, .box (Ah p0)), (2, .box [.pure (.nil0), .pure (.nil0), .pure (.nil0)]), (5, .box [.own 2012, .own 2013, .own 2014]), (2012, .vec 1 (v3.map An)), (2013, .vec 1 (v4.map An)), (2014, .vec 1 (v9.map B3))]) (fun j9 h => ?_) (fun v9 h => ?_)
    ·refine AM (wq rfl (qm rfl ?_))
     refine BT h fun v10 a10 b10 h => qi DG Dr a10 (Af b10) rfl (qK Gv Dr rfl (qz KU rfl (qa rfl (qs Dr rfl (Aa (wq rfl (qL Gv Dr rfl ?_)))))))
     refine BS h fun v11 a11 h => Ar [] (IP N v10 v11 a11) UH rfl (Aa ?_)
     refine Bc h (fun h => ?_) fun h => ?_
     ·refine Ag Az rfl (qf BZ rfl (ql Ge rfl (qm rfl (qf F4 rfl (ql AV rfl (qf Ck rfl (ql BL rfl ?_)))))))
      refine BT h fun v13 a13 b13 h => qi Au Cy a13 (Af b13) rfl (qk BL rfl ?_)
      refine Ey h fun c14 h => H6 rfl c14 ?_
      refine BT h fun v15 a15 b15 h => qI Cw EQ a15 (Af b15) rfl ?_
      refine Ej rfl rfl rfl rfl (Af b15) rfl EQ rfl (IY rfl) (Eo B3 v6.1 _ ((C7 .u8 1 v13))) ?_
      refine AI (by kernel_rfl) ?_
      exact sn [(2012, 2006), (2013, 2007), (2014, 2008)] h
     ·refine Al ?_
      exact sn [(2012, 2006), (2013, 2007), (2014, 2008)] h
    ·refine Ag Az rfl (Be rfl (qm rfl (Aa ?_)))
     exact sn [(2006, 2012), (2007, 2013), (2008, 2014)] h
   ·refine AS ?_
    exact sn [(2009, 2006), (2010, 2007), (2011, 2008)] h
  ·refine Ae hs (wq rfl (qL A0 AF rfl (qs AF rfl (qe rfl ?_))))
   obtain rfl := sj h
   refine Ae (sm [(1000, 2009), (1001, 2010), (1002, 2011)] [(2, oD (.ptr 2 0)), (3, iD 0)] [(2, .box [.own 1000, .own 1001, .own 1002]), (1000, .vec 1 (v3.map An)), (1001, .vec 1 (v4.map An)), (1002, .vec 1 (v7.map B3))] rfl rfl) (Ap ?_)
   exact ⟨⟨[_, _], ⟨.cellN _ _ _ _ _ _ _ rfl rfl A0 AF rfl rfl (GV rfl), tm⟩, rfl⟩, ⟨rfl, rfl, rfl, tv⟩⟩
theorem Il (N : Nat) (p0 : Ac) (p1 : Int) (r : Int) (h : Eb N p0 p1 = some r) : Aq Tryz.prog 52 [.e (.agg (Ay p0)), iD p1] [] (pD (.val (.int .u8 r))) := by
 unfold Eb at h
 refine cw (n := 27) (rs := [.tmp 4]) Tryz.func52 fun w0 S0 => ?_
 refine wq rfl (qb rfl (qa rfl (Aa (wq rfl (qf Ce rfl (ql AV rfl (qm rfl ?_)))))))
 refine BT h fun v1 a1 b1 h => qi Au Cy a1 (Af b1) rfl (qk BL rfl ?_)
 refine Ey h fun c2 h => H6 rfl c2 (qe rfl ?_)
 refine AK h (fun v3 => mk [(5, pD (.val (.int .u8 v3)))] []) (fun j3 h => ?_) (fun v3 h => ?_)
 ·refine wq rfl (qf Bf rfl (ql AV rfl (qm rfl ?_)))
  refine BT h fun v4 a4 b4 h => qi Au Cy a4 (Af b4) rfl (qk BL rfl (Ep rfl (Aa ?_)))
  refine Bc h (fun h => ?_) fun h => ?_
  ·refine Ag Az rfl (qm rfl (qf Bf rfl (ql AV rfl (qm rfl ?_))))
   refine BT h fun v6 a6 b6 h => qi Au Cy a6 (Af b6) rfl (qk BL rfl ?_)
   refine Ey h fun c7 h => H6 rfl c7 (Rd rfl (qe rfl ?_))
   exact sn [] h
  ·refine Al ?_
   exact sn [] h
 ·refine wq rfl (qm rfl (qe rfl ?_))
  obtain rfl := sj h
  refine Ae (sm [] [(4, pD (.val (.int .u8 v3)))] [] rfl rfl) (Ap ?_)
  exact ⟨⟨[_], tm, rfl⟩, tv⟩
theorem Ic (N : Nat) (p0 : Ab) (p1 : Ac) (r : Int) (h : Em N p0 p1 = some r) : Aq Tryz.prog 29 [.e (.agg (Ah p0)), .e (.agg (Ay p1))] [] (iD r) := by
 unfold Em at h
 refine cw (n := 135) (rs := [.tmp 4]) Tryz.func29 fun w0 S0 => ?_
 refine wq rfl (qb rfl (qb rfl (qa rfl (Aa (wp rfl (qL CL Cp rfl ?_))))))
 refine BS h fun v1 a1 h => Ar [] (Fv N p0 v1 a1) Vb rfl (qa rfl (Aa (wq rfl (qm rfl (BB rfl (Aa ?_))))))
 refine Bc h (fun h => ?_) fun h => ?_
 ·refine wq rfl (qm rfl (qe rfl ?_))
  obtain rfl := sj h
  refine Ae (sm [] [(4, iD v1)] [] rfl rfl) (Ap ?_)
  exact ⟨⟨[_], tm, rfl⟩, tv⟩
 ·refine Al (AO ?_)
  refine AK h (fun v3 => mk [(2, oD (.ptr 2 0)), (3, oD (.ptr 3 0)), (41, bD v3)] [(2, .box (Ah p0)), (3, .box (Ay p1))]) (fun j3 h => ?_) (fun v3 h => ?_)
  ·refine Ag Az rfl (qf Ce rfl (ql AV rfl (AB Au rfl (qf Bg rfl (ql AV rfl (AB Au rfl (BB rfl (qm rfl ?_))))))))
   refine Dm 24 h rfl (fun h => ?_) fun h => ?_
   ·refine qw 7 rfl (qp rfl (qw 8 rfl (qp rfl (Aa ?_))))
    exact sn [] h
   ·refine qf Bf rfl (ql AV rfl (AB Au rfl (qf Bg rfl (ql AV rfl (AB Au rfl (BB rfl (qp rfl (qm rfl ?_))))))))
    refine Dm 33 h rfl (fun h => ?_) fun h => ?_
    ·refine qw 7 rfl (qp rfl (Aa ?_))
     exact sn [] h
    ·refine qf BZ rfl (ql Ge rfl (AB Cw rfl (qf Cd rfl (ql GD rfl (AB DG rfl (BB rfl (qp rfl (Aa ?_))))))))
     exact sn [] h
  ·refine Bc h (fun h => ?_) fun h => ?_
   ·refine wq rfl (qe rfl ?_)
    obtain rfl := sj h
    refine Ae (sm [] [(4, iD 6)] [] rfl rfl) (Ap ?_)
    exact ⟨⟨[_], tm, rfl⟩, tv⟩
   ·refine Al (wp rfl (qf Bg rfl (ql AV rfl (AB Au rfl (qm rfl (Aa ?_))))))
    refine AH (L := Do N p0 p1) h (fun v7 => mk [(2, oD (.ptr 2 0)), (3, oD (.ptr 3 0)), (43, pD (.sl (p0.fb.map An))), (44, iD ((p0.fb.length : Int))), (45, iD v7)] [(2, .box (Ah p0)), (3, .box (Ay p1))]) (fun v8 => mk [(2, oD (.ptr 2 0)), (3, oD (.ptr 3 0))] [(2, .box (Ah p0)), (3, .box (Ay p1))]) (fun _ _ => rfl) (sm [] _ _ rfl rfl) (fun j7 n7 v7 h => ?_) (fun v8 s h hs => ?_)
    ·unfold Do at h
     refine wq rfl (AT rfl (Aa (AO ?_)))
     refine Bc h (fun h => ?_) fun h => ?_
     ·refine Al (AO (AM (wq rfl (qm rfl ?_))))
      refine BT h fun v10 a10 b10 h => qi Au Cy a10 (Af b10) rfl (qk BL rfl (qa rfl (qa rfl (Aa (AO ?_)))))
      refine AK h (fun v11 => mk [(2, oD (.ptr 2 0)), (3, oD (.ptr 3 0)), (6, iD v7), (43, pD (.sl (p0.fb.map An))), (44, iD ((p0.fb.length : Int))), (45, iD v7), (81, bD v11)] [(2, .box (Ah p0)), (3, .box (Ay p1))]) (fun j11 h => ?_) (fun v11 h => ?_)
      ·refine Ag Az rfl (qf Ce rfl (ql AV rfl (qm rfl ?_)))
       refine BT h fun v12 a12 b12 h => qi Au Cy a12 (Af b12) rfl (qk BL rfl (AT rfl (qm rfl ?_)))
       refine Dm 56 h rfl (fun h => ?_) fun h => ?_
       ·refine qw 7 rfl (qp rfl (qw 7 rfl (qp rfl (qw 8 rfl (qp rfl (Aa ?_))))))
        exact sn [] h
       ·refine qf Ce rfl (ql AV rfl (qm rfl ?_))
        refine BT h fun v14 a14 b14 h => qi Au Cy a14 (Af b14) rfl (qk BL rfl (qm rfl (Ep rfl (qp rfl (qm rfl ?_)))))
        refine Dm 65 h rfl (fun h => ?_) fun h => ?_
        ·refine qw 6 rfl (qp rfl (qw 8 rfl (qp rfl (Aa ?_))))
         exact sn [] h
        ·refine qf Bf rfl (ql AV rfl (qm rfl ?_))
         refine BT h fun v16 a16 b16 h => qi Au Cy a16 (Af b16) rfl (qk BL rfl (AT rfl (qp rfl (qm rfl ?_))))
         refine Dm 73 h rfl (fun h => ?_) fun h => ?_
         ·refine qw 7 rfl (qp rfl (Aa ?_))
          exact sn [] h
         ·refine qf Bf rfl (ql AV rfl (qm rfl ?_))
          refine BT h fun v18 a18 b18 h => qi Au Cy a18 (Af b18) rfl (qk BL rfl (qm rfl (Ep rfl (qp rfl (Aa ?_)))))
          exact sn [] h
      ·refine Bc h (fun h => ?_) fun h => ?_
       ·refine wq rfl (qe rfl ?_)
        obtain rfl := sj h
        refine Ae (sm [] [(4, iD 7)] [] rfl rfl) (Ap ?_)
        exact ⟨⟨[_], tm, rfl⟩, tv⟩
       ·refine Al (wq rfl (qf Ce rfl (ql AV rfl (qm rfl ?_))))
        refine BT h fun v20 a20 b20 h => qi Au Cy a20 (Af b20) rfl (qk BL rfl (qf Bf rfl (ql AV rfl (qm rfl ?_))))
        refine BT h fun v21 a21 b21 h => qi Au Cy a21 (Af b21) rfl (qk BL rfl (Br rfl (AI (by kernel_rfl) ?_)))
        refine Bc h (fun h => ?_) fun h => ?_
        ·refine wq rfl (qe rfl ?_)
         obtain rfl := sj h
         refine Ae (sm [] [(4, iD 1)] [] rfl rfl) (Ap ?_)
         exact ⟨⟨[_], tm, rfl⟩, tv⟩
        ·refine Al (Ag Az rfl (Be rfl (qm rfl (Aa ?_))))
         exact sn [] h
     ·refine AS ?_
      exact sn [] h
    ·refine Ae hs (wp rfl (qf Cd rfl (ql GD rfl (AB DG rfl (qm rfl (Aa ?_))))))
     refine AH (L := C1 N p0 p1) h (fun v23 => mk [(2, oD (.ptr 2 0)), (3, oD (.ptr 3 0)), (95, pD (.sl (p0.fe.map AQ))), (96, iD ((p0.fe.length : Int))), (97, iD v23)] [(2, .box (Ah p0)), (3, .box (Ay p1))]) (fun v24 => mk [] []) (fun _ _ => rfl) (sm [] _ _ rfl rfl) (fun j23 n23 v23 h => ?_) (fun v24 s h hs => ?_)
     ·unfold C1 at h
      refine wq rfl (AT rfl (Aa (AO ?_)))
      refine Bc h (fun h => ?_) fun h => ?_
      ·refine Al (AO (AM (wq rfl (qm rfl ?_))))
       refine BT h fun v26 a26 b26 h => qi DG Dr a26 (Af b26) rfl (qK Gv Dr rfl (qz KU rfl (qa rfl (qs Dr rfl (Aa (wq rfl (qa rfl (qe rfl ?_))))))))
       refine AK h (fun v27 => mk [(2, oD (.ptr 2 0)), (3, oD (.ptr 3 0)), (8, iD v23), (10, pD (.val (.int .u8 v27.1))), (11, pD (.val (.int .u8 v27.2))), (95, pD (.sl (p0.fe.map AQ))), (96, iD ((p0.fe.length : Int))), (97, iD v23)] [(2, .box (Ah p0)), (3, .box (Ay p1))]) (fun j27 h => ?_) (fun v27 h => ?_)
       ·refine wq rfl (qL Gv Dr rfl ?_)
        refine BS h fun v28 a28 h => Ar [] (IP N v26 v28 a28) UH rfl (Aa ?_)
        refine Bc h (fun h => ?_) fun h => ?_
        ·refine Ag Az rfl (qL A0 AF rfl (qf Ck rfl (ql BL rfl ?_)))
         refine BS h fun v30 a30 h => Ar [] (Il N p1 v26.fg v30 a30) UL rfl (qf Bg rfl (ql AV rfl (qf Ck rfl (ql BL rfl ?_))))
         refine BT h fun v31 a31 b31 h => qi Au Cy a31 (Af b31) rfl (qk BL rfl ?_)
         refine Ey h fun c32 h => H6 rfl c32 (NL rfl (qa rfl (qa rfl (AI (by kernel_rfl) ?_))))
         exact sn [] h
        ·refine Al ?_
         exact sn [] h
       ·refine AK h (fun v33 => mk [(2, oD (.ptr 2 0)), (3, oD (.ptr 3 0)), (95, pD (.sl (p0.fe.map AQ))), (96, iD ((p0.fe.length : Int))), (97, iD v23), (133, bD v33)] [(2, .box (Ah p0)), (3, .box (Ay p1))]) (fun j33 h => ?_) (fun v33 h => ?_)
        ·refine Ag Az rfl (qm rfl (qf BZ rfl (ql Ge rfl (qm rfl ?_))))
         refine BT h fun v34 a34 b34 h => qi Cw EQ a34 (Af b34) rfl (qk I9 rfl (HO rfl (BB rfl (qm rfl ?_))))
         refine Dm 124 h rfl (fun h => ?_) fun h => ?_
         ·refine qw 8 rfl (qp rfl (Aa ?_))
          exact sn [] h
         ·refine qf BZ rfl (ql Ge rfl (qm rfl ?_))
          refine BT h fun v36 a36 b36 h => qi Cw EQ a36 (Af b36) rfl (qk I9 rfl (qm rfl (HO rfl (BB rfl (qp rfl (Aa ?_))))))
          exact sn [] h
        ·refine Bc h (fun h => ?_) fun h => ?_
         ·refine wq rfl (qe rfl ?_)
          obtain rfl := sj h
          refine Ae (sm [] [(4, iD 1)] [] rfl rfl) (Ap ?_)
          exact ⟨⟨[_], tm, rfl⟩, tv⟩
         ·refine Al (Ag Az rfl (Be rfl (qm rfl (Aa ?_))))
          exact sn [] h
      ·refine AS ?_
       exact sn [] h
     ·refine Ae hs (wq rfl (qe rfl ?_))
      obtain rfl := sj h
      refine Ae (sm [] [(4, iD 0)] [] rfl rfl) (Ap ?_)
      exact ⟨⟨[_], tm, rfl⟩, tv⟩
theorem EM (N : Nat) (p0 : List Int) (r : (List Int)) (h : Bu N p0 = some r) : Aq Tryz.prog 97 [pD (.sl (p0.map B3))] [(1, r.map B3)] (oD (.own 0)) := by
 unfold Bu at h
 refine cw (n := 8) (rs := [.tmp 2]) Tryz.func97 fun w0 S0 => ?_
 refine wq rfl (qa rfl (Aa (wp rfl (qm rfl ?_))))
 refine N0 (.p rfl) rfl Cw ?_
 refine Aa ?_
 refine OC rfl (fun c2 => ?_) ?_
 ·have c2 := List.map_eq_nil_iff.1 c2
  rw [c2] at h
  have h : (some (([] : List Int))) = some r := h
  refine wq rfl (qe rfl ?_)
  obtain rfl := sj h
  refine Ae ((B2 2 2001 1 rfl rfl rfl).trans (sm [(1000, 2001)] [(2, oD (.own 1000))] [(1000, .vec 1 ((([] : List Int)).map B3))] rfl rfl)) (Ap ?_)
  exact ⟨⟨[_], tm, rfl⟩, ⟨rfl, tv⟩⟩
 ·refine Al (wq rfl (D1 Cw EQ Mt rfl (qm rfl ?_)))
  refine Ey h fun c1 h => HM (f := B3) Cw Cw EQ Ni Mt (fun _ => rfl) c1 rfl (qe rfl ?_)
  obtain rfl := sj h
  refine Ae (sm [(1000, 7)] [(2, oD (.own 1000))] [(1000, .vec 1 (((([] : List Int)) ++ p0).map B3))] rfl rfl) (Ap ?_)
  exact ⟨⟨[_], tm, rfl⟩, ⟨rfl, tv⟩⟩
theorem N2 (N : Nat) (p0 : Ab) (p1 : Ac) (r : (List Ac) × Int) (h : FK N p0 p1 = some r) : Aq Tryz.prog 77 [.e (.agg (Ah p0)), .e (.agg (Ay p1))] [(3, r.1.map Co)] (.tup [.one (.own 0), .one (iC r.2)]) := by
 unfold FK at h
 refine cw (n := 75) (rs := [.tmp 4, .tmp 5]) Tryz.func77 fun w0 S0 => ?_
 refine wq rfl (qb rfl (qb rfl (qa rfl (qa rfl (Aa (wp rfl (qL CL Cp rfl (qL A0 AF rfl ?_))))))))
 refine BS h fun v1 a1 h => Ar [] (Ic N p0 p1 v1 a1) TA rfl (qa rfl (Aa (wq rfl (qm rfl (BB rfl (Aa ?_))))))
 refine Bc h (fun h => ?_) fun h => ?_
 ·refine wq rfl (qm rfl (qa rfl (qe rfl ?_)))
  obtain rfl := sj h
  refine Ae ((B2 4 2001 3 rfl rfl rfl).trans (sm [(1000, 2001)] [(4, oD (.own 1000)), (5, iD v1)] [(1000, .vec 3 ((([] : List Ac)).map Co))] rfl rfl)) (Ap ?_)
  exact ⟨⟨[_, _], ⟨.tmp _ _ rfl, tm⟩, rfl⟩, ⟨rfl, tv⟩⟩
 ·refine Al (wq rfl (qa rfl (Aa (wp rfl (qf Bf rfl (ql AV rfl (AB Au rfl (qm rfl (Aa ?_)))))))))
  refine AH (L := CX N p1) h (fun v3 => mk [(3, oD (.ptr 3 0)), (7, oD (.own 2002)), (22, pD (.sl (p1.fa.map An))), (23, iD ((p1.fa.length : Int))), (24, iD v3.2)] [(3, .box (Ay p1)), (2002, .vec 1 (v3.1.map An))]) (fun v4 => mk [(3, oD (.ptr 3 0)), (7, oD (.own 2003))] [(3, .box (Ay p1)), (2003, .vec 1 (v4.map An))]) (fun _ _ => rfl) ((B2 7 2005 1 rfl rfl rfl).trans (sm [(2002, 2005)] _ _ rfl rfl)) (fun j3 n3 v3 h => ?_) (fun v4 s h hs => ?_)
  ·unfold CX at h
   refine wq rfl (AT rfl (Aa (AO ?_)))
   refine Bc h (fun h => ?_) fun h => ?_
   ·refine Al ?_
    refine AK h (fun v6 => mk [(3, oD (.ptr 3 0)), (7, oD (.own 2004)), (22, pD (.sl (p1.fa.map An))), (23, iD ((p1.fa.length : Int))), (24, iD v3.2)] [(3, .box (Ay p1)), (2004, .vec 1 (v6.map An))]) (fun j6 h => ?_) (fun v6 h => ?_)
    ·refine AM (wq rfl (qm rfl ?_))
     refine BT h fun v7 a7 b7 h => qi Au Cy a7 (Af b7) rfl (qk BL rfl (qa rfl (qa rfl (Aa (wq rfl (qm rfl (Ep rfl (Aa ?_))))))))
     refine Bc h (fun h => ?_) fun h => ?_
     ·refine Ag Az rfl (qw 2 rfl (D1 Au Cy I1 rfl ?_))
      refine Ey h fun c9 h => Dz (f := An) Au Au Cy Ja I1 c9 rfl (qe rfl ?_)
      exact sn [(2004, 34)] h
     ·refine Al ?_
      exact sn [(2004, 2002)] h
    ·refine Ag Az rfl (Be rfl (qm rfl (Aa ?_)))
     exact sn [(2002, 2004)] h
   ·refine AS ?_
    exact sn [(2003, 2002)] h
  ·refine Ae hs (wq rfl (qa rfl (Aa (wp rfl (qm rfl (FI Au rfl ?_))))))
   refine Ey h fun c10 h => H6 rfl c10 (qm rfl (Aa ?_))
   refine AH (L := Cl N p1 v4) h (fun v11 => mk [(3, oD (.ptr 3 0)), (7, oD (.own 2006)), (10, oD (.own 2007)), (38, iD ((C7 .i64 1 ((v4.length : Int))))), (39, iD v11.2)] [(3, .box (Ay p1)), (2006, .vec 1 (v4.map An)), (2007, .vec 3 (v11.1.map Co))]) (fun v12 => mk [(10, oD (.own 2008))] [(2008, .vec 3 (v12.map Co))]) (fun _ _ => rfl) ((B2 10 2027 3 rfl rfl rfl).trans (sm [(2006, 2003), (2007, 2027)] _ _ rfl rfl)) (fun j11 n11 v11 h => ?_) (fun v12 s h hs => ?_)
   ·unfold Cl at h
    refine wq rfl (AT rfl (Aa (AO ?_)))
    refine Bc h (fun h => ?_) fun h => ?_
    ·refine Al (AO (AM (wq rfl (qm rfl (qa rfl (Aa (wq rfl (qf Ce rfl (ql AV rfl ?_)))))))))
     refine BS h fun v14 a14 h => Ar [2009] (Da N p1.fd v14 a14) SP rfl (qf Bf rfl (ql AV rfl ?_))
     refine BS h fun v15 a15 h => Ar [2010] (Da N p1.fa v15 a15) SP rfl (qf BZ rfl (ql Ge rfl ?_))
     refine BS h fun v16 a16 h => Ar [2011] (EM N p1.fc v16 a16) V5 rfl (A8 Cb F5 rfl (qz Cb rfl (qs AF rfl (AI (by kernel_rfl) (wp rfl (qm rfl (FI Au rfl (qm rfl (Aa ?_)))))))))
     refine AH (L := Ci N v4 v11) h (fun v17 => mk [(3, oD (.ptr 3 0)), (7, oD (.own 2015)), (10, oD (.own 2016)), (11, iD v11.2), (12, oD (.ptr 12 0)), (38, iD ((C7 .i64 1 ((v4.length : Int))))), (39, iD v11.2), (52, oD (.own 2015)), (53, iD ((v4.length : Int))), (54, iD v17.2)] [(3, .box (Ay p1)), (12, .box [.own 2012, .own 2013, .own 2014]), (2012, .vec 1 (v14.map An)), (2013, .vec 1 (v17.1.map An)), (2014, .vec 1 (v16.map B3)), (2015, .vec 1 (v4.map An)), (2016, .vec 3 (v11.1.map Co))]) (fun v18 => mk [(3, oD (.ptr 3 0)), (7, oD (.own 2020)), (10, oD (.own 2021)), (12, oD (.ptr 12 0)), (38, iD ((C7 .i64 1 ((v4.length : Int))))), (39, iD v11.2)] [(3, .box (Ay p1)), (12, .box [.own 2017, .own 2018, .own 2019]), (2017, .vec 1 (v14.map An)), (2018, .vec 1 (v18.map An)), (2019, .vec 1 (v16.map B3)), (2020, .vec 1 (v4.map An)), (2021, .vec 3 (v11.1.map Co))]) (fun _ _ => rfl) (sm [(2012, 2009), (2013, 2010), (2014, 2011), (2015, 2006), (2016, 2007)] _ _ rfl rfl) (fun j17 n17 v17 h => ?_) (fun v18 s h hs => ?_)
     ·unfold Ci at h
      refine wq rfl (AT rfl (Aa (AO ?_)))
      refine Bc h (fun h => ?_) fun h => ?_
      ·refine Al ?_
       refine AK h (fun v20 => mk [(3, oD (.ptr 3 0)), (7, oD (.own 2025)), (10, oD (.own 2026)), (11, iD v11.2), (12, oD (.ptr 12 0)), (38, iD ((C7 .i64 1 ((v4.length : Int))))), (39, iD v11.2), (52, oD (.own 2025)), (53, iD ((v4.length : Int))), (54, iD v17.2)] [(3, .box (Ay p1)), (12, .box [.own 2022, .own 2023, .own 2024]), (2022, .vec 1 (v14.map An)), (2023, .vec 1 (v20.map An)), (2024, .vec 1 (v16.map B3)), (2025, .vec 1 (v4.map An)), (2026, .vec 3 (v11.1.map Co))]) (fun j20 h => ?_) (fun v20 h => ?_)
       ·refine AM (wq rfl (qm rfl ?_))
        refine BT h fun v21 a21 b21 h => qI Au Cy a21 (Af b21) rfl (qj BL (Af b21) rfl (qa rfl (qa rfl (Aa (wq rfl (qw 2 rfl ?_))))))
        refine Ey h fun c22 h => Ix rfl c22 (Km rfl (Br rfl (Aa ?_)))
        refine Bc h (fun h => ?_) fun h => ?_
        ·refine Ag Az rfl (qf Bf rfl (ql AV rfl (qm rfl ?_)))
         refine BT h fun v24 a24 b24 h => qI Au Cy a24 (Af b24) rfl ?_
         refine Ej rfl rfl rfl rfl (Af b24) rfl Cy rfl (IY rfl) (Eo An v17.1 _ ((-1))) ?_
         refine Aa ?_
         exact sn [(2022, 2012), (2023, 2013), (2024, 2014), (2025, 2015), (2026, 2016)] h
        ·refine Al ?_
         exact sn [(2022, 2012), (2023, 2013), (2024, 2014), (2025, 2015), (2026, 2016)] h
       ·refine Ag Az rfl (Be rfl (qm rfl (Aa ?_)))
        exact sn [(2012, 2022), (2013, 2023), (2014, 2024), (2015, 2025), (2016, 2026)] h
      ·refine AS ?_
       exact sn [(2017, 2012), (2018, 2013), (2019, 2014), (2020, 2015), (2021, 2016)] h
     ·refine Ae hs (Ag Az rfl (qm rfl (qL A0 AF rfl (D2 (A5 2017 _ _ rfl rfl) (D2 (A5 2018 _ _ rfl rfl) (D2 (A5 2019 _ _ rfl rfl) (D1 GT AF Cb rfl ?_)))))))
      refine Ey h fun c25 h => Dz (f := Co) GT GT AF Sz Cb c25 rfl (qa rfl (Aa (Ag Az rfl (Be rfl (qm rfl (Aa ?_))))))
      exact sn [(2006, 2020), (2007, 72)] h
    ·refine AS ?_
     exact sn [(2008, 2007)] h
   ·refine Ae hs (wq rfl (qm rfl (qa rfl (qe rfl ?_))))
    obtain rfl := sj h
    refine Ae (sm [(1000, 2008)] [(4, oD (.own 1000)), (5, iD 0)] [(1000, .vec 3 (v12.map Co))] rfl rfl) (Ap ?_)
    exact ⟨⟨[_, _], ⟨.tmp _ _ rfl, tm⟩, rfl⟩, ⟨rfl, tv⟩⟩
theorem LL (N : Nat) (p0 : Ab) (p1 : Ac) (r : (List Ak)) (h : EG N p0 p1 = some r) : Aq Tryz.prog 78 [.e (.agg (Ah p0)), .e (.agg (Ay p1))] [(3, r.map AP)] (oD (.own 0)) := by
 unfold EG at h
 refine cw (n := 98) (rs := [.tmp 4]) Tryz.func78 fun w0 S0 => ?_
 refine wq rfl (qb rfl (qb rfl (qa rfl (Aa (wq rfl (qa rfl (Aa (wp rfl (qf Cd rfl (ql GD rfl (AB DG rfl (qm rfl (Aa ?_)))))))))))))
 refine AH (L := CH N p0 p1) h (fun v1 => mk [(3, oD (.ptr 3 0)), (5, oD (.own 2001)), (15, pD (.sl (p0.fe.map AQ))), (16, iD ((p0.fe.length : Int))), (17, iD v1.2)] [(3, .box (Ay p1)), (2001, .vec 3 (v1.1.map AP))]) (fun v2 => mk [(5, oD (.own 2002))] [(2002, .vec 3 (v2.map AP))]) (fun _ _ => rfl) ((B2 5 2013 3 rfl rfl rfl).trans (sm [(2001, 2013)] _ _ rfl rfl)) (fun j1 n1 v1 h => ?_) (fun v2 s h hs => ?_)
 ·unfold CH at h
  refine wq rfl (AT rfl (Aa (AO ?_)))
  refine Bc h (fun h => ?_) fun h => ?_
  ·refine Al (AO (AM (wq rfl (qm rfl ?_))))
   refine BT h fun v4 a4 b4 h => qi DG Dr a4 (Af b4) rfl (qK Gv Dr rfl (qz KU rfl (qa rfl (qs Dr rfl (Aa (wq rfl (qL A0 AF rfl (qf Ck rfl (ql BL rfl ?_)))))))))
   refine BS h fun v5 a5 h => Ar [] (Il N p1 v4.fg v5 a5) UL rfl (qL A0 AF rfl (qf Hy rfl (ql BL rfl ?_)))
   refine BS h fun v6 a6 h => Ar [] (Il N p1 v4.fj v6 a6) UL rfl (qa rfl (qa rfl (AI (by kernel_rfl) ?_)))
   refine AK h (fun v7 => mk [(3, oD (.ptr 3 0)), (5, oD (.own 2003)), (6, iD v1.2), (7, oD (.ptr 7 0)), (8, pD (.val (.int .u8 v7))), (9, pD (.val (.int .u8 v6))), (15, pD (.sl (p0.fe.map AQ))), (16, iD ((p0.fe.length : Int))), (17, iD v1.2)] [(3, .box (Ay p1)), (7, .box (A7 v4)), (2003, .vec 3 (v1.1.map AP))]) (fun j7 h => ?_) (fun v7 h => ?_)
   ·refine wq rfl (qL Gv Dr rfl ?_)
    refine BS h fun v8 a8 h => Ar [] (IP N v4 v8 a8) UH rfl (Aa ?_)
    refine Bc h (fun h => ?_) fun h => ?_
    ·refine Ag Az rfl (qf BZ rfl (ql Ge rfl (qm rfl ?_)))
     refine BT h fun v10 a10 b10 h => qi Cw EQ a10 (Af b10) rfl (qk I9 rfl (qe rfl ?_))
     exact sn [(2003, 2001)] h
    ·refine Al ?_
     exact sn [(2003, 2001)] h
   ·refine wq rfl (qf IZ rfl (ql Je rfl (AB FL rfl (qm rfl (Aa ?_)))))
    refine AH (L := BQ N v1 v4 v6 v7) h (fun v11 => mk [(3, oD (.ptr 3 0)), (5, oD (.own 2004)), (6, iD v1.2), (7, oD (.ptr 7 0)), (8, pD (.val (.int .u8 v7))), (9, pD (.val (.int .u8 v6))), (15, pD (.sl (p0.fe.map AQ))), (16, iD ((p0.fe.length : Int))), (17, iD v1.2), (39, iD ((v4.fq.length : Int))), (40, iD v11.2)] [(3, .box (Ay p1)), (7, .box (A7 v4)), (2004, .vec 3 (v11.1.map AP))]) (fun v12 => mk [(3, oD (.ptr 3 0)), (5, oD (.own 2005)), (15, pD (.sl (p0.fe.map AQ))), (16, iD ((p0.fe.length : Int))), (17, iD v1.2)] [(3, .box (Ay p1)), (2005, .vec 3 (v12.map AP))]) (fun _ _ => rfl) (sm [(2004, 2003)] _ _ rfl rfl) (fun j11 n11 v11 h => ?_) (fun v12 s h hs => ?_)
    ·unfold BQ at h
     refine wq rfl (AT rfl (Aa (AO ?_)))
     refine Bc h (fun h => ?_) fun h => ?_
     ·refine Al ?_
      refine AK h (fun v14 => mk [(3, oD (.ptr 3 0)), (5, oD (.own 2006)), (6, iD v1.2), (7, oD (.ptr 7 0)), (8, pD (.val (.int .u8 v7))), (9, pD (.val (.int .u8 v6))), (15, pD (.sl (p0.fe.map AQ))), (16, iD ((p0.fe.length : Int))), (17, iD v1.2), (39, iD ((v4.fq.length : Int))), (40, iD v11.2)] [(3, .box (Ay p1)), (7, .box (A7 v4)), (2006, .vec 3 (v14.map AP))]) (fun j14 h => ?_) (fun v14 h => ?_)
      ·refine AM (wq rfl (qm rfl (qa rfl (Aa (wp rfl (qw 2 rfl ?_))))))
       refine Ey h fun c15 h => Ix rfl c15 (Km rfl (Br rfl (Aa ?_)))
       refine Bc h (fun h => ?_) fun h => ?_
       ·refine AS ?_
        exact sn [(2006, 2004)] h
       ·refine Al (wq rfl (qa rfl (Aa (wp rfl (qf IZ rfl (ql Je rfl (qm rfl ?_)))))))
        refine BT h fun v17 a17 b17 h => qi FL MM a17 (Af b17) rfl (qk N3 rfl (AB GI rfl (qm rfl (Aa ?_))))
        refine AH (L := BC N v1 v4 v6 v11 v17) h (fun v18 => mk [(3, oD (.ptr 3 0)), (5, oD (.own 2007)), (6, iD v1.2), (7, oD (.ptr 7 0)), (8, pD (.val (.int .u8 v7))), (9, pD (.val (.int .u8 v6))), (10, iD v11.2), (11, bD v18.2.1), (15, pD (.sl (p0.fe.map AQ))), (16, iD ((p0.fe.length : Int))), (17, iD v1.2), (39, iD ((v4.fq.length : Int))), (40, iD v11.2), (52, pD (.sl (v17.map eB))), (53, iD ((v17.length : Int))), (54, iD v18.2.2)] [(3, .box (Ay p1)), (7, .box (A7 v4)), (2007, .vec 3 (v18.1.map AP))]) (fun v19 => mk [(3, oD (.ptr 3 0)), (5, oD (.own 2008)), (6, iD v1.2), (7, oD (.ptr 7 0)), (8, pD (.val (.int .u8 v7))), (9, pD (.val (.int .u8 v6))), (10, iD v11.2), (11, bD v19.2), (15, pD (.sl (p0.fe.map AQ))), (16, iD ((p0.fe.length : Int))), (17, iD v1.2), (39, iD ((v4.fq.length : Int))), (40, iD v11.2)] [(3, .box (Ay p1)), (7, .box (A7 v4)), (2008, .vec 3 (v19.1.map AP))]) (fun _ _ => rfl) (sm [(2007, 2004)] _ _ rfl rfl) (fun j18 n18 v18 h => ?_) (fun v19 s h hs => ?_)
        ·unfold BC at h
         refine wq rfl (AT rfl (Aa (AO ?_)))
         refine Bc h (fun h => ?_) fun h => ?_
         ·refine Al ?_
          refine AK h (fun v21 => mk [(3, oD (.ptr 3 0)), (5, oD (.own 2009)), (6, iD v1.2), (7, oD (.ptr 7 0)), (8, pD (.val (.int .u8 v7))), (9, pD (.val (.int .u8 v6))), (10, iD v11.2), (11, bD v21.2), (15, pD (.sl (p0.fe.map AQ))), (16, iD ((p0.fe.length : Int))), (17, iD v1.2), (39, iD ((v4.fq.length : Int))), (40, iD v11.2), (52, pD (.sl (v17.map eB))), (53, iD ((v17.length : Int))), (54, iD v18.2.2)] [(3, .box (Ay p1)), (7, .box (A7 v4)), (2009, .vec 3 (v21.1.map AP))]) (fun j21 h => ?_) (fun v21 h => ?_)
          ·refine AM (wq rfl (qm rfl ?_))
           refine BT h fun v22 a22 b22 h => qi GI P2 a22 (Af b22) rfl (qk QZ rfl (qa rfl (qa rfl (Aa (wp rfl (qw 2 rfl ?_))))))
           refine Ey h fun c23 h => Ix rfl c23 (Km rfl (Br rfl (Aa ?_)))
           refine Bc h (fun h => ?_) fun h => ?_
           ·refine AS ?_
            exact sn [(2009, 2007)] h
           ·refine Al ?_
            refine AK h (fun v25 => mk [(3, oD (.ptr 3 0)), (5, oD (.own 2010)), (6, iD v1.2), (7, oD (.ptr 7 0)), (8, pD (.val (.int .u8 v7))), (9, pD (.val (.int .u8 v6))), (10, iD v11.2), (11, bD v25), (12, iD v18.2.2), (13, bD v22), (15, pD (.sl (p0.fe.map AQ))), (16, iD ((p0.fe.length : Int))), (17, iD v1.2), (39, iD ((v4.fq.length : Int))), (40, iD v11.2), (52, pD (.sl (v17.map eB))), (53, iD ((v17.length : Int))), (54, iD v18.2.2)] [(3, .box (Ay p1)), (7, .box (A7 v4)), (2010, .vec 3 (v18.1.map AP))]) (fun j25 h => ?_) (fun v25 h => ?_)
            ·refine Ag Az rfl (qw 2 rfl ?_)
             refine Dm 65 h rfl (fun h => ?_) fun h => ?_
             ·refine qn rfl (qp rfl (qe rfl ?_))
              exact sn [(2010, 2007)] h
             ·refine qm rfl (qp rfl (qe rfl ?_))
              exact sn [(2010, 2007)] h
            ·refine AK h (fun v27 => mk [(3, oD (.ptr 3 0)), (5, oD (.own 2011)), (6, iD v1.2), (7, oD (.ptr 7 0)), (8, pD (.val (.int .u8 v7))), (9, pD (.val (.int .u8 v6))), (10, iD v11.2), (11, bD v25), (12, iD v18.2.2), (15, pD (.sl (p0.fe.map AQ))), (16, iD ((p0.fe.length : Int))), (17, iD v1.2), (39, iD ((v4.fq.length : Int))), (40, iD v11.2), (52, pD (.sl (v17.map eB))), (53, iD ((v17.length : Int))), (54, iD v18.2.2), (74, bD v27)] [(3, .box (Ay p1)), (7, .box (A7 v4)), (2011, .vec 3 (v18.1.map AP))]) (fun j27 h => ?_) (fun v27 h => ?_)
             ·refine Ag Az rfl (qm rfl (BX rfl (qm rfl ?_)))
              refine Dm 70 h rfl (fun h => ?_) fun h => ?_
              ·refine qf If rfl (ql QZ rfl (BX rfl (qp rfl (Aa ?_))))
               exact sn [(2011, 2010)] h
              ·refine qw 3 rfl (qp rfl (Aa ?_))
               exact sn [(2011, 2010)] h
             ·refine Bc h (fun h => ?_) fun h => ?_
              ·refine Ag Az rfl (qw 4 rfl (A8 HD MW rfl (D1 F6 Fz HD rfl ?_)))
               refine Ey h fun c30 h => Dz (f := AP) F6 F6 Fz QJ HD c30 rfl (qe rfl ?_)
               exact sn [(2009, 81)] h
              ·refine Al ?_
               exact sn [(2009, 2011)] h
          ·refine Ag Az rfl (Be rfl (qm rfl (Aa ?_)))
           exact sn [(2007, 2009)] h
         ·refine AS ?_
          exact sn [(2008, 2007)] h
        ·refine Ae hs ?_
         refine AK h (fun v31 => mk [(3, oD (.ptr 3 0)), (5, oD (.own 2012)), (6, iD v1.2), (7, oD (.ptr 7 0)), (8, pD (.val (.int .u8 v7))), (9, pD (.val (.int .u8 v6))), (10, iD v11.2), (15, pD (.sl (p0.fe.map AQ))), (16, iD ((p0.fe.length : Int))), (17, iD v1.2), (39, iD ((v4.fq.length : Int))), (40, iD v11.2), (88, bD v31)] [(3, .box (Ay p1)), (7, .box (A7 v4)), (2012, .vec 3 (v19.1.map AP))]) (fun j31 h => ?_) (fun v31 h => ?_)
         ·refine Ag Az rfl (qf If rfl (ql QZ rfl (qm rfl ?_)))
          refine Dm 85 h rfl (fun h => ?_) fun h => ?_
          ·refine qm rfl (BX rfl (qp rfl (Aa ?_)))
           exact sn [(2012, 2008)] h
          ·refine qw 2 rfl (qp rfl (Aa ?_))
           exact sn [(2012, 2008)] h
         ·refine Bc h (fun h => ?_) fun h => ?_
          ·refine Ag Az rfl (qw 3 rfl (A8 HD MW rfl (D1 F6 Fz HD rfl ?_)))
           refine Ey h fun c34 h => Dz (f := AP) F6 F6 Fz QJ HD c34 rfl (qe rfl ?_)
           exact sn [(2006, 94)] h
          ·refine Al ?_
           exact sn [(2006, 2012)] h
      ·refine Ag Az rfl (Be rfl (qm rfl (Aa ?_)))
       exact sn [(2004, 2006)] h
     ·refine AS ?_
      exact sn [(2005, 2004)] h
    ·refine Ae hs (Ag Az rfl (Be rfl (qm rfl (Aa ?_))))
     exact sn [(2001, 2005)] h
  ·refine AS ?_
   exact sn [(2002, 2001)] h
 ·refine Ae hs (wq rfl (qm rfl (qe rfl ?_)))
  obtain rfl := sj h
  refine Ae (sm [(1000, 2002)] [(4, oD (.own 1000))] [(1000, .vec 3 (v2.map AP))] rfl rfl) (Ap ?_)
  exact ⟨⟨[_], tm, rfl⟩, ⟨rfl, tv⟩⟩
theorem Jq (N : Nat) (p0 : Ab) (p1 : Ac) (r : Ac × Ak × Int) (h : EV N p0 p1 = some r) : Aq Tryz.prog 53 [.e (.agg (Ah p0)), .e (.agg (Ay p1))] [] (.tup [.agg (Ay r.1), .agg (Gr r.2.1), .one (iC r.2.2)]) := by
 unfold EV at h
 refine cw (n := 42) (rs := [.cell 4 38, .cell 5 93, .tmp 6]) Tryz.func53 fun w0 S0 => ?_
 refine wq rfl (qb rfl (qb rfl (qz Cb rfl (qz HD rfl (qa rfl (Aa (wq rfl (qL CL Cp rfl (qL A0 AF rfl ?_)))))))))
 refine BS h fun v1 a1 h => Ar [2001] (N2 N p0 p1 v1 a1) W0 rfl (qm rfl (qx rfl (qx rfl (qa rfl (qa rfl (Aa (wp rfl (qm rfl (BB rfl (Aa ?_))))))))))
 refine Bc h (fun h => ?_) fun h => ?_
 ·refine wq rfl (A8 Cb F5 rfl (A8 HD MW rfl (qm rfl (qs AF rfl (qs Fz rfl (qe rfl ?_))))))
  obtain rfl := sj h
  refine Ae ((E6 4 _ rfl).trans (sm [] [(4, oD (.ptr 4 0)), (5, oD (.ptr 5 0)), (6, iD v1.2)] [(4, .box [sC ((([] : List Int)).map An), sC ((([] : List Int)).map An), sC ((([] : List Int)).map B3)]), (5, .box [iC 0, iC 0, iC 0])] rfl rfl)) (Ap ?_)
  exact ⟨⟨[_, _, _], ⟨.cellN _ _ _ _ _ _ _ rfl rfl A0 AF rfl rfl (GV rfl), ⟨.cellN _ _ _ _ _ _ _ rfl rfl LM Fz rfl rfl (GV rfl), tm⟩⟩, rfl⟩, tv⟩
 ·refine Al (wp rfl (qm rfl (FI GT rfl (qm rfl (Aa ?_)))))
  refine AH (L := DW N p0 v1) h (fun v3 => mk [(2, oD (.ptr 2 0)), (4, oD (.ptr 4 0)), (5, oD (.ptr 5 0)), (23, oD (.own 2002)), (24, iD ((v1.1.length : Int))), (25, iD v3)] [(2, .box (Ah p0)), (4, .box [.pure (.nil0), .pure (.nil0), .pure (.nil0)]), (5, .box [iC 0, iC 0, iC 0]), (2002, .vec 3 (v1.1.map Co))]) (fun v4 => mk [(4, oD (.ptr 4 0)), (5, oD (.ptr 5 0))] [(4, .box [.pure (.nil0), .pure (.nil0), .pure (.nil0)]), (5, .box [iC 0, iC 0, iC 0])]) (fun _ _ => rfl) (sm [(2002, 2001)] _ _ rfl rfl) (fun j3 n3 v3 h => ?_) (fun v4 s h hs => ?_)
  ·unfold DW at h
   refine wq rfl (AT rfl (Aa (AO ?_)))
   refine Bc h (fun h => ?_) fun h => ?_
   ·refine Al (AO (AM (wq rfl ?_)))
    refine BT h fun v6 a6 b6 h => qI GT AF a6 (Af b6) rfl (qJ A0 AF (Af b6) rfl (qz Cb rfl (qs AF rfl (Aa (wq rfl (qL CL Cp rfl (qL A0 AF rfl ?_)))))))
    refine BS h fun v7 a7 h => Ar [2003] (LL N p0 v6 v7 a7) W9 rfl (qa rfl (Aa (wq rfl (qm rfl (FI F6 rfl (EP rfl (Aa ?_)))))))
    refine Bc h (fun h => ?_) fun h => ?_
    ·refine wq rfl (qL A0 AF rfl (qm rfl ?_))
     refine BT h fun v9 a9 b9 h => qI F6 Fz a9 (Af b9) rfl (qJ LM Fz (Af b9) rfl (qs AF rfl (qs Fz rfl (qa rfl (AI (by kernel_rfl) ?_)))))
     obtain rfl := sj h
     refine Ae (sm [] [(4, oD (.ptr 4 0)), (5, oD (.ptr 5 0)), (6, iD 0)] [(4, .box (Ay v6)), (5, .box (Gr v9))] rfl rfl) (Ap ?_)
     exact ⟨⟨[_, _, _], ⟨.cellN _ _ _ _ _ _ _ rfl rfl A0 AF rfl rfl (GV rfl), ⟨.cellN _ _ _ _ _ _ _ rfl rfl LM Fz rfl rfl (GV rfl), tm⟩⟩, rfl⟩, tv⟩
    ·refine Al (Ag Az rfl (Be rfl (qm rfl (Aa ?_))))
     exact sn [] h
   ·refine AS ?_
    exact sn [] h
  ·refine Ae hs (wq rfl (A8 Cb F5 rfl (A8 HD MW rfl (qs AF rfl (qs Fz rfl (qe rfl ?_))))))
   obtain rfl := sj h
   refine Ae ((E6 4 _ rfl).trans (sm [] [(4, oD (.ptr 4 0)), (5, oD (.ptr 5 0)), (6, iD 15)] [(4, .box [sC ((([] : List Int)).map An), sC ((([] : List Int)).map An), sC ((([] : List Int)).map B3)]), (5, .box [iC 0, iC 0, iC 0])] rfl rfl)) (Ap ?_)
   exact ⟨⟨[_, _, _], ⟨.cellN _ _ _ _ _ _ _ rfl rfl A0 AF rfl rfl (GV rfl), ⟨.cellN _ _ _ _ _ _ _ rfl rfl LM Fz rfl rfl (GV rfl), tm⟩⟩, rfl⟩, tv⟩
theorem KL (N : Nat) (p0 : Ad) (r : Bool) (h : E7 N p0 = some r) : Aq Tryz.prog 79 [.e (.agg (Cc p0))] [] (bD r) := by
 unfold E7 at h
 refine cw (n := 27) (rs := [.tmp 2]) Tryz.func79 fun w0 S0 => ?_
 refine wq rfl (qb rfl (qa rfl (Aa (AO ?_))))
 refine AK h (fun v1 => mk [(1, oD (.ptr 1 0)), (18, bD v1)] [(1, .box (Cc p0))]) (fun j1 h => ?_) (fun v1 h => ?_)
 ·refine Ag Az rfl (qf D6 rfl (ql BL rfl (qf FC rfl (ql BL rfl ?_))))
  refine QD (.p rfl) rfl rfl ?_
  refine AT rfl (qm rfl ?_)
  refine Dm 9 h rfl (fun h => ?_) fun h => ?_
  ·refine qw 3 rfl (qp rfl (qw 4 rfl (qp rfl (Aa ?_))))
   exact sn [] h
  ·refine qf DS rfl (ql BL rfl (AT rfl (qp rfl (qm rfl ?_))))
   refine Dm 14 h rfl (fun h => ?_) fun h => ?_
   ·refine qw 3 rfl (qp rfl (Aa ?_))
    exact sn [] h
   ·refine qf DS rfl (ql BL rfl (EP rfl (qp rfl (Aa ?_))))
    exact sn [] h
 ·refine Bc h (fun h => ?_) fun h => ?_
  ·refine wq rfl (qe rfl ?_)
   obtain rfl := sj h
   refine Ae (sm [] [(2, bD false)] [] rfl rfl) (Ap ?_)
   exact ⟨⟨[_], tm, rfl⟩, tv⟩
  ·refine Al ?_
   refine AK h (fun v5 => mk [(2, bD v5)] []) (fun j5 h => ?_) (fun v5 h => ?_)
   ·refine Ag Az rfl (qf DS rfl (ql BL rfl (Br rfl (qm rfl ?_))))
    refine Dm 22 h rfl (fun h => ?_) fun h => ?_
    ·refine qw 3 rfl (qp rfl (qe rfl ?_))
     exact sn [] h
    ·refine qf FC rfl (ql BL rfl (Br rfl (qp rfl (qe rfl ?_))))
     exact sn [] h
   ·obtain rfl := sj h
    refine Ae (sm [] [(2, bD v5)] [] rfl rfl) (Ap ?_)
    exact ⟨⟨[_], tm, rfl⟩, tv⟩
theorem Nf (N : Nat) (p0 : Ab) (p1 : Ad) (r : Bool) (h : Fr N p0 p1 = some r) : Aq Tryz.prog 99 [.e (.agg (Ah p0)), .e (.agg (Cc p1))] [] (bD r) := by
 unfold Fr at h
 refine cw (n := 36) (rs := [.tmp 4]) Tryz.func99 fun w0 S0 => ?_
 refine wq rfl (qb rfl (qb rfl (qa rfl (Aa (wp rfl (qf DS rfl (ql BL rfl (Br rfl (Aa ?_)))))))))
 refine Bc h (fun h => ?_) fun h => ?_
 ·refine wq rfl (qf D6 rfl (ql BL rfl (qf Cd rfl (ql GD rfl (AB DG rfl (AT rfl (qe rfl ?_)))))))
  obtain rfl := sj h
  refine Ae (sm [] [(4, bD ((decide (p1.fh < (p0.fe.length : Int)))))] [] rfl rfl) (Ap ?_)
  exact ⟨⟨[_], tm, rfl⟩, tv⟩
 ·refine Al ?_
  refine AK h (fun v2 => mk [(4, bD v2)] []) (fun j2 h => ?_) (fun v2 h => ?_)
  ·refine Ag Az rfl (qf D6 rfl (ql BL rfl (qf Bg rfl (ql AV rfl (AB Au rfl (AT rfl (qm rfl ?_)))))))
   refine Dm 20 h rfl (fun h => ?_) fun h => ?_
   ·refine qf DS rfl (ql BL rfl (BB rfl (qm rfl ?_)))
    refine Dm 24 h rfl (fun h => ?_) fun h => ?_
    ·refine qw 9 rfl (qp rfl (qp rfl (qa rfl (AI (by kernel_rfl) ?_))))
     exact sn [] h
    ·refine qf FC rfl (ql BL rfl (qf Bg rfl (ql AV rfl (qf D6 rfl (ql BL rfl ?_)))))
     refine BT h fun v5 a5 b5 h => qi Au Cy a5 (Af b5) rfl (qk BL rfl (AT rfl (qp rfl (qp rfl (qa rfl (AI (by kernel_rfl) ?_))))))
     exact sn [] h
   ·refine qw 4 rfl (qu rfl (qu rfl (qu rfl (qu rfl (qu rfl (qu rfl (qu rfl (qu rfl (qu rfl (qn rfl (qp rfl (qa rfl (AI (by kernel_rfl) ?_)))))))))))))
    exact sn [] h
  ·obtain rfl := sj h
   refine Ae (sm [] [(4, bD v2)] [] rfl rfl) (Ap ?_)
   exact ⟨⟨[_], tm, rfl⟩, tv⟩
theorem Na (N : Nat) (p0 : Ac) (r : Ac) (h : Fp N p0 = some r) : Aq Tryz.prog 109 [.e (.agg (Ay p0))] [(1, r.fd.map An), (1, r.fa.map An), (1, r.fc.map B3)] (.e (.agg [.own 0, .own 1, .own 2])) := by
 unfold Fp at h
 refine cw (n := 13) (rs := [.cell 2 38]) Tryz.func109 fun w0 S0 => ?_
 refine wq rfl (qb rfl (qz Cb rfl (Aa (wq rfl (qf Ce rfl (ql AV rfl ?_))))))
 refine BS h fun v1 a1 h => Ar [2001] (Da N p0.fd v1 a1) SP rfl (qf Bf rfl (ql AV rfl ?_))
 refine BS h fun v2 a2 h => Ar [2002] (Da N p0.fa v2 a2) SP rfl (qf BZ rfl (ql Ge rfl ?_))
 refine BS h fun v3 a3 h => Ar [2003] (EM N p0.fc v3 a3) V5 rfl (A8 Cb F5 rfl (qs AF rfl (AI (by kernel_rfl) ?_)))
 obtain rfl := sj h
 refine Ae (sm [(1000, 2001), (1001, 2002), (1002, 2003)] [(2, oD (.ptr 2 0))] [(2, .box [.own 1000, .own 1001, .own 1002]), (1000, .vec 1 (v1.map An)), (1001, .vec 1 (v2.map An)), (1002, .vec 1 (v3.map B3))] rfl rfl) (Ap ?_)
 exact ⟨⟨[_], ⟨.cellN _ _ _ _ _ _ _ rfl rfl A0 AF rfl rfl (GV rfl), tv⟩, rfl⟩, ⟨rfl, rfl, rfl, tv⟩⟩
theorem JR (N : Nat) (p0 : Av) (r : Bool) (h : ED N p0 = some r) : Aq Tryz.prog 117 [.e (.agg (A7 p0))] [] (bD r) := by
 unfold ED at h
 refine cw (n := 11) (rs := [.tmp 2]) Tryz.func117 fun w0 S0 => ?_
 refine wq rfl (qb rfl (qe rfl ?_))
 refine AK h (fun v1 => mk [(2, bD v1)] []) (fun j1 h => ?_) (fun v1 h => ?_)
 ·refine Ag Az rfl (qf Fa rfl (ql BL rfl (Br rfl (qm rfl ?_))))
  refine Dm 6 h rfl (fun h => ?_) fun h => ?_
  ·refine qw 3 rfl (qp rfl (qe rfl ?_))
   exact sn [] h
  ·refine qf Fa rfl (ql BL rfl (Br rfl (qp rfl (qe rfl ?_))))
   exact sn [] h
 ·obtain rfl := sj h
  refine Ae (sm [] [(2, bD v1)] [] rfl rfl) (Ap ?_)
  exact ⟨⟨[_], tm, rfl⟩, tv⟩
theorem N9 (N : Nat) (p0 : Ab) (p1 : Ac) (p2 : Ad) (r : Bool × (List Int) × (List Int)) (h : G8 N p0 p1 p2 = some r) : Dj Tryz.prog 110 [.e (.agg (Ah p0)), oD (.ptr 90000 0), .e (.agg (Cc p2))] [(.box [.own 90001, .own 90002, .own 90003], .box [.own 90001, .own 90002, .own 90003]), (.vec 1 (p1.fd.map An), .vec 1 (p1.fd.map An)), (.vec 1 (p1.fa.map An), .vec 1 (r.2.1.map An)), (.vec 1 (p1.fc.map B3), .vec 1 (r.2.2.map B3))] [] (bD r.1) := by
 unfold G8 at h
 refine Fw (n := 70) (rs := [.tmp 6]) Tryz.func110 rfl rfl rfl (IY rfl) (IY rfl) rfl rfl (IY rfl) rfl (IY rfl) fun w0 S0 GL => ?_
 refine Ae (sm [] [(0, .e (.agg (Ah p0))), (1, oD (.ptr 90000 0)), (2, .e (.agg (Cc p2)))] [(90000, .box [.own 90001, .own 90002, .own 90003]), (90001, .vec 1 (p1.fd.map An)), (90002, .vec 1 (p1.fa.map An)), (90003, .vec 1 (p1.fc.map B3))] rfl rfl) (wq rfl (qb rfl (qb rfl (qa rfl (Aa (AO ?_))))))
 refine AK h (fun v1 => mk [(1, oD (.ptr 90000 0)), (3, oD (.ptr 3 0)), (5, oD (.ptr 5 0)), (30, bD v1)] [(3, .box (Ah p0)), (5, .box (Cc p2)), (90000, .box [.own 90001, .own 90002, .own 90003]), (90001, .vec 1 (p1.fd.map An)), (90002, .vec 1 (p1.fa.map An)), (90003, .vec 1 (p1.fc.map B3))]) (fun j1 h => ?_) (fun v1 h => ?_)
 ·refine Ag Az rfl (qm rfl (Te rfl (qf Bf rfl (ql AV rfl (qf D6 rfl (ql BL rfl ?_))))))
  refine BT h fun v2 a2 b2 h => qI Au Cy a2 (Af b2) rfl (qj BL (Af b2) rfl (Ep rfl (qm rfl ?_)))
  refine Dm 18 h rfl (fun h => ?_) fun h => ?_
  ·refine qw 11 rfl (qp rfl (AI (by kernel_rfl) ?_))
   exact sn [] h
  ·refine qm rfl (Te rfl (qf Ce rfl (ql AV rfl (qf D6 rfl (ql BL rfl ?_)))))
   refine BT h fun v4 a4 b4 h => qI Au Cy a4 (Af b4) rfl (qj BL (Af b4) rfl (qf FC rfl (ql BL rfl (Br rfl (qp rfl (AI (by kernel_rfl) ?_))))))
   exact sn [] h
 ·refine Bc h (fun h => ?_) fun h => ?_
  ·refine wq rfl (qe rfl ?_)
   obtain rfl := sj h
   refine Ae (sm [] [(6, bD false)] [(90000, .box [.own 90001, .own 90002, .own 90003]), (90001, .vec 1 (p1.fd.map An)), (90002, .vec 1 (p1.fa.map An)), (90003, .vec 1 (p1.fc.map B3))] rfl rfl) (Ap ?_)
   exact ⟨⟨[_], tm, rfl⟩, ⟨rfl, rfl, rfl, rfl, tv⟩, tv⟩
  ·refine Al (wq rfl (qm rfl (Te rfl (qf Bf rfl (ql AV rfl (qf D6 rfl (ql BL rfl (qf FC rfl (ql BL rfl ?_)))))))))
   refine BT h fun v6 a6 b6 h => qI Au Cy a6 (Af b6) rfl ?_
   refine Ej rfl rfl rfl rfl (Af b6) rfl Cy rfl (IY rfl) (Eo An p1.fa _ p2.fi) ?_
   refine AI (by kernel_rfl) (wp rfl (qf Cd rfl (ql GD rfl (AB DG rfl (qm rfl (Aa ?_))))))
   refine AH (L := CY N p0 p2) h (fun v7 => mk [(1, oD (.ptr 90000 0)), (5, oD (.ptr 5 0)), (41, pD (.sl (p0.fe.map AQ))), (42, iD ((p0.fe.length : Int))), (43, iD v7.2)] [(5, .box (Cc p2)), (90000, .box [.own 90001, .own 90002, .own 90003]), (90001, .vec 1 (p1.fd.map An)), (90002, .vec 1 ((p1.fa.set ((p2.fh).toNat) p2.fi).map An)), (90003, .vec 1 (v7.1.map B3))]) (fun v8 => mk [] [(90000, .box [.own 90001, .own 90002, .own 90003]), (90001, .vec 1 (p1.fd.map An)), (90002, .vec 1 ((p1.fa.set ((p2.fh).toNat) p2.fi).map An)), (90003, .vec 1 (v8.map B3))]) (fun _ _ => rfl) (sm [] _ _ rfl rfl) (fun j7 n7 v7 h => ?_) (fun v8 s h hs => ?_)
   ·unfold CY at h
    refine wq rfl (AT rfl (Aa (AO ?_)))
    refine Bc h (fun h => ?_) fun h => ?_
    ·refine Al ?_
     refine AK h (fun v10 => mk [(1, oD (.ptr 90000 0)), (5, oD (.ptr 5 0)), (41, pD (.sl (p0.fe.map AQ))), (42, iD ((p0.fe.length : Int))), (43, iD v7.2)] [(5, .box (Cc p2)), (90000, .box [.own 90001, .own 90002, .own 90003]), (90001, .vec 1 (p1.fd.map An)), (90002, .vec 1 ((p1.fa.set ((p2.fh).toNat) p2.fi).map An)), (90003, .vec 1 (v10.map B3))]) (fun j10 h => ?_) (fun v10 h => ?_)
     ·refine AM (wq rfl (qm rfl ?_))
      refine BT h fun v11 a11 b11 h => qi DG Dr a11 (Af b11) rfl (qK Gv Dr rfl (qz KU rfl (qa rfl (qs Dr rfl (Aa ?_)))))
      refine AK h (fun v12 => mk [(1, oD (.ptr 90000 0)), (5, oD (.ptr 5 0)), (7, iD v7.2), (41, pD (.sl (p0.fe.map AQ))), (42, iD ((p0.fe.length : Int))), (43, iD v7.2), (56, bD v12)] [(5, .box (Cc p2)), (90000, .box [.own 90001, .own 90002, .own 90003]), (90001, .vec 1 (p1.fd.map An)), (90002, .vec 1 ((p1.fa.set ((p2.fh).toNat) p2.fi).map An)), (90003, .vec 1 (v7.1.map B3))]) (fun j12 h => ?_) (fun v12 h => ?_)
      ·refine Ag Az rfl (qf Ck rfl (ql BL rfl (qf D6 rfl (ql BL rfl (Br rfl (qm rfl ?_))))))
       refine Dm 53 h rfl (fun h => ?_) fun h => ?_
       ·refine qL Gv Dr rfl ?_
        refine BS h fun v14 a14 h => Ar [] (JR N v11 v14 a14) UC rfl (qp rfl (Aa ?_))
        exact sn [] h
       ·refine qw 2 rfl (qp rfl (Aa ?_))
        exact sn [] h
      ·refine Bc h (fun h => ?_) fun h => ?_
       ·refine Ag Az rfl (qm rfl (Te rfl (qf BZ rfl (ql Ge rfl (qm rfl ?_)))))
        refine BT h fun v16 a16 b16 h => qI Cw EQ a16 (Af b16) rfl (qj I9 (Af b16) rfl (qf FC rfl (ql BL rfl ?_)))
        refine Ey h fun c17 h => H6 rfl c17 (Rd rfl ?_)
        refine BT h fun v18 a18 b18 h => qI Cw EQ a18 (Af b18) rfl ?_
        refine Ej rfl rfl rfl rfl (Af b18) rfl EQ rfl (IY rfl) (Eo B3 v7.1 _ ((KX .u8 v16 ((C7 .u8 1 p2.fi))))) ?_
        refine AI (by kernel_rfl) ?_
        exact sn [] h
       ·refine Al ?_
        exact sn [] h
     ·refine Ag Az rfl (Be rfl (qm rfl (Aa ?_)))
      exact sn [] h
    ·refine AS ?_
     exact sn [] h
   ·refine Ae hs (wq rfl (qe rfl ?_))
    obtain rfl := sj h
    refine Ae (sm [] [(6, bD true)] [(90000, .box [.own 90001, .own 90002, .own 90003]), (90001, .vec 1 (p1.fd.map An)), (90002, .vec 1 ((p1.fa.set ((p2.fh).toNat) p2.fi).map An)), (90003, .vec 1 (v8.map B3))] rfl rfl) (Ap ?_)
    exact ⟨⟨[_], tm, rfl⟩, ⟨rfl, rfl, rfl, rfl, tv⟩, tv⟩
theorem L2 (N : Nat) (p0 : Ac) (p1 : Int) (r : Int) (h : E2 N p0 p1 = some r) : Aq Tryz.prog 118 [.e (.agg (Ay p0)), iD p1] [] (pD (.val (.int .u8 r))) := by
 unfold E2 at h
 refine cw (n := 27) (rs := [.tmp 4]) Tryz.func118 fun w0 S0 => ?_
 refine wq rfl (qb rfl (qa rfl (Aa (wq rfl (qf Ce rfl (ql AV rfl (qm rfl ?_)))))))
 refine BT h fun v1 a1 b1 h => qi Au Cy a1 (Af b1) rfl (qk BL rfl ?_)
 refine Ey h fun c2 h => H6 rfl c2 (qe rfl ?_)
 refine AK h (fun v3 => mk [(5, pD (.val (.int .u8 v3)))] []) (fun j3 h => ?_) (fun v3 h => ?_)
 ·refine wq rfl (qf Bf rfl (ql AV rfl (qm rfl ?_)))
  refine BT h fun v4 a4 b4 h => qi Au Cy a4 (Af b4) rfl (qk BL rfl (Ep rfl (Aa ?_)))
  refine Bc h (fun h => ?_) fun h => ?_
  ·refine Ag Az rfl (qm rfl (qf Bf rfl (ql AV rfl (qm rfl ?_))))
   refine BT h fun v6 a6 b6 h => qi Au Cy a6 (Af b6) rfl (qk BL rfl ?_)
   refine Ey h fun c7 h => H6 rfl c7 (Rd rfl (qe rfl ?_))
   exact sn [] h
  ·refine Al ?_
   exact sn [] h
 ·refine wq rfl (qm rfl (qe rfl ?_))
  obtain rfl := sj h
  refine Ae (sm [] [(4, pD (.val (.int .u8 v3)))] [] rfl rfl) (Ap ?_)
  exact ⟨⟨[_], tm, rfl⟩, tv⟩
theorem HV (N : Nat) (p0 : Int) (r : Int) (h : Cm N p0 = some r) : Aq Tryz.prog 125 [pD (.val (.int .u8 p0))] [] (iD r) := by
 unfold Cm at h
 refine cw (n := 6) (rs := [.tmp 2]) Tryz.func125 fun w0 S0 => ?_
 refine wq rfl (qa rfl (Aa (wq rfl (qm rfl ?_))))
 refine BS h fun v1 a1 h => Rv (.p rfl) rfl rfl WV a1 ?_
 refine Iv UZ TX rfl (qe rfl ?_)
 obtain rfl := sj h
 refine Ae (sm [] [(2, iD ((wI .i64 v1)))] [] rfl rfl) (Ap ?_)
 exact ⟨⟨[_], tm, rfl⟩, tv⟩
theorem KM (N : Nat) (p0 : Av) (p1 : Int) (p2 : Int) (r : Bool) (h : EZ N p0 p1 p2 = some r) : Aq Tryz.prog 119 [.e (.agg (A7 p0)), pD (.val (.int .u8 p1)), iD p2] [] (bD r) := by
 unfold EZ at h
 refine cw (n := 25) (rs := [.tmp 6]) Tryz.func119 fun w0 S0 => ?_
 refine wq rfl (qb rfl (qa rfl (Aa (wp rfl (qm rfl (qe rfl ?_))))))
 refine AH (L := CR N p0 p2) h (fun v1 => mk [(2, iD p2), (3, oD (.ptr 3 0)), (7, pD (.val (.int .u8 v1)))] [(3, .box (A7 p0))]) (fun v2 => mk [] []) (fun _ _ => rfl) (sm [] _ _ rfl rfl) (fun j1 n1 v1 h => ?_) (fun v2 s h hs => ?_)
 ·unfold CR at h
  refine wp rfl (qm rfl (BB rfl (Aa ?_)))
  refine Bc h (fun h => ?_) fun h => ?_
  ·refine Al (AO (AM (wq rfl (qf FZ rfl (ql Je rfl (qm rfl ?_))))))
   refine BS h fun v4 a4 h => Ar [] (HV N v1 v4 a4) Wn rfl ?_
   refine BT h fun v5 a5 b5 h => qi FL MM a5 (Af b5) rfl (qk N3 rfl (qm rfl ?_))
   refine BT h fun v6 a6 b6 h => qi GI P2 a6 (Af b6) rfl (qk QZ rfl (BX rfl (AI (by kernel_rfl) ?_)))
   refine Bc h (fun h => ?_) fun h => ?_
   ·refine wq rfl (qe rfl ?_)
    obtain rfl := sj h
    refine Ae (sm [] [(6, bD false)] [] rfl rfl) (Ap ?_)
    exact ⟨⟨[_], tm, rfl⟩, tv⟩
   ·refine Al (Ag Az rfl (qw 2 rfl (NL rfl (Km rfl (qe rfl ?_)))))
    exact sn [] h
  ·refine AS ?_
   exact sn [] h
 ·refine Ae hs (wq rfl (qe rfl ?_))
  obtain rfl := sj h
  refine Ae (sm [] [(6, bD true)] [] rfl rfl) (Ap ?_)
  exact ⟨⟨[_], tm, rfl⟩, tv⟩
theorem Oo (N : Nat) (p0 : Ab) (p1 : Ac) (p2 : Int) (r : Bool × (List Int)) (h : FT N p0 p1 p2 = some r) : Dj Tryz.prog 111 [.e (.agg (Ah p0)), oD (.ptr 90000 0), iD p2] [(.box [.own 90001, .own 90002, .own 90003], .box [.own 90001, .own 90002, .own 90003]), (.vec 1 (p1.fd.map An), .vec 1 (p1.fd.map An)), (.vec 1 (p1.fa.map An), .vec 1 (p1.fa.map An)), (.vec 1 (p1.fc.map B3), .vec 1 (r.2.map B3))] [] (bD r.1) := by
 unfold FT at h
 refine Fw (n := 68) (rs := [.tmp 6]) Tryz.func111 rfl rfl rfl (IY rfl) (IY rfl) rfl rfl (IY rfl) rfl (IY rfl) fun w0 S0 GL => ?_
 refine Ae (sm [] [(0, .e (.agg (Ah p0))), (1, oD (.ptr 90000 0)), (2, iD p2)] [(90000, .box [.own 90001, .own 90002, .own 90003]), (90001, .vec 1 (p1.fd.map An)), (90002, .vec 1 (p1.fa.map An)), (90003, .vec 1 (p1.fc.map B3))] rfl rfl) (wq rfl (qb rfl (qa rfl (Aa (wq rfl (qf Cd rfl (ql GD rfl (qm rfl ?_))))))))
 refine BT h fun v1 a1 b1 h => qi DG Dr a1 (Af b1) rfl (qK Gv Dr rfl (qz KU rfl (qs Dr rfl (Aa (wp rfl (qL Gv Dr rfl ?_))))))
 refine BS h fun v2 a2 h => Ar [] (JR N v1 v2 a2) UC rfl (BX rfl (Aa ?_))
 refine Bc h (fun h => ?_) fun h => ?_
 ·refine wq rfl (qe rfl ?_)
  obtain rfl := sj h
  refine Ae (sm [] [(6, bD false)] [(90000, .box [.own 90001, .own 90002, .own 90003]), (90001, .vec 1 (p1.fd.map An)), (90002, .vec 1 (p1.fa.map An)), (90003, .vec 1 (p1.fc.map B3))] rfl rfl) (Ap ?_)
  exact ⟨⟨[_], tm, rfl⟩, ⟨rfl, rfl, rfl, rfl, tv⟩, tv⟩
 ·refine Al (wq rfl (qm rfl (Te rfl (qL A0 AF rfl (qf Ck rfl (ql BL rfl ?_))))))
  refine BS h fun v4 a4 h => FY [] [90001, 90002, 90003] (L2 N p1 v1.fg v4 a4) Wi Eh rfl (qa rfl (AI (by kernel_rfl) (wq rfl (qm rfl (Te rfl (qf BZ rfl (ql Ge rfl (qm rfl ?_))))))))
  refine BT h fun v5 a5 b5 h => qI Cw EQ a5 (Af b5) rfl (qj I9 (Af b5) rfl (qm rfl (HO rfl (qa rfl (Aa (AO ?_))))))
  refine AK h (fun v6 => mk [(1, oD (.ptr 90000 0)), (2, iD p2), (8, pD (.val (.int .u8 v4))), (60, bD v6)] [(90000, .box [.own 90001, .own 90002, .own 90003]), (90001, .vec 1 (p1.fd.map An)), (90002, .vec 1 (p1.fa.map An)), (90003, .vec 1 (p1.fc.map B3))]) (fun j6 h => ?_) (fun v6 h => ?_)
  ·refine Ag Az rfl (qm rfl (Te rfl (qf BZ rfl (ql Ge rfl (qm rfl ?_)))))
   refine BT h fun v7 a7 b7 h => qI Cw EQ a7 (Af b7) rfl (qj I9 (Af b7) rfl (qm rfl (Br rfl (qm rfl ?_))))
   refine Dm 42 h rfl (fun h => ?_) fun h => ?_
   ·refine qw 4 rfl (qu rfl (qu rfl (qu rfl (qu rfl (qu rfl (qu rfl (qu rfl (qu rfl (qu rfl (qu rfl (qu rfl (qu rfl (qn rfl (qp rfl (AI (by kernel_rfl) ?_)))))))))))))))
    exact sn [] h
   ·refine qf Fa rfl (ql BL rfl (Br rfl (qm rfl ?_)))
    refine Dm 46 h rfl (fun h => ?_) fun h => ?_
    ·refine qL Gv Dr rfl (qw 2 rfl (Te rfl (qf Ce rfl (ql AV rfl (qf Ck rfl (ql BL rfl ?_))))))
     refine BT h fun v10 a10 b10 h => qI Au Cy a10 (Af b10) rfl (qj BL (Af b10) rfl ?_)
     refine BS h fun v11 a11 h => Ar [] (KM N v1 ((CC .u8 v5 v4)) v10 v11 a11) WC rfl (BX rfl (qp rfl (qp rfl (AI (by kernel_rfl) ?_))))
     exact sn [] h
    ·refine qw 12 rfl (qp rfl (qp rfl (AI (by kernel_rfl) ?_)))
     exact sn [] h
  ·refine Bc h (fun h => ?_) fun h => ?_
   ·refine wq rfl (qe rfl ?_)
    obtain rfl := sj h
    refine Ae (sm [] [(6, bD false)] [(90000, .box [.own 90001, .own 90002, .own 90003]), (90001, .vec 1 (p1.fd.map An)), (90002, .vec 1 (p1.fa.map An)), (90003, .vec 1 (p1.fc.map B3))] rfl rfl) (Ap ?_)
    exact ⟨⟨[_], tm, rfl⟩, ⟨rfl, rfl, rfl, rfl, tv⟩, tv⟩
   ·refine Al (wq rfl (qm rfl (Te rfl (qf BZ rfl (ql Ge rfl (qw 2 rfl ?_))))))
    refine BT h fun v13 a13 b13 h => qI Cw EQ a13 (Af b13) rfl ?_
    refine Ej rfl rfl rfl rfl (Af b13) rfl EQ rfl (IY rfl) (Eo B3 p1.fc _ v4) ?_
    refine Aa (wq rfl (qe rfl ?_))
    obtain rfl := sj h
    refine Ae (sm [] [(6, bD true)] [(90000, .box [.own 90001, .own 90002, .own 90003]), (90001, .vec 1 (p1.fd.map An)), (90002, .vec 1 (p1.fa.map An)), (90003, .vec 1 ((p1.fc.set ((p2).toNat) v4).map B3))] rfl rfl) (Ap ?_)
    exact ⟨⟨[_], tm, rfl⟩, ⟨rfl, rfl, rfl, rfl, tv⟩, tv⟩
theorem OD (N : Nat) (p0 : Ab) (p1 : Ac) (p2 : Ad) (r : Ac × Bool) (h : FW N p0 p1 p2 = some r) : Aq Tryz.prog 100 [.e (.agg (Ah p0)), .e (.agg (Ay p1)), .e (.agg (Cc p2))] [(1, r.1.fd.map An), (1, r.1.fa.map An), (1, r.1.fc.map B3)] (.tup [.agg [.own 0, .own 1, .own 2], .one (.pure (.val (.bool r.2)))]) := by
 unfold FW at h
 refine cw (n := 51) (rs := [.cell 6 38, .tmp 7]) Tryz.func100 fun w0 S0 => ?_
 refine wq rfl (qb rfl (qb rfl (qb rfl (qz Cb rfl (qa rfl (Aa (wq rfl (qL A0 AF rfl ?_))))))))
 refine BS h fun v1 a1 h => Ar [2001, 2002, 2003] (Na N p1 v1 a1) We rfl (qz Cb rfl (qs AF rfl (Aa (wp rfl (qf DS rfl (ql BL rfl (Aa (AM (wq rfl (Br rfl (qe rfl ?_)))))))))))
 refine Bc h (fun h => ?_) fun h => ?_
 ·refine wq rfl (qL A0 AF rfl (qL CL Cp rfl (qL Gb Cg rfl ?_)))
  refine BS h fun v3 a3 h => LV (ds0 := [_, _, _]) [8, 2001, 2002, 2003] [] [false, false, true, true] (N9 N p0 v1 p2 v3 a3) (.p rfl) WA rfl ⟨rfl, rfl, rfl, tv⟩ rfl rfl (by decide) ⟨rfl, rfl, rfl, rfl, tv⟩ rfl (Ha rfl) tv ⟨(fun _ => rfl), (fun _ => rfl), (fun h => by cases h), (fun h => by cases h), tv⟩ rfl rfl rfl ?_
  refine qs AF rfl (qa rfl (AI (by kernel_rfl) ?_))
  obtain rfl := sj h
  refine Ae (sm [(1000, 2001), (1001, 2002), (1002, 2003)] [(6, oD (.ptr 6 0)), (7, bD v3.1)] [(6, .box [.own 1000, .own 1001, .own 1002]), (1000, .vec 1 (v1.fd.map An)), (1001, .vec 1 (v3.2.1.map An)), (1002, .vec 1 (v3.2.2.map B3))] rfl rfl) (Ap ?_)
  exact ⟨⟨[_, _], ⟨.cellN _ _ _ _ _ _ _ rfl rfl A0 AF rfl rfl (GV rfl), tm⟩, rfl⟩, ⟨rfl, rfl, rfl, tv⟩⟩
 ·refine wq rfl (Br rfl (qe rfl ?_))
  refine Bc h (fun h => ?_) fun h => ?_
  ·refine wq rfl (qL A0 AF rfl (qL CL Cp rfl (qf D6 rfl (ql BL rfl ?_))))
   refine BS h fun v5 a5 h => LV (ds0 := [_, _, _]) [8, 2001, 2002, 2003] [] [false, false, false, true] (Oo N p0 v1 p2.fh v5 a5) (.p rfl) VT rfl ⟨rfl, rfl, rfl, tv⟩ rfl rfl (by decide) ⟨rfl, rfl, rfl, rfl, tv⟩ rfl (Ha rfl) tv ⟨(fun _ => rfl), (fun _ => rfl), (fun _ => rfl), (fun h => by cases h), tv⟩ rfl rfl rfl ?_
   refine qs AF rfl (qa rfl (AI (by kernel_rfl) ?_))
   obtain rfl := sj h
   refine Ae (sm [(1000, 2001), (1001, 2002), (1002, 2003)] [(6, oD (.ptr 6 0)), (7, bD v5.1)] [(6, .box [.own 1000, .own 1001, .own 1002]), (1000, .vec 1 (v1.fd.map An)), (1001, .vec 1 (v1.fa.map An)), (1002, .vec 1 (v5.2.map B3))] rfl rfl) (Ap ?_)
   exact ⟨⟨[_, _], ⟨.cellN _ _ _ _ _ _ _ rfl rfl A0 AF rfl rfl (GV rfl), tm⟩, rfl⟩, ⟨rfl, rfl, rfl, tv⟩⟩
  ·refine Al (wq rfl (qf Bf rfl (ql AV rfl (qf D6 rfl (ql BL rfl ?_)))))
   refine BT h fun v6 a6 b6 h => qI Au Cy a6 (Af b6) rfl (qj BL (Af b6) rfl (qa rfl (Aa (wp rfl (qm rfl (AT rfl (Aa ?_)))))))
   refine Bc h (fun h => ?_) fun h => ?_
   ·refine wq rfl (qL A0 AF rfl (qs AF rfl (qe rfl ?_)))
    obtain rfl := sj h
    refine Ae (sm [(1000, 2001), (1001, 2002), (1002, 2003)] [(6, oD (.ptr 6 0)), (7, bD false)] [(6, .box [.own 1000, .own 1001, .own 1002]), (1000, .vec 1 (v1.fd.map An)), (1001, .vec 1 (v1.fa.map An)), (1002, .vec 1 (v1.fc.map B3))] rfl rfl) (Ap ?_)
    exact ⟨⟨[_, _], ⟨.cellN _ _ _ _ _ _ _ rfl rfl A0 AF rfl rfl (GV rfl), tm⟩, rfl⟩, ⟨rfl, rfl, rfl, tv⟩⟩
   ·refine Al (wq rfl (qf Bf rfl (ql AV rfl (qf D6 rfl (ql BL rfl ?_)))))
    refine BT h fun v8 a8 b8 h => qI Au Cy a8 (Af b8) rfl ?_
    refine Ej rfl rfl rfl rfl (Af b8) rfl Cy rfl (IY rfl) (Eo An v1.fa _ ((-1))) ?_
    refine Aa ?_
    refine AK h (fun v9 => mk [(6, oD (.ptr 6 0)), (8, oD (.ptr 8 0))] [(6, .box [.pure (.nil0), .pure (.nil0), .pure (.nil0)]), (8, .box [.own 2004, .own 2005, .own 2006]), (2004, .vec 1 (v9.map An)), (2005, .vec 1 ((v1.fa.set ((p2.fh).toNat) ((-1))).map An)), (2006, .vec 1 (v1.fc.map B3))]) (fun j9 h => ?_) (fun v9 h => ?_)
    ·refine wq rfl (qf DS rfl (ql BL rfl (Br rfl (Aa ?_))))
     refine Bc h (fun h => ?_) fun h => ?_
     ·refine Ag Az rfl (qf Ce rfl (ql AV rfl (qf D6 rfl (ql BL rfl (qm rfl ?_)))))
      refine BT h fun v11 a11 b11 h => qI Au Cy a11 (Af b11) rfl ?_
      refine Ej rfl rfl rfl rfl (Af b11) rfl Cy rfl (IY rfl) (Eo An v1.fd _ v6) ?_
      refine Aa ?_
      exact sn [(2004, 2001), (2005, 2002), (2006, 2003)] h
     ·refine Al ?_
      exact sn [(2004, 2001), (2005, 2002), (2006, 2003)] h
    ·refine wq rfl (qL A0 AF rfl (qs AF rfl (qe rfl ?_)))
     obtain rfl := sj h
     refine Ae (sm [(1000, 2004), (1001, 2005), (1002, 2006)] [(6, oD (.ptr 6 0)), (7, bD true)] [(6, .box [.own 1000, .own 1001, .own 1002]), (1000, .vec 1 (v9.map An)), (1001, .vec 1 ((v1.fa.set ((p2.fh).toNat) ((-1))).map An)), (1002, .vec 1 (v1.fc.map B3))] rfl rfl) (Ap ?_)
     exact ⟨⟨[_, _], ⟨.cellN _ _ _ _ _ _ _ rfl rfl A0 AF rfl rfl (GV rfl), tm⟩, rfl⟩, ⟨rfl, rfl, rfl, tv⟩⟩
theorem Ot (N : Nat) (p0 : Ab) (p1 : Ac) (p2 : Ad) (r : Ac × Int) (h : FU N p0 p1 p2 = some r) : Aq Tryz.prog 83 [.e (.agg (Ah p0)), .e (.agg (Ay p1)), .e (.agg (Cc p2))] [(1, r.1.fd.map An), (1, r.1.fa.map An), (1, r.1.fc.map B3)] (.tup [.agg [.own 0, .own 1, .own 2], .one (iC r.2)]) := by
 unfold FU at h
 refine cw (n := 32) (rs := [.cell 6 38, .tmp 7]) Tryz.func83 fun w0 S0 => ?_
 refine wq rfl (qb rfl (qb rfl (qb rfl (qz Cb rfl (qa rfl (Aa (AO (AM (wq rfl (qL Gb Cg rfl ?_))))))))))
 refine BS h fun v1 a1 h => Ar [] (KL N p2 v1 a1) VX rfl (BX rfl (qe rfl ?_))
 refine Bc h (fun h => ?_) fun h => ?_
 ·refine wq rfl (A8 Cb F5 rfl (qs AF rfl (qe rfl ?_)))
  obtain rfl := sj h
  refine Ae ((Ax 6 0 2001 1 _ rfl rfl rfl rfl).trans ((Ax 6 1 2002 1 _ rfl rfl rfl rfl).trans ((Ax 6 2 2003 1 _ rfl rfl rfl rfl).trans (sm [(1000, 2001), (1001, 2002), (1002, 2003)] [(6, oD (.ptr 6 0)), (7, iD 1)] [(6, .box [.own 1000, .own 1001, .own 1002]), (1000, .vec 1 ((([] : List Int)).map An)), (1001, .vec 1 ((([] : List Int)).map An)), (1002, .vec 1 ((([] : List Int)).map B3))] rfl rfl)))) (Ap ?_)
  exact ⟨⟨[_, _], ⟨.cellN _ _ _ _ _ _ _ rfl rfl A0 AF rfl rfl (GV rfl), tm⟩, rfl⟩, ⟨rfl, rfl, rfl, tv⟩⟩
 ·refine wq rfl (qL CL Cp rfl (qL Gb Cg rfl ?_))
  refine BS h fun v3 a3 h => Ar [] (Nf N p0 p2 v3 a3) W2 rfl (BX rfl (qe rfl ?_))
  refine Bc h (fun h => ?_) fun h => ?_
  ·refine wq rfl (A8 Cb F5 rfl (qs AF rfl (qe rfl ?_)))
   obtain rfl := sj h
   refine Ae ((Ax 6 0 2004 1 _ rfl rfl rfl rfl).trans ((Ax 6 1 2005 1 _ rfl rfl rfl rfl).trans ((Ax 6 2 2006 1 _ rfl rfl rfl rfl).trans (sm [(1000, 2004), (1001, 2005), (1002, 2006)] [(6, oD (.ptr 6 0)), (7, iD 4)] [(6, .box [.own 1000, .own 1001, .own 1002]), (1000, .vec 1 ((([] : List Int)).map An)), (1001, .vec 1 ((([] : List Int)).map An)), (1002, .vec 1 ((([] : List Int)).map B3))] rfl rfl)))) (Ap ?_)
   exact ⟨⟨[_, _], ⟨.cellN _ _ _ _ _ _ _ rfl rfl A0 AF rfl rfl (GV rfl), tm⟩, rfl⟩, ⟨rfl, rfl, rfl, tv⟩⟩
  ·refine Al (wq rfl (qL CL Cp rfl (qL A0 AF rfl (qL Gb Cg rfl ?_))))
   refine BS h fun v5 a5 h => Ar [2007, 2008, 2009] (OD N p0 p1 p2 v5 a5) WI rfl (qm rfl (qx rfl (qx rfl (qz Cb rfl (qs AF rfl (qa rfl (Aa (wp rfl (qm rfl (BX rfl (Aa ?_)))))))))))
   refine Bc h (fun h => ?_) fun h => ?_
   ·refine wq rfl (A8 Cb F5 rfl (qs AF rfl (qe rfl ?_)))
    obtain rfl := sj h
    refine Ae ((Ax 6 0 2010 1 _ rfl rfl rfl rfl).trans ((Ax 6 1 2011 1 _ rfl rfl rfl rfl).trans ((Ax 6 2 2012 1 _ rfl rfl rfl rfl).trans (sm [(1000, 2010), (1001, 2011), (1002, 2012)] [(6, oD (.ptr 6 0)), (7, iD 11)] [(6, .box [.own 1000, .own 1001, .own 1002]), (1000, .vec 1 ((([] : List Int)).map An)), (1001, .vec 1 ((([] : List Int)).map An)), (1002, .vec 1 ((([] : List Int)).map B3))] rfl rfl)))) (Ap ?_)
    exact ⟨⟨[_, _], ⟨.cellN _ _ _ _ _ _ _ rfl rfl A0 AF rfl rfl (GV rfl), tm⟩, rfl⟩, ⟨rfl, rfl, rfl, tv⟩⟩
   ·refine Al (wq rfl (qL A0 AF rfl (qs AF rfl (qe rfl ?_))))
    obtain rfl := sj h
    refine Ae (sm [(1000, 2007), (1001, 2008), (1002, 2009)] [(6, oD (.ptr 6 0)), (7, iD 0)] [(6, .box [.own 1000, .own 1001, .own 1002]), (1000, .vec 1 (v5.1.fd.map An)), (1001, .vec 1 (v5.1.fa.map An)), (1002, .vec 1 (v5.1.fc.map B3))] rfl rfl) (Ap ?_)
    exact ⟨⟨[_, _], ⟨.cellN _ _ _ _ _ _ _ rfl rfl A0 AF rfl rfl (GV rfl), tm⟩, rfl⟩, ⟨rfl, rfl, rfl, tv⟩⟩
theorem Ks (N : Nat) (p0 : Ab) (p1 : Ac) (p2 : Ad) (r : Ac × Int) (h : E5 N p0 p1 p2 = some r) : Aq Tryz.prog 56 [.e (.agg (Ah p0)), .e (.agg (Ay p1)), .e (.agg (Cc p2))] [(1, r.1.fd.map An), (1, r.1.fa.map An), (1, r.1.fc.map B3)] (.tup [.agg [.own 0, .own 1, .own 2], .one (iC r.2)]) := by
 unfold E5 at h
 refine cw (n := 22) (rs := [.cell 6 38, .tmp 7]) Tryz.func56 fun w0 S0 => ?_
 refine wq rfl (qb rfl (qb rfl (qb rfl (qz Cb rfl (qa rfl (Aa (wp rfl (qL CL Cp rfl (qL A0 AF rfl ?_)))))))))
 refine BS h fun v1 a1 h => Ar [] (Ic N p0 p1 v1 a1) TA rfl (qa rfl (Aa (wq rfl (qm rfl (BB rfl (Aa ?_))))))
 refine Bc h (fun h => ?_) fun h => ?_
 ·refine wq rfl (A8 Cb F5 rfl (qm rfl (qs AF rfl (qe rfl ?_))))
  obtain rfl := sj h
  refine Ae ((Ax 6 0 2001 1 _ rfl rfl rfl rfl).trans ((Ax 6 1 2002 1 _ rfl rfl rfl rfl).trans ((Ax 6 2 2003 1 _ rfl rfl rfl rfl).trans (sm [(1000, 2001), (1001, 2002), (1002, 2003)] [(6, oD (.ptr 6 0)), (7, iD v1)] [(6, .box [.own 1000, .own 1001, .own 1002]), (1000, .vec 1 ((([] : List Int)).map An)), (1001, .vec 1 ((([] : List Int)).map An)), (1002, .vec 1 ((([] : List Int)).map B3))] rfl rfl)))) (Ap ?_)
  exact ⟨⟨[_, _], ⟨.cellN _ _ _ _ _ _ _ rfl rfl A0 AF rfl rfl (GV rfl), tm⟩, rfl⟩, ⟨rfl, rfl, rfl, tv⟩⟩
 ·refine Al (wq rfl (qL CL Cp rfl (qL A0 AF rfl (qL Gb Cg rfl ?_))))
  refine BS h fun v3 a3 h => Ar [2004, 2005, 2006] (Ot N p0 p1 p2 v3 a3) Xf rfl (qx rfl (qx rfl (qs AF rfl (qe rfl ?_))))
  obtain rfl := sj h
  refine Ae (sm [(1000, 2004), (1001, 2005), (1002, 2006)] [(6, oD (.ptr 6 0)), (7, iD v3.2)] [(6, .box [.own 1000, .own 1001, .own 1002]), (1000, .vec 1 (v3.1.fd.map An)), (1001, .vec 1 (v3.1.fa.map An)), (1002, .vec 1 (v3.1.fc.map B3))] rfl rfl) (Ap ?_)
  exact ⟨⟨[_, _], ⟨.cellN _ _ _ _ _ _ _ rfl rfl A0 AF rfl rfl (GV rfl), tm⟩, rfl⟩, ⟨rfl, rfl, rfl, tv⟩⟩
theorem IQ (N : Nat) (p0 : List Int) (p1 : List Int) (r : Bool) (h : EK N p0 p1 = some r) : Aq Tryz.prog 70 [pD (.sl (p0.map An)), pD (.sl (p1.map An))] [] (bD r) := by
 unfold EK at h
 refine cw (n := 26) (rs := [.tmp 4]) Tryz.func70 fun w0 S0 => ?_
 refine wq rfl (qa rfl (Aa (wp rfl (qm rfl (AB Au rfl (qm rfl (AB Au rfl (BB rfl (Aa ?_)))))))))
 refine Bc h (fun h => ?_) fun h => ?_
 ·refine wq rfl (qe rfl ?_)
  obtain rfl := sj h
  refine Ae (sm [] [(4, bD false)] [] rfl rfl) (Ap ?_)
  exact ⟨⟨[_], tm, rfl⟩, tv⟩
 ·refine Al (wp rfl (qm rfl (AB Au rfl (qm rfl (Aa ?_)))))
  refine AH (L := De N p0 p1) h (fun v2 => mk [(0, pD (.sl (p0.map An))), (1, pD (.sl (p1.map An))), (12, iD ((p0.length : Int))), (13, iD v2)] []) (fun v3 => mk [] []) (fun _ _ => rfl) (sm [] _ _ rfl rfl) (fun j2 n2 v2 h => ?_) (fun v3 s h hs => ?_)
  ·unfold De at h
   refine wq rfl (AT rfl (Aa (AO ?_)))
   refine Bc h (fun h => ?_) fun h => ?_
   ·refine Al (AO (AM (wq rfl (qm rfl (qa rfl (Aa (wq rfl (qw 2 rfl ?_))))))))
    refine BT h fun v5 a5 b5 h => qi Au Cy a5 (Af b5) rfl (qk BL rfl (qw 2 rfl ?_))
    refine BT h fun v6 a6 b6 h => qi Au Cy a6 (Af b6) rfl (qk BL rfl (BB rfl (AI (by kernel_rfl) ?_)))
    refine Bc h (fun h => ?_) fun h => ?_
    ·refine wq rfl (qe rfl ?_)
     obtain rfl := sj h
     refine Ae (sm [] [(4, bD false)] [] rfl rfl) (Ap ?_)
     exact ⟨⟨[_], tm, rfl⟩, tv⟩
    ·refine Al (Ag Az rfl (Be rfl (qm rfl (Aa ?_))))
     exact sn [] h
   ·refine AS ?_
    exact sn [] h
  ·refine Ae hs (wq rfl (qe rfl ?_))
   obtain rfl := sj h
   refine Ae (sm [] [(4, bD true)] [] rfl rfl) (Ap ?_)
   exact ⟨⟨[_], tm, rfl⟩, tv⟩
theorem HI (N : Nat) (p0 : List Int) (p1 : Int → Option Bool) (r : Int) (h : D5 N p0 p1 = some r) : Aq Tryz.prog 93 [pD (.sl (p0.map An)), oD (.clo (Mq (Rx false An) tB p1))] [] (iD r) := by
 unfold D5 at h
 refine cw (n := 19) (rs := [.tmp 4]) Tryz.func93 fun w0 S0 => ?_
 refine wq rfl (qa rfl (Aa (wp rfl (qm rfl (AB Au rfl (qm rfl (Aa ?_)))))))
 refine AH (L := CB N p0 p1) h (fun v1 => mk [(0, pD (.sl (p0.map An))), (1, oD (.clo (Mq (Rx false An) tB p1))), (7, iD ((p0.length : Int))), (8, iD v1)] []) (fun v2 => mk [] []) (fun _ _ => rfl) (sm [] _ _ rfl rfl) (fun j1 n1 v1 h => ?_) (fun v2 s h hs => ?_)
 ·unfold CB at h
  refine wq rfl (AT rfl (Aa (AO ?_)))
  refine Bc h (fun h => ?_) fun h => ?_
  ·refine Al (AO (AM (wq rfl (qm rfl (qa rfl (Aa (wq rfl (qw 3 rfl ?_))))))))
   refine BT h fun v4 a4 b4 h => qi Au Cy a4 (Af b4) rfl (qk BL rfl ?_)
   refine BS h fun v5 a5 h => QY (ds0 := [_]) (ar := (Rx false An) v4) (.p rfl) rfl rfl ⟨rfl, tv⟩ rfl rfl rfl (QP (QG _ _ Vv) a5) ?_
   refine Aa ?_
   refine Bc h (fun h => ?_) fun h => ?_
   ·refine wq rfl (qm rfl (qe rfl ?_))
    obtain rfl := sj h
    refine Ae (sm [] [(4, iD v1)] [] rfl rfl) (Ap ?_)
    exact ⟨⟨[_], tm, rfl⟩, tv⟩
   ·refine Al (Ag Az rfl (Be rfl (qm rfl (Aa ?_))))
    exact sn [] h
  ·refine AS ?_
   exact sn [] h
 ·refine Ae hs (wq rfl (qe rfl ?_))
  obtain rfl := sj h
  refine Ae (sm [] [(4, iD ((-1)))] [] rfl rfl) (Ap ?_)
  exact ⟨⟨[_], tm, rfl⟩, tv⟩
theorem Hb (N : Nat) (p0 : List Int) (p1 : Int → Option Bool) (r : Bool) (h : DB N p0 p1 = some r) : Aq Tryz.prog 71 [pD (.sl (p0.map An)), oD (.clo (Mq (Rx false An) tB p1))] [] (bD r) := by
 unfold DB at h
 refine cw (n := 9) (rs := [.tmp 4]) Tryz.func71 fun w0 S0 => ?_
 refine wq rfl (qa rfl (Aa (wq rfl (qw 2 rfl ?_))))
 refine BS h fun v1 a1 h => Ar [] (HI N p0 p1 v1 a1) WW rfl (Ep rfl (qe rfl ?_))
 obtain rfl := sj h
 refine Ae (sm [] [(4, bD ((decide (0 ≤ v1))))] [] rfl rfl) (Ap ?_)
 exact ⟨⟨[_], tm, rfl⟩, tv⟩
theorem Ol (N : Nat) (p0 : Int) (r : Bool) (h : G9 N p0 = some r) : Aq Tryz.prog 72 [iD p0] [] (bD r) := by
 unfold G9 at h
 refine cw (n := 5) (rs := [.tmp 2]) Tryz.func72 fun w0 S0 => ?_
 refine wq rfl (qa rfl (Aa (wq rfl (qm rfl (Ep rfl (qe rfl ?_))))))
 obtain rfl := sj h
 refine Ae (sm [] [(2, bD ((decide (0 ≤ p0))))] [] rfl rfl) (Ap ?_)
 exact ⟨⟨[_], tm, rfl⟩, tv⟩
theorem MF (N : Nat) (p0 : Ab) (p1 : Ac) (r : Bool) (h : H7 N p0 p1 = some r) : Aq Tryz.prog 48 [.e (.agg (Ah p0)), .e (.agg (Ay p1))] [] (bD r) := by
 unfold H7 at h
 refine cw (n := 22) (rs := [.tmp 4]) Tryz.func48 fun w0 S0 => ?_
 refine wq rfl (qb rfl (qb rfl (qe rfl ?_)))
 refine AK h (fun v1 => mk [(4, bD v1)] []) (fun j1 h => ?_) (fun v1 h => ?_)
 ·refine Ag Az rfl (qL CL Cp rfl (qL A0 AF rfl ?_))
  refine BS h fun v2 a2 h => Ar [] (Ic N p0 p1 v2 a2) TA rfl (Br rfl (qm rfl ?_))
  refine Dm 9 h rfl (fun h => ?_) fun h => ?_
  ·refine qf Ce rfl (ql AV rfl (qf H8 rfl (ql AV rfl ?_)))
   refine BS h fun v4 a4 h => Ar [] (IQ N p1.fd p0.fo v4 a4) XN rfl (qp rfl (qm rfl ?_))
   refine Dm 16 h rfl (fun h => ?_) fun h => ?_
   ·refine qf Bf rfl (ql AV rfl ?_)
    refine BS h fun v6 a6 h => Ar [] (Aq.weak (ds' := [pD (.sl (p1.fa.map An)), oD (.fnc 72)]) (Hb N p1.fa ((fun (x : Int) => G9 N x)) v6 a6) ⟨(fun _ _ _ hh => hh), (fun _ _ _ hh => S5 XG (fun ar t ht => by obtain ⟨x, r, rfl, hq, rfl⟩ := Ny ht; exact Ol N x r hq) hh), tv⟩) XE rfl ?_
    refine BX rfl (qp rfl (qe rfl ?_))
    exact sn [] h
   ·refine qw 4 rfl (qp rfl (qe rfl ?_))
    exact sn [] h
  ·refine qw 5 rfl (qp rfl (qw 5 rfl (qp rfl (qe rfl ?_))))
   exact sn [] h
 ·obtain rfl := sj h
  refine Ae (sm [] [(4, bD v1)] [] rfl rfl) (Ap ?_)
  exact ⟨⟨[_], tm, rfl⟩, tv⟩
theorem L8 (N : Nat) (p0 : Ab) (p1 : List Ad) (r : Int × Ac × Ak × Int) (h : Hl N p0 p1 = some r) : Aq Tryz.prog 68 [.e (.agg (Ah p0)), pD (.sl (p1.map Ai))] [] (.tup [.one (iC r.1), .agg (Ay r.2.1), .agg (Gr r.2.2.1), .one (iC r.2.2.2)]) := by
 unfold Hl at h
 refine cw (n := 89) (rs := [.tmp 4, .cell 5 38, .cell 6 93, .tmp 7]) Tryz.func68 fun w0 S0 => ?_
 refine wq rfl (qb rfl (qa rfl (qz Cb rfl (qz HD rfl (qa rfl (Aa (wq rfl (qL CL Cp rfl ?_))))))))
 refine BS h fun v1 a1 h => Ar [2001, 2002, 2003] (Jm N p0 v1 a1) U8 rfl (qm rfl (qx rfl (qx rfl (qz Cb rfl (qs AF rfl (qa rfl (Aa (wp rfl (qm rfl (BB rfl (Aa ?_)))))))))))
 refine Bc h (fun h => ?_) fun h => ?_
 ·refine wq rfl (A8 Cb F5 rfl (A8 HD MW rfl (qm rfl (qa rfl (qs AF rfl (qs Fz rfl (qe rfl ?_)))))))
  obtain rfl := sj h
  refine Ae ((E6 5 _ rfl).trans (sm [] [(4, iD 0), (5, oD (.ptr 5 0)), (6, oD (.ptr 6 0)), (7, iD v1.2)] [(5, .box [sC ((([] : List Int)).map An), sC ((([] : List Int)).map An), sC ((([] : List Int)).map B3)]), (6, .box [iC 0, iC 0, iC 0])] rfl rfl)) (Ap ?_)
  exact ⟨⟨[_, _, _, _], ⟨.tmp _ _ rfl, ⟨.cellN _ _ _ _ _ _ _ rfl rfl A0 AF rfl rfl (GV rfl), ⟨.cellN _ _ _ _ _ _ _ rfl rfl LM Fz rfl rfl (GV rfl), tm⟩⟩⟩, rfl⟩, tv⟩
 ·refine Al (wp rfl (qL CL Cp rfl (qL A0 AF rfl (D2 (A5 2001 _ _ rfl rfl) (D2 (A5 2002 _ _ rfl rfl) (D2 (A5 2003 _ _ rfl rfl) ?_))))))
  refine BS h fun v3 a3 h => Ar [] (Jq N p0 v1.1 v3 a3) UF rfl (qm rfl (qx rfl (qx rfl (qx rfl (qz Cb rfl (qz HD rfl (qs AF rfl (qs Fz rfl (qa rfl (Aa (wq rfl (qm rfl (Br rfl (Aa ?_))))))))))))))
  refine Bc h (fun h => ?_) fun h => ?_
  ·refine wq rfl (qL A0 AF rfl (qL LM Fz rfl (qa rfl (qs AF rfl (qs Fz rfl (qa rfl (AI (by kernel_rfl) ?_)))))))
   obtain rfl := sj h
   refine Ae (sm [] [(4, iD ((-1))), (5, oD (.ptr 5 0)), (6, oD (.ptr 6 0)), (7, iD 0)] [(5, .box (Ay v3.1)), (6, .box (Gr v3.2.1))] rfl rfl) (Ap ?_)
   exact ⟨⟨[_, _, _, _], ⟨.tmp _ _ rfl, ⟨.cellN _ _ _ _ _ _ _ rfl rfl A0 AF rfl rfl (GV rfl), ⟨.cellN _ _ _ _ _ _ _ rfl rfl LM Fz rfl rfl (GV rfl), tm⟩⟩⟩, rfl⟩, tv⟩
  ·refine Al (wp rfl (qm rfl (AB Bo rfl (qm rfl (Aa ?_)))))
   refine AH (L := EX N p0 p1) h (fun v5 => mk [(1, pD (.sl (p1.map Ai))), (2, oD (.ptr 2 0)), (5, oD (.ptr 5 0)), (6, oD (.ptr 6 0)), (8, oD (.ptr 8 0)), (41, pD (.sl (p1.map Ai))), (42, iD ((p1.length : Int))), (43, iD v5.2)] [(2, .box (Ah p0)), (5, .box [.pure (.nil0), .pure (.nil0), .pure (.nil0)]), (6, .box [iC 0, iC 0, iC 0]), (8, .box (Ay v5.1))]) (fun v6 => mk [(1, pD (.sl (p1.map Ai))), (2, oD (.ptr 2 0)), (5, oD (.ptr 5 0)), (6, oD (.ptr 6 0)), (8, oD (.ptr 8 0))] [(2, .box (Ah p0)), (5, .box [.pure (.nil0), .pure (.nil0), .pure (.nil0)]), (6, .box [iC 0, iC 0, iC 0]), (8, .box (Ay v6))]) (fun _ _ => rfl) (sm [] _ _ rfl rfl) (fun j5 n5 v5 h => ?_) (fun v6 s h hs => ?_)
   ·unfold EX at h
    refine wq rfl (AT rfl (Aa (AO ?_)))
    refine Bc h (fun h => ?_) fun h => ?_
    ·refine Al (AO (AM (wq rfl (qm rfl ?_))))
     refine BT h fun v8 a8 b8 h => qi Bo Cg a8 (Af b8) rfl (qK Gb Cg rfl (qz IV rfl (qa rfl (qs Cg rfl (Aa (wq rfl (qL CL Cp rfl (qL A0 AF rfl (qL Gb Cg rfl ?_)))))))))
     refine BS h fun v9 a9 h => Ar [2004, 2005, 2006] (Ks N p0 v5.1 v8 v9 a9) VH rfl (qm rfl (qx rfl (qx rfl (qz Cb rfl (qs AF rfl (qa rfl (Aa (AO ?_))))))))
     refine AK h (fun v10 => mk [(1, pD (.sl (p1.map Ai))), (2, oD (.ptr 2 0)), (5, oD (.ptr 5 0)), (6, oD (.ptr 6 0)), (8, oD (.ptr 8 0)), (13, iD v5.2), (15, oD (.ptr 15 0)), (41, pD (.sl (p1.map Ai))), (42, iD ((p1.length : Int))), (43, iD v5.2), (61, bD v10)] [(2, .box (Ah p0)), (5, .box [.pure (.nil0), .pure (.nil0), .pure (.nil0)]), (6, .box [iC 0, iC 0, iC 0]), (8, .box (Ay v5.1)), (15, .box [.own 2007, .own 2008, .own 2009]), (2007, .vec 1 (v9.1.fd.map An)), (2008, .vec 1 (v9.1.fa.map An)), (2009, .vec 1 (v9.1.fc.map B3))]) (fun j10 h => ?_) (fun v10 h => ?_)
     ·refine Ag Az rfl (qm rfl (BB rfl (qm rfl ?_)))
      refine Dm 57 h rfl (fun h => ?_) fun h => ?_
      ·refine qw 3 rfl (qp rfl (Aa ?_))
       exact sn [(2007, 2004), (2008, 2005), (2009, 2006)] h
      ·refine qf DS rfl (ql BL rfl (Br rfl (qp rfl (Aa ?_))))
       exact sn [(2007, 2004), (2008, 2005), (2009, 2006)] h
     ·refine Bc h (fun h => ?_) fun h => ?_
      ·refine wq rfl (qm rfl (A8 Cb F5 rfl (A8 HD MW rfl (qa rfl (qs AF rfl (qs Fz rfl (qe rfl ?_)))))))
       obtain rfl := sj h
       refine Ae ((E6 5 _ rfl).trans (sm [] [(4, iD v5.2), (5, oD (.ptr 5 0)), (6, oD (.ptr 6 0)), (7, iD 0)] [(5, .box [sC ((([] : List Int)).map An), sC ((([] : List Int)).map An), sC ((([] : List Int)).map B3)]), (6, .box [iC 0, iC 0, iC 0])] rfl rfl)) (Ap ?_)
       exact ⟨⟨[_, _, _, _], ⟨.tmp _ _ rfl, ⟨.cellN _ _ _ _ _ _ _ rfl rfl A0 AF rfl rfl (GV rfl), ⟨.cellN _ _ _ _ _ _ _ rfl rfl LM Fz rfl rfl (GV rfl), tm⟩⟩⟩, rfl⟩, tv⟩
      ·refine Al (wp rfl (qL CL Cp rfl (qL A0 AF rfl (D2 (A5 2007 _ _ rfl rfl) (D2 (A5 2008 _ _ rfl rfl) (D2 (A5 2009 _ _ rfl rfl) ?_))))))
       refine BS h fun v13 a13 h => Ar [] (Jq N p0 v9.1 v13 a13) UF rfl (qm rfl (qx rfl (qx rfl (qx rfl (qz Cb rfl (qz HD rfl (qs AF rfl (qs Fz rfl (qa rfl (Aa (wq rfl (qm rfl (Br rfl (Aa ?_))))))))))))))
       refine Bc h (fun h => ?_) fun h => ?_
       ·refine wq rfl (qm rfl (qL A0 AF rfl (qL LM Fz rfl (qa rfl (qs AF rfl (qs Fz rfl (qa rfl (AI (by kernel_rfl) ?_))))))))
        obtain rfl := sj h
        refine Ae (sm [] [(4, iD v5.2), (5, oD (.ptr 5 0)), (6, oD (.ptr 6 0)), (7, iD 0)] [(5, .box (Ay v13.1)), (6, .box (Gr v13.2.1))] rfl rfl) (Ap ?_)
        exact ⟨⟨[_, _, _, _], ⟨.tmp _ _ rfl, ⟨.cellN _ _ _ _ _ _ _ rfl rfl A0 AF rfl rfl (GV rfl), ⟨.cellN _ _ _ _ _ _ _ rfl rfl LM Fz rfl rfl (GV rfl), tm⟩⟩⟩, rfl⟩, tv⟩
       ·refine Al (Ag Az rfl (qL A0 AF rfl (qs AF rfl (Aa (Ag Az rfl (Be rfl (qm rfl (Aa ?_))))))))
        exact sn [] h
    ·refine AS ?_
     exact sn [] h
   ·refine Ae hs (wp rfl (qL CL Cp rfl (qL A0 AF rfl ?_)))
    refine BS h fun v15 a15 h => Ar [] (MF N p0 v6 v15 a15) Wg rfl (BX rfl (Aa ?_))
    refine Bc h (fun h => ?_) fun h => ?_
    ·refine wq rfl (qm rfl (AB Bo rfl (A8 Cb F5 rfl (A8 HD MW rfl (qa rfl (qs AF rfl (qs Fz rfl (qe rfl ?_))))))))
     obtain rfl := sj h
     refine Ae ((E6 5 _ rfl).trans (sm [] [(4, iD ((p1.length : Int))), (5, oD (.ptr 5 0)), (6, oD (.ptr 6 0)), (7, iD 14)] [(5, .box [sC ((([] : List Int)).map An), sC ((([] : List Int)).map An), sC ((([] : List Int)).map B3)]), (6, .box [iC 0, iC 0, iC 0])] rfl rfl)) (Ap ?_)
     exact ⟨⟨[_, _, _, _], ⟨.tmp _ _ rfl, ⟨.cellN _ _ _ _ _ _ _ rfl rfl A0 AF rfl rfl (GV rfl), ⟨.cellN _ _ _ _ _ _ _ rfl rfl LM Fz rfl rfl (GV rfl), tm⟩⟩⟩, rfl⟩, tv⟩
    ·refine Al (wq rfl (A8 Cb F5 rfl (A8 HD MW rfl (qa rfl (qs AF rfl (qs Fz rfl (qe rfl ?_)))))))
     obtain rfl := sj h
     refine Ae ((E6 5 _ rfl).trans (sm [] [(4, iD 0), (5, oD (.ptr 5 0)), (6, oD (.ptr 6 0)), (7, iD 15)] [(5, .box [sC ((([] : List Int)).map An), sC ((([] : List Int)).map An), sC ((([] : List Int)).map B3)]), (6, .box [iC 0, iC 0, iC 0])] rfl rfl)) (Ap ?_)
     exact ⟨⟨[_, _, _, _], ⟨.tmp _ _ rfl, ⟨.cellN _ _ _ _ _ _ _ rfl rfl A0 AF rfl rfl (GV rfl), ⟨.cellN _ _ _ _ _ _ _ rfl rfl LM Fz rfl rfl (GV rfl), tm⟩⟩⟩, rfl⟩, tv⟩
theorem NW (N : Nat) (p0 : Ab) (p1 : List Ad) (r : Bool) (h : Ip N p0 p1 = some r) : Aq Tryz.prog 45 [.e (.agg (Ah p0)), pD (.sl (p1.map Ai))] [] (bD r) := by
 unfold Ip at h
 refine cw (n := 19) (rs := [.tmp 4]) Tryz.func45 fun w0 S0 => ?_
 refine wq rfl (qb rfl (qa rfl (Aa (wq rfl (qL CL Cp rfl (qm rfl ?_))))))
 refine BS h fun v1 a1 h => Ar [] (L8 N p0 p1 v1 a1) Xj rfl (qm rfl (qx rfl (qx rfl (qx rfl (qx rfl (qz Cb rfl (qz HD rfl (qa rfl (qs AF rfl (qs Fz rfl (qa rfl (Aa (wq rfl (qm rfl (Br rfl (qe rfl ?_))))))))))))))))
 obtain rfl := sj h
 refine Ae (sm [] [(4, bD ((v1.2.2.2 == 15)))] [] rfl rfl) (Ap ?_)
 exact ⟨⟨[_], tm, rfl⟩, tv⟩
theorem IF (N : Nat) (p0 : Ab) (p1 : Ac) (r : Bool × Int) (h : Ev N p0 p1 = some r) : Aq Tryz.prog 31 [.e (.agg (Ah p0)), .e (.agg (Ay p1))] [] (.tup [.one (.pure (.val (.bool r.1))), .one (iC r.2)]) := by
 unfold Ev at h
 refine cw (n := 22) (rs := [.tmp 4, .tmp 5]) Tryz.func31 fun w0 S0 => ?_
 refine wq rfl (qb rfl (qb rfl (qa rfl (qa rfl (Aa (wq rfl (qL CL Cp rfl (qL A0 AF rfl ?_))))))))
 refine BS h fun v1 a1 h => Ar [] (Jq N p0 p1 v1 a1) UF rfl (qm rfl (qx rfl (qx rfl (qx rfl (qz Cb rfl (qz HD rfl (qs AF rfl (qs Fz rfl (qa rfl (Aa (wq rfl (qm rfl (Aa (AM (wq rfl (Br rfl (qe rfl ?_)))))))))))))))))
 refine Bc h (fun h => ?_) fun h => ?_
 ·refine wq rfl (qa rfl (qe rfl ?_))
  obtain rfl := sj h
  refine Ae (sm [] [(4, bD false), (5, iD 0)] [] rfl rfl) (Ap ?_)
  exact ⟨⟨[_, _], ⟨.tmp _ _ rfl, tm⟩, rfl⟩, tv⟩
 ·refine wq rfl (Br rfl (qe rfl ?_))
  refine Bc h (fun h => ?_) fun h => ?_
  ·refine wq rfl (qa rfl (qe rfl ?_))
   obtain rfl := sj h
   refine Ae (sm [] [(4, bD true), (5, iD 0)] [] rfl rfl) (Ap ?_)
   exact ⟨⟨[_, _], ⟨.tmp _ _ rfl, tm⟩, rfl⟩, tv⟩
  ·refine wq rfl (qm rfl (qa rfl (qe rfl ?_)))
   obtain rfl := sj h
   refine Ae (sm [] [(4, bD false), (5, iD v1.2.2)] [] rfl rfl) (Ap ?_)
   exact ⟨⟨[_, _], ⟨.tmp _ _ rfl, tm⟩, rfl⟩, tv⟩
theorem PM (N : Nat) (p0 : Int) (r : ByteArray) (h : El N p0 = some r) : Aq Tryz.prog 80 [iD p0] [] (pD (.val (.string r))) := by
 unfold El at h
 refine cw (n := 7) (rs := [.tmp 2]) Tryz.func80 fun w0 S0 => ?_
 refine wq rfl (qa rfl (Aa (wq rfl (D1 RS XV X2 rfl (qm rfl ?_)))))
 refine BT h fun v1 a1 b1 h => Pa (.p rfl) rfl rfl rfl RS XV a1 (Af (f := eS) b1) ?_
 refine Pz (.p rfl) rfl X0 rfl (Af (f := eS) b1) rfl ?_
 refine qa rfl (Aa ?_)
 obtain rfl := sj h
 refine Ae (sm [] [(2, pD (.val (.string v1)))] [] rfl rfl) (Ap ?_)
 exact ⟨⟨[_], tm, rfl⟩, tv⟩
def So : Go.Shelf.Ren := ⟨fun | 129 => 121 | 171 => 81 | 243 => 98 | 246 => 108 | 283 => 113 | 284 => 114 | 285 => 115 | 286 => 116 | 317 => 120 | 318 => 122 | 319 => 123 | 320 => 124 | 337 => 126 | 338 => 127 | n => n, fun | 0 => 0 | 2 => 2 | 3 => 3 | 4 => 4 | 5 => 5 | 9 => 9 | 20 => 20 | 37 => 22 | 46 => 126 | 51 => 137 | 53 => 140 | 171 => 150 | 173 => 153 | 212 => 158 | 213 => 159 | 232 => 163 | 233 => 164 | n => n, fun | 17 => 0 | 18 => 1 | 19 => 2 | n => n⟩
theorem Vt : LaysM.n171 Tryz.prog So := { mixed := Az, f129 := Tryz.func121.trans (congrArg some (by kernel_rfl)), f171 := Tryz.func81.trans (congrArg some (by kernel_rfl)), f243 := Tryz.func98.trans (congrArg some (by kernel_rfl)), f246 := Tryz.func108.trans (congrArg some (by kernel_rfl)), f283 := Tryz.func113.trans (congrArg some (by kernel_rfl)), f284 := Tryz.func114.trans (congrArg some (by kernel_rfl)), f285 := Tryz.func115.trans (congrArg some (by kernel_rfl)), f286 := Tryz.func116.trans (congrArg some (by kernel_rfl)), f317 := Tryz.func120.trans (congrArg some (by kernel_rfl)), f318 := Tryz.func122.trans (congrArg some (by kernel_rfl)), f319 := Tryz.func123.trans (congrArg some (by kernel_rfl)), f320 := Tryz.func124.trans (congrArg some (by kernel_rfl)), f337 := Tryz.func126.trans (congrArg some (by kernel_rfl)), f338 := Tryz.func127.trans (congrArg some (by kernel_rfl)), t0 := Tryz.underlying0, a0 := Tryz.isAgg0, z0 := Tryz.sizeOf0, v0 := Tryz.zeroValue0, t2 := Tryz.underlying2, a2 := Tryz.isAgg2, z2 := Tryz.sizeOf2, v2 := Tryz.zeroValue2, t3 := Tryz.underlying3, a3 := Tryz.isAgg3, z3 := Tryz.sizeOf3, v3 := Tryz.zeroValue3, t4 := Tryz.underlying4, a4 := Tryz.isAgg4, z4 := Tryz.sizeOf4, v4 := Tryz.zeroValue4, t5 := Tryz.underlying5, a5 := Tryz.isAgg5, z5 := Tryz.sizeOf5, v5 := Tryz.zeroValue5, t9 := Tryz.underlying9, a9 := Tryz.isAgg9, z9 := Tryz.sizeOf9, v9 := Tryz.zeroValue9, t20 := Tryz.underlying20, a20 := Tryz.isAgg20, z20 := Tryz.sizeOf20, v20 := Tryz.zeroValue20, t37 := Tryz.underlying22, a37 := Tryz.isAgg22, z37 := Tryz.sizeOf22, v37 := Tryz.zeroValue22, t46 := Tryz.underlying126, a46 := Tryz.isAgg126, z46 := Tryz.sizeOf126, v46 := Tryz.zeroValue126, t51 := Tryz.underlying137, a51 := Tryz.isAgg137, z51 := Tryz.sizeOf137, v51 := Tryz.zeroValue137, t53 := Tryz.underlying140, a53 := Tryz.isAgg140, z53 := Tryz.sizeOf140, v53 := Tryz.zeroValue140, t171 := Tryz.underlying150, a171 := Tryz.isAgg150, z171 := Tryz.sizeOf150, v171 := Tryz.zeroValue150, t173 := Tryz.underlying153, a173 := Tryz.isAgg153, z173 := Tryz.sizeOf153, v173 := Tryz.zeroValue153, t212 := Tryz.underlying158, a212 := Tryz.isAgg158, z212 := Tryz.sizeOf158, v212 := Tryz.zeroValue158, t213 := Tryz.underlying159, a213 := Tryz.isAgg159, z213 := Tryz.sizeOf159, t232 := Tryz.underlying163, a232 := Tryz.isAgg163, z232 := Tryz.sizeOf163, v232 := Tryz.zeroValue163, t233 := Tryz.underlying164, a233 := Tryz.isAgg164, z233 := Tryz.sizeOf164, v233 := Tryz.zeroValue164, g17 := by kernel_rfl, g18 := by kernel_rfl, g19 := by kernel_rfl, i0 := by kernel_rfl, i2 := by kernel_rfl, i3 := by kernel_rfl, i4 := by kernel_rfl, i5 := by kernel_rfl, i9 := by kernel_rfl, i20 := by kernel_rfl, i37 := by kernel_rfl, i46 := by kernel_rfl, i51 := by kernel_rfl, i53 := by kernel_rfl, i171 := by kernel_rfl, i173 := by kernel_rfl, i212 := by kernel_rfl, i232 := by kernel_rfl, i233 := by kernel_rfl, m17 := by kernel_rfl, m18 := by kernel_rfl, m19 := by kernel_rfl }
theorem Js (N : Nat) (p0 : Int) (r : ByteArray) (h : FX N p0 = some r) : Aq Tryz.prog 81 [iD p0] [] (pD (.val (.string r))) := Vw Vt (g := So.g 17) (by kernel_rfl) h
theorem MR (N : Nat) (p0 : Ad) (r : ByteArray × Int) (h : Fn N p0 = some r) : Aq Tryz.prog 54 [.e (.agg (Cc p0))] [] (.tup [.one (.pure (.val (.string r.1))), .one (iC r.2)]) := by
 unfold Fn at h
 refine cw (n := 26) (rs := [.tmp 2, .tmp 3]) Tryz.func54 fun w0 S0 => ?_
 refine wq rfl (qb rfl (qa rfl (qa rfl (Aa (wp rfl (qL Gb Cg rfl ?_))))))
 refine BS h fun v1 a1 h => Ar [] (KL N p0 v1 a1) VX rfl (BX rfl (Aa ?_))
 refine Bc h (fun h => ?_) fun h => ?_
 ·refine wq rfl (qa rfl (qe rfl ?_))
  obtain rfl := sj h
  refine Ae (sm [] [(2, pD (.val (.string ((⟨#[]⟩ : ByteArray))))), (3, iD 1)] [] rfl rfl) (Ap ?_)
  exact ⟨⟨[_, _], ⟨.tmp _ _ rfl, tm⟩, rfl⟩, tv⟩
 ·refine Al (wq rfl (qf DS rfl (ql BL rfl ?_)))
  refine BS h fun v3 a3 h => Ar [] (PM N p0.ff v3 a3) XD rfl ?_
  refine Ey h fun c4 h => Gl (.p rfl) rfl rfl (KS _ _ _ _ c4) rfl ?_
  refine qf D6 rfl (ql BL rfl ?_)
  refine BS h fun v5 a5 h => Ar [] (Js N p0.fh v5 a5) VW rfl ?_
  refine Ey h fun c6 h => Gl (.p rfl) rfl rfl (KS _ _ _ _ c6) rfl ?_
  refine qa rfl (AI (by kernel_rfl) ?_)
  refine AK h (fun v7 => mk [(4, pD (.val (.string v7)))] []) (fun j7 h => ?_) (fun v7 h => ?_)
  ·refine wq rfl (qf DS rfl (ql BL rfl (Br rfl (Aa ?_))))
   refine Bc h (fun h => ?_) fun h => ?_
   ·refine Ag Az rfl (qm rfl (qf FC rfl (ql BL rfl ?_)))
    refine BS h fun v9 a9 h => Ar [] (Js N p0.fi v9 a9) VW rfl ?_
    refine Ey h fun c10 h => Gl (.p rfl) rfl rfl (KS _ _ _ _ c10) rfl ?_
    refine Ey h fun c11 h => Gl (.p rfl) rfl rfl (KS _ _ _ _ c11) rfl ?_
    refine qa rfl (Aa ?_)
    exact sn [] h
   ·refine Al ?_
    exact sn [] h
  ·refine wq rfl (qm rfl (qa rfl (qe rfl ?_)))
   obtain rfl := sj h
   refine Ae (sm [] [(2, pD (.val (.string v7))), (3, iD 0)] [] rfl rfl) (Ap ?_)
   exact ⟨⟨[_, _], ⟨.tmp _ _ rfl, tm⟩, rfl⟩, tv⟩
theorem GF (N : Nat) (p0 : List Ad) (p1 : Ad) (r : Int) (h : BM N p0 p1 = some r) : Aq Tryz.prog 82 [pD (.sl (p0.map Ai)), .e (.agg (Cc p1))] [] (iD r) := by
 unfold BM at h
 refine cw (n := 19) (rs := [.tmp 4]) Tryz.func82 fun w0 S0 => ?_
 refine wq rfl (qb rfl (qa rfl (Aa (wp rfl (qm rfl (AB Bo rfl (qm rfl (Aa ?_))))))))
 refine AH (L := AW N p0 p1) h (fun v1 => mk [(0, pD (.sl (p0.map Ai))), (3, oD (.ptr 3 0)), (7, iD ((p0.length : Int))), (8, iD v1)] [(3, .box (Cc p1))]) (fun v2 => mk [] []) (fun _ _ => rfl) (sm [] _ _ rfl rfl) (fun j1 n1 v1 h => ?_) (fun v2 s h hs => ?_)
 ·unfold AW at h
  refine wq rfl (AT rfl (Aa (AO ?_)))
  refine Bc h (fun h => ?_) fun h => ?_
  ·refine Al (AO (AM (wq rfl (qm rfl (qa rfl (Aa (wq rfl (qL Gb Cg rfl (qw 2 rfl ?_)))))))))
   refine BT h fun v4 a4 b4 h => qi Bo Cg a4 (Af b4) rfl (qK Gb Cg rfl ?_)
   refine UB [.int .i64 p1.ff, .int .i64 p1.fh, .int .i64 p1.fi] [.int .i64 v4.ff, .int .i64 v4.fh, .int .i64 v4.fi] (.p rfl) rfl rfl RJ rfl ?_
   refine AI (by kernel_rfl) ?_
   refine Bc h (fun h => ?_) fun h => ?_
   ·refine wq rfl (qm rfl (qe rfl ?_))
    obtain rfl := sj h
    refine Ae (sm [] [(4, iD v1)] [] rfl rfl) (Ap ?_)
    exact ⟨⟨[_], tm, rfl⟩, tv⟩
   ·refine Al (Ag Az rfl (Be rfl (qm rfl (Aa ?_))))
    exact sn [] h
  ·refine AS ?_
   exact sn [] h
 ·refine Ae hs (wq rfl (qe rfl ?_))
  obtain rfl := sj h
  refine Ae (sm [] [(4, iD ((-1)))] [] rfl rfl) (Ap ?_)
  exact ⟨⟨[_], tm, rfl⟩, tv⟩
theorem FR (N : Nat) (p0 : List Ad) (p1 : Ad) (r : Bool) (h : Bt N p0 p1 = some r) : Aq Tryz.prog 55 [pD (.sl (p0.map Ai)), .e (.agg (Cc p1))] [] (bD r) := by
 unfold Bt at h
 refine cw (n := 9) (rs := [.tmp 4]) Tryz.func55 fun w0 S0 => ?_
 refine wq rfl (qb rfl (qa rfl (Aa (wq rfl (qm rfl (qL Gb Cg rfl ?_))))))
 refine BS h fun v1 a1 h => Ar [] (GF N p0 p1 v1 a1) XJ rfl (Ep rfl (qe rfl ?_))
 obtain rfl := sj h
 refine Ae (sm [] [(4, bD ((decide (0 ≤ v1))))] [] rfl rfl) (Ap ?_)
 exact ⟨⟨[_], tm, rfl⟩, tv⟩
theorem Ox (N : Nat) (p0 : List Ad) (r : Int) (h : FO N p0 = some r) : Aq Tryz.prog 32 [pD (.sl (p0.map Ai))] [] (iD r) := by
 unfold FO at h
 refine cw (n := 42) (rs := [.tmp 2]) Tryz.func32 fun w0 S0 => ?_
 refine wq rfl (qa rfl (Aa (AO ?_)))
 refine AK h (fun v1 => mk [(0, pD (.sl (p0.map Ai))), (14, bD v1)] []) (fun j1 h => ?_) (fun v1 h => ?_)
 ·refine Ag Az rfl (qm rfl (AB Bo rfl (AT rfl (qm rfl ?_))))
  refine Dm 10 h rfl (fun h => ?_) fun h => ?_
  ·refine qw 3 rfl (qp rfl (Aa ?_))
   exact sn [] h
  ·refine qm rfl (AB Bo rfl (EP rfl (qp rfl (Aa ?_))))
   exact sn [] h
 ·refine Bc h (fun h => ?_) fun h => ?_
  ·refine wq rfl (qe rfl ?_)
   obtain rfl := sj h
   refine Ae (sm [] [(2, iD 6)] [] rfl rfl) (Ap ?_)
   exact ⟨⟨[_], tm, rfl⟩, tv⟩
  ·refine Al (wp rfl (qm rfl (AB Bo rfl (qm rfl (Aa ?_)))))
   refine AH (L := DC N p0) h (fun v4 => mk [(0, pD (.sl (p0.map Ai))), (15, pD (.sl (p0.map Ai))), (16, iD ((p0.length : Int))), (17, iD v4)] []) (fun v5 => mk [] []) (fun _ _ => rfl) (sm [] _ _ rfl rfl) (fun j4 n4 v4 h => ?_) (fun v5 s h hs => ?_)
   ·unfold DC at h
    refine wq rfl (AT rfl (Aa (AO ?_)))
    refine Bc h (fun h => ?_) fun h => ?_
    ·refine Al (AO (AM (wq rfl (qm rfl ?_))))
     refine BT h fun v7 a7 b7 h => qi Bo Cg a7 (Af b7) rfl (qK Gb Cg rfl (qz IV rfl (qa rfl (qs Cg rfl (Aa (wq rfl (qL Gb Cg rfl ?_)))))))
     refine BS h fun v8 a8 h => Ar [] (MR N v7 v8 a8) XH rfl (qm rfl (qx rfl (qx rfl (qa rfl (qe rfl ?_)))))
     refine AK h (fun v9 => mk [(0, pD (.sl (p0.map Ai))), (15, pD (.sl (p0.map Ai))), (16, iD ((p0.length : Int))), (17, iD v4), (40, bD v9)] []) (fun j9 h => ?_) (fun v9 h => ?_)
     ·refine Ag Az rfl (qm rfl (BB rfl (qm rfl ?_)))
      refine Dm 29 h rfl (fun h => ?_) fun h => ?_
      ·refine qw 3 rfl (qp rfl (qw 6 rfl (qp rfl (AI (by kernel_rfl) ?_))))
       exact sn [] h
      ·refine qf DS rfl (ql BL rfl (Br rfl (qp rfl (qm rfl ?_))))
       refine Dm 34 h rfl (fun h => ?_) fun h => ?_
       ·refine qw 5 rfl (qp rfl (AI (by kernel_rfl) ?_))
        exact sn [] h
       ·refine qw 2 rfl ?_
        refine Ey h fun c12 h => Id (.g rfl rfl) rfl Bo Cg (FV (f := Ai) (n := 3) (fun _ => rfl) _) (.none _) (.some _ _ _ _ c12.1) tv ⟨rfl, tv⟩ (by have := c12.2.1; (try simp only [List.length_map]); omega) (by have := c12.2.2; (try simp only [List.length_map]); omega) (He Ai p0 _ _ ((v4).toNat - 0) rfl) ?_
        refine qL Gb Cg rfl ?_
        refine BS h fun v13 a13 h => Ar [] (FR N (((p0.drop 0).take ((v4).toNat - 0))) v7 v13 a13) Xh rfl (qp rfl (AI (by kernel_rfl) ?_))
        exact sn [] h
     ·refine Bc h (fun h => ?_) fun h => ?_
      ·refine wq rfl (qe rfl ?_)
       obtain rfl := sj h
       refine Ae (sm [] [(2, iD 1)] [] rfl rfl) (Ap ?_)
       exact ⟨⟨[_], tm, rfl⟩, tv⟩
      ·refine Al (Ag Az rfl (Be rfl (qm rfl (Aa ?_))))
       exact sn [] h
    ·refine AS ?_
     exact sn [] h
   ·refine Ae hs (wq rfl (qe rfl ?_))
    obtain rfl := sj h
    refine Ae (sm [] [(2, iD 0)] [] rfl rfl) (Ap ?_)
    exact ⟨⟨[_], tm, rfl⟩, tv⟩
theorem F2 (N : Nat) (p0 : Ab) (p1 : Ac) (p2 : List Ad) (r : Ac × Bool) (h : CF N p0 p1 p2 = some r) : Aq Tryz.prog 33 [.e (.agg (Ah p0)), .e (.agg (Ay p1)), pD (.sl (p2.map Ai))] [] (.tup [.agg (Ay r.1), .one (.pure (.val (.bool r.2)))]) := by
 unfold CF at h
 refine cw (n := 46) (rs := [.cell 6 38, .tmp 7]) Tryz.func33 fun w0 S0 => ?_
 refine wq rfl (qb rfl (qb rfl (qz Cb rfl (qa rfl (Aa (wp rfl (qm rfl (AB Bo rfl (qm rfl (Aa ?_))))))))))
 refine AH (L := Di N p0 p2) h (fun v1 => mk [(3, oD (.ptr 3 0)), (4, oD (.ptr 4 0)), (6, oD (.ptr 6 0)), (14, pD (.sl (p2.map Ai))), (15, iD ((p2.length : Int))), (16, iD v1.2.2.2)] [(3, .box (Ah p0)), (4, .box [sC (v1.1.map An), sC (v1.2.1.map An), sC (v1.2.2.1.map B3)]), (6, .box [.pure (.nil0), .pure (.nil0), .pure (.nil0)])]) (fun v2 => mk [(4, oD (.ptr 4 0)), (6, oD (.ptr 6 0))] [(4, .box (Ay v2)), (6, .box [.pure (.nil0), .pure (.nil0), .pure (.nil0)])]) (fun _ _ => rfl) (sm [] _ _ rfl rfl) (fun j1 n1 v1 h => ?_) (fun v2 s h hs => ?_)
 ·unfold Di at h
  refine wq rfl (AT rfl (Aa (AO ?_)))
  refine Bc h (fun h => ?_) fun h => ?_
  ·refine Al (AO (AM (wq rfl ?_)))
   refine BT h fun v4 a4 b4 h => qi Bo Cg a4 (Af b4) rfl (qK Gb Cg rfl (qz IV rfl (qs Cg rfl (Aa (wq rfl (qL CL Cp rfl (qL A0 AF rfl (qL Gb Cg rfl ?_))))))))
   refine BS h fun v5 a5 h => Ar [2001, 2002, 2003] (Ks N p0 ((Ac.mk v1.1 v1.2.1 v1.2.2.1)) v4 v5 a5) VH rfl (qm rfl (qx rfl (qx rfl (qz Cb rfl (qs AF rfl (qa rfl (Aa (wp rfl (qm rfl (BB rfl (Aa ?_)))))))))))
   refine Bc h (fun h => ?_) fun h => ?_
   ·refine wq rfl (A8 Cb F5 rfl (qs AF rfl (qe rfl ?_)))
    obtain rfl := sj h
    refine Ae ((E6 6 _ rfl).trans (sm [] [(6, oD (.ptr 6 0)), (7, bD false)] [(6, .box [sC ((([] : List Int)).map An), sC ((([] : List Int)).map An), sC ((([] : List Int)).map B3)])] rfl rfl)) (Ap ?_)
    exact ⟨⟨[_, _], ⟨.cellN _ _ _ _ _ _ _ rfl rfl A0 AF rfl rfl (GV rfl), tm⟩, rfl⟩, tv⟩
   ·refine Al (wp rfl (qL CL Cp rfl (qL A0 AF rfl ?_)))
    refine BS h fun v7 a7 h => FY [] [2001, 2002, 2003] (IF N p0 v5.1 v7 a7) U9 Eh rfl (qm rfl (qx rfl (qx rfl (qa rfl (qe rfl ?_)))))
    refine AK h (fun v8 => mk [(3, oD (.ptr 3 0)), (4, oD (.ptr 4 0)), (6, oD (.ptr 6 0)), (10, oD (.ptr 10 0)), (14, pD (.sl (p2.map Ai))), (15, iD ((p2.length : Int))), (16, iD v1.2.2.2), (41, bD v8)] [(3, .box (Ah p0)), (4, .box [sC (v1.1.map An), sC (v1.2.1.map An), sC (v1.2.2.1.map B3)]), (6, .box [.pure (.nil0), .pure (.nil0), .pure (.nil0)]), (10, .box [.own 2004, .own 2005, .own 2006]), (2004, .vec 1 (v5.1.fd.map An)), (2005, .vec 1 (v5.1.fa.map An)), (2006, .vec 1 (v5.1.fc.map B3))]) (fun j8 h => ?_) (fun v8 h => ?_)
    ·refine Ag Az rfl (qm rfl (BB rfl (qm rfl ?_)))
     refine Dm 38 h rfl (fun h => ?_) fun h => ?_
     ·refine qw 2 rfl (qp rfl (Aa ?_))
      exact sn [(2004, 2001), (2005, 2002), (2006, 2003)] h
     ·refine qm rfl (BX rfl (qp rfl (Aa ?_)))
      exact sn [(2004, 2001), (2005, 2002), (2006, 2003)] h
    ·refine Bc h (fun h => ?_) fun h => ?_
     ·refine wq rfl (A8 Cb F5 rfl (qs AF rfl (qe rfl ?_)))
      obtain rfl := sj h
      refine Ae ((E6 6 _ rfl).trans (sm [] [(6, oD (.ptr 6 0)), (7, bD false)] [(6, .box [sC ((([] : List Int)).map An), sC ((([] : List Int)).map An), sC ((([] : List Int)).map B3)])] rfl rfl)) (Ap ?_)
      exact ⟨⟨[_, _], ⟨.cellN _ _ _ _ _ _ _ rfl rfl A0 AF rfl rfl (GV rfl), tm⟩, rfl⟩, tv⟩
     ·refine Al (Ag Az rfl (qL A0 AF rfl (qs AF rfl (Aa (Ag Az rfl (Be rfl (qm rfl (Aa ?_))))))))
      exact TM _ h ((A5 2004 _ _ rfl rfl).trans ((A5 2005 _ _ rfl rfl).trans ((A5 2006 _ _ rfl rfl).trans (sm [] _ _ rfl rfl))))
  ·refine AS ?_
   exact sn [] h
 ·refine Ae hs (wq rfl (qL A0 AF rfl (qs AF rfl (qe rfl ?_))))
  obtain rfl := sj h
  refine Ae (sm [] [(6, oD (.ptr 6 0)), (7, bD true)] [(6, .box (Ay v2))] rfl rfl) (Ap ?_)
  exact ⟨⟨[_, _], ⟨.cellN _ _ _ _ _ _ _ rfl rfl A0 AF rfl rfl (GV rfl), tm⟩, rfl⟩, tv⟩
theorem Cn (N : Nat) (p0 : List Ad) (r : (List Ad)) (h : AU N p0 = some r) : Aq Tryz.prog 34 [pD (.sl (p0.map Ai))] [(3, r.map Ai)] (oD (.own 0)) := by
 unfold AU at h
 refine cw (n := 8) (rs := [.tmp 2]) Tryz.func34 fun w0 S0 => ?_
 refine wq rfl (qa rfl (Aa (wp rfl (qm rfl ?_))))
 refine N0 (.p rfl) rfl Bo ?_
 refine Aa ?_
 refine OC rfl (fun c2 => ?_) ?_
 ·have c2 := List.map_eq_nil_iff.1 c2
  rw [c2] at h
  have h : (some (([] : List Ad))) = some r := h
  refine wq rfl (qe rfl ?_)
  obtain rfl := sj h
  refine Ae ((B2 2 2001 3 rfl rfl rfl).trans (sm [(1000, 2001)] [(2, oD (.own 1000))] [(1000, .vec 3 ((([] : List Ad)).map Ai))] rfl rfl)) (Ap ?_)
  exact ⟨⟨[_], tm, rfl⟩, ⟨rfl, tv⟩⟩
 ·refine Al (wq rfl (D1 Bo Cg IV rfl (qm rfl ?_)))
  refine Ey h fun c1 h => HM (f := Ai) Bo Bo Cg QR IV (fun _ => rfl) c1 rfl (qe rfl ?_)
  obtain rfl := sj h
  refine Ae (sm [(1000, 7)] [(2, oD (.own 1000))] [(1000, .vec 3 (((([] : List Ad)) ++ p0).map Ai))] rfl rfl) (Ap ?_)
  exact ⟨⟨[_], tm, rfl⟩, ⟨rfl, tv⟩⟩
theorem I3 (N : Nat) (p0 : Int) (r : Bool) (h : EF N p0 = some r) : Aq Tryz.prog 101 [iD p0] [] (bD r) := by
 unfold EF at h
 refine cw (n := 6) (rs := [.tmp 2]) Tryz.func101 fun w0 S0 => ?_
 refine wq rfl (qa rfl (Aa (wq rfl (qw 2 rfl (BB rfl (qe rfl ?_))))))
 obtain rfl := sj h
 refine Ae (sm [] [(2, bD ((p0 != p0)))] [] rfl rfl) (Ap ?_)
 exact ⟨⟨[_], tm, rfl⟩, tv⟩
theorem Kt (N : Nat) (p0 : Int) (p1 : Int) (r : Int) (h : Ed N p0 p1 = some r) : Aq Tryz.prog 84 [iD p0, iD p1] [] (iD r) := by
 unfold Ed at h
 refine cw (n := 20) (rs := [.tmp 4]) Tryz.func84 fun w0 S0 => ?_
 refine wq rfl (qa rfl (Aa (wq rfl (qm rfl ?_))))
 refine BS h fun v1 a1 h => Ar [] (I3 N p0 v1 a1) Uo rfl (qa rfl (Aa (wq rfl (qm rfl ?_))))
 refine BS h fun v2 a2 h => Ar [] (I3 N p1 v2 a2) Uo rfl (qa rfl (Aa (wp rfl (qm rfl (Aa ?_)))))
 refine Bc h (fun h => ?_) fun h => ?_
 ·refine wp rfl (qm rfl (Aa ?_))
  refine Bc h (fun h => ?_) fun h => ?_
  ·refine wq rfl (qe rfl ?_)
   obtain rfl := sj h
   refine Ae (sm [] [(4, iD 0)] [] rfl rfl) (Ap ?_)
   exact ⟨⟨[_], tm, rfl⟩, tv⟩
  ·refine Al (wq rfl (qe rfl ?_))
   obtain rfl := sj h
   refine Ae (sm [] [(4, iD ((-1)))] [] rfl rfl) (Ap ?_)
   exact ⟨⟨[_], tm, rfl⟩, tv⟩
 ·refine Al (wp rfl (qm rfl (Aa ?_)))
  refine Bc h (fun h => ?_) fun h => ?_
  ·refine wq rfl (qe rfl ?_)
   obtain rfl := sj h
   refine Ae (sm [] [(4, iD 1)] [] rfl rfl) (Ap ?_)
   exact ⟨⟨[_], tm, rfl⟩, tv⟩
  ·refine Al (wp rfl (qw 2 rfl (AT rfl (Aa ?_))))
   refine Bc h (fun h => ?_) fun h => ?_
   ·refine wq rfl (qe rfl ?_)
    obtain rfl := sj h
    refine Ae (sm [] [(4, iD ((-1)))] [] rfl rfl) (Ap ?_)
    exact ⟨⟨[_], tm, rfl⟩, tv⟩
   ·refine Al (wp rfl (qw 2 rfl (EP rfl (Aa ?_))))
    refine Bc h (fun h => ?_) fun h => ?_
    ·refine wq rfl (qe rfl ?_)
     obtain rfl := sj h
     refine Ae (sm [] [(4, iD 1)] [] rfl rfl) (Ap ?_)
     exact ⟨⟨[_], tm, rfl⟩, tv⟩
    ·refine Al (wq rfl (qe rfl ?_))
     obtain rfl := sj h
     refine Ae (sm [] [(4, iD 0)] [] rfl rfl) (Ap ?_)
     exact ⟨⟨[_], tm, rfl⟩, tv⟩
theorem zFS (N : Nat) (p0 : List Int) (p1 : List Int) (r : Int) (h : B7 N p0 p1 = some r) : Aq Tryz.prog 59 [pD (.sl (p0.map An)), pD (.sl (p1.map An))] [] (iD r) := by
 unfold B7 at h
 refine cw (n := 36) (rs := [.tmp 4]) Tryz.func59 fun w0 S0 => ?_
 refine wq rfl (qa rfl (Aa (wp rfl (qm rfl (AB Au rfl (qm rfl (Aa ?_)))))))
 refine AH (L := BN N p0 p1) h (fun v1 => mk [(0, pD (.sl (p0.map An))), (1, pD (.sl (p1.map An))), (9, pD (.sl (p0.map An))), (10, iD ((p0.length : Int))), (11, iD v1)] []) (fun v2 => mk [(0, pD (.sl (p0.map An))), (1, pD (.sl (p1.map An)))] []) (fun _ _ => rfl) (sm [] _ _ rfl rfl) (fun j1 n1 v1 h => ?_) (fun v2 s h hs => ?_)
 ·unfold BN at h
  refine wq rfl (AT rfl (Aa (AO ?_)))
  refine Bc h (fun h => ?_) fun h => ?_
  ·refine Al (AO (AM (wq rfl (qm rfl ?_))))
   refine BT h fun v4 a4 b4 h => qi Au Cy a4 (Af b4) rfl (qk BL rfl (qa rfl (qa rfl (Aa (wp rfl (qw 2 rfl (AB Au rfl (Ep rfl (Aa ?_)))))))))
   refine Bc h (fun h => ?_) fun h => ?_
   ·refine wq rfl (qe rfl ?_)
    obtain rfl := sj h
    refine Ae (sm [] [(4, iD 1)] [] rfl rfl) (Ap ?_)
    exact ⟨⟨[_], tm, rfl⟩, tv⟩
   ·refine Al (wq rfl (qw 2 rfl ?_))
    refine BT h fun v6 a6 b6 h => qi Au Cy a6 (Af b6) rfl (qk BL rfl (qa rfl (Aa (wq rfl (qw 2 rfl ?_)))))
    refine BS h fun v7 a7 h => Ar [] (Kt N v4 v6 v7 a7) Xu rfl (qa rfl (Aa (wq rfl (qm rfl (BB rfl (Aa ?_))))))
    refine Bc h (fun h => ?_) fun h => ?_
    ·refine wq rfl (qm rfl (qe rfl ?_))
     obtain rfl := sj h
     refine Ae (sm [] [(4, iD v7)] [] rfl rfl) (Ap ?_)
     exact ⟨⟨[_], tm, rfl⟩, tv⟩
    ·refine Al (Ag Az rfl (Be rfl (qm rfl (Aa ?_))))
     exact sn [] h
  ·refine AS ?_
   exact sn [] h
 ·refine Ae hs (wp rfl (qm rfl (AB Au rfl (qm rfl (AB Au rfl (AT rfl (Aa ?_)))))))
  refine Bc h (fun h => ?_) fun h => ?_
  ·refine wq rfl (qe rfl ?_)
   obtain rfl := sj h
   refine Ae (sm [] [(4, iD ((-1)))] [] rfl rfl) (Ap ?_)
   exact ⟨⟨[_], tm, rfl⟩, tv⟩
  ·refine Al (wq rfl (qe rfl ?_))
   obtain rfl := sj h
   refine Ae (sm [] [(4, iD 0)] [] rfl rfl) (Ap ?_)
   exact ⟨⟨[_], tm, rfl⟩, tv⟩
theorem Hs (N : Nat) (p0 : Int) (r : Bool) (h : DK N p0 = some r) : Aq Tryz.prog 102 [pD (.val (.int .u8 p0))] [] (bD r) := by
 unfold DK at h
 refine cw (n := 6) (rs := [.tmp 2]) Tryz.func102 fun w0 S0 => ?_
 refine wq rfl (qa rfl (Aa (wq rfl (qw 2 rfl (BB rfl (qe rfl ?_))))))
 obtain rfl := sj h
 refine Ae (sm [] [(2, bD ((p0 != p0)))] [] rfl rfl) (Ap ?_)
 exact ⟨⟨[_], tm, rfl⟩, tv⟩
theorem I5 (N : Nat) (p0 : Int) (p1 : Int) (r : Int) (h : Dc N p0 p1 = some r) : Aq Tryz.prog 85 [pD (.val (.int .u8 p0)), pD (.val (.int .u8 p1))] [] (iD r) := by
 unfold Dc at h
 refine cw (n := 20) (rs := [.tmp 4]) Tryz.func85 fun w0 S0 => ?_
 refine wq rfl (qa rfl (Aa (wq rfl (qm rfl ?_))))
 refine BS h fun v1 a1 h => Ar [] (Hs N p0 v1 a1) UD rfl (qa rfl (Aa (wq rfl (qm rfl ?_))))
 refine BS h fun v2 a2 h => Ar [] (Hs N p1 v2 a2) UD rfl (qa rfl (Aa (wp rfl (qm rfl (Aa ?_)))))
 refine Bc h (fun h => ?_) fun h => ?_
 ·refine wp rfl (qm rfl (Aa ?_))
  refine Bc h (fun h => ?_) fun h => ?_
  ·refine wq rfl (qe rfl ?_)
   obtain rfl := sj h
   refine Ae (sm [] [(4, iD 0)] [] rfl rfl) (Ap ?_)
   exact ⟨⟨[_], tm, rfl⟩, tv⟩
  ·refine Al (wq rfl (qe rfl ?_))
   obtain rfl := sj h
   refine Ae (sm [] [(4, iD ((-1)))] [] rfl rfl) (Ap ?_)
   exact ⟨⟨[_], tm, rfl⟩, tv⟩
 ·refine Al (wp rfl (qm rfl (Aa ?_)))
  refine Bc h (fun h => ?_) fun h => ?_
  ·refine wq rfl (qe rfl ?_)
   obtain rfl := sj h
   refine Ae (sm [] [(4, iD 1)] [] rfl rfl) (Ap ?_)
   exact ⟨⟨[_], tm, rfl⟩, tv⟩
  ·refine Al (wp rfl (qw 2 rfl (AT rfl (Aa ?_))))
   refine Bc h (fun h => ?_) fun h => ?_
   ·refine wq rfl (qe rfl ?_)
    obtain rfl := sj h
    refine Ae (sm [] [(4, iD ((-1)))] [] rfl rfl) (Ap ?_)
    exact ⟨⟨[_], tm, rfl⟩, tv⟩
   ·refine Al (wp rfl (qw 2 rfl (EP rfl (Aa ?_))))
    refine Bc h (fun h => ?_) fun h => ?_
    ·refine wq rfl (qe rfl ?_)
     obtain rfl := sj h
     refine Ae (sm [] [(4, iD 1)] [] rfl rfl) (Ap ?_)
     exact ⟨⟨[_], tm, rfl⟩, tv⟩
    ·refine Al (wq rfl (qe rfl ?_))
     obtain rfl := sj h
     refine Ae (sm [] [(4, iD 0)] [] rfl rfl) (Ap ?_)
     exact ⟨⟨[_], tm, rfl⟩, tv⟩
theorem Gs (N : Nat) (p0 : List Int) (p1 : List Int) (r : Int) (h : BK N p0 p1 = some r) : Aq Tryz.prog 60 [pD (.sl (p0.map B3)), pD (.sl (p1.map B3))] [] (iD r) := by
 unfold BK at h
 refine cw (n := 36) (rs := [.tmp 4]) Tryz.func60 fun w0 S0 => ?_
 refine wq rfl (qa rfl (Aa (wp rfl (qm rfl (AB Cw rfl (qm rfl (Aa ?_)))))))
 refine AH (L := Bd N p0 p1) h (fun v1 => mk [(0, pD (.sl (p0.map B3))), (1, pD (.sl (p1.map B3))), (9, pD (.sl (p0.map B3))), (10, iD ((p0.length : Int))), (11, iD v1)] []) (fun v2 => mk [(0, pD (.sl (p0.map B3))), (1, pD (.sl (p1.map B3)))] []) (fun _ _ => rfl) (sm [] _ _ rfl rfl) (fun j1 n1 v1 h => ?_) (fun v2 s h hs => ?_)
 ·unfold Bd at h
  refine wq rfl (AT rfl (Aa (AO ?_)))
  refine Bc h (fun h => ?_) fun h => ?_
  ·refine Al (AO (AM (wq rfl (qm rfl ?_))))
   refine BT h fun v4 a4 b4 h => qi Cw EQ a4 (Af b4) rfl (qk I9 rfl (qa rfl (qa rfl (Aa (wp rfl (qw 2 rfl (AB Cw rfl (Ep rfl (Aa ?_)))))))))
   refine Bc h (fun h => ?_) fun h => ?_
   ·refine wq rfl (qe rfl ?_)
    obtain rfl := sj h
    refine Ae (sm [] [(4, iD 1)] [] rfl rfl) (Ap ?_)
    exact ⟨⟨[_], tm, rfl⟩, tv⟩
   ·refine Al (wq rfl (qw 2 rfl ?_))
    refine BT h fun v6 a6 b6 h => qi Cw EQ a6 (Af b6) rfl (qk I9 rfl (qa rfl (Aa (wq rfl (qw 2 rfl ?_)))))
    refine BS h fun v7 a7 h => Ar [] (I5 N v4 v6 v7 a7) WM rfl (qa rfl (Aa (wq rfl (qm rfl (BB rfl (Aa ?_))))))
    refine Bc h (fun h => ?_) fun h => ?_
    ·refine wq rfl (qm rfl (qe rfl ?_))
     obtain rfl := sj h
     refine Ae (sm [] [(4, iD v7)] [] rfl rfl) (Ap ?_)
     exact ⟨⟨[_], tm, rfl⟩, tv⟩
    ·refine Al (Ag Az rfl (Be rfl (qm rfl (Aa ?_))))
     exact sn [] h
  ·refine AS ?_
   exact sn [] h
 ·refine Ae hs (wp rfl (qm rfl (AB Cw rfl (qm rfl (AB Cw rfl (AT rfl (Aa ?_)))))))
  refine Bc h (fun h => ?_) fun h => ?_
  ·refine wq rfl (qe rfl ?_)
   obtain rfl := sj h
   refine Ae (sm [] [(4, iD ((-1)))] [] rfl rfl) (Ap ?_)
   exact ⟨⟨[_], tm, rfl⟩, tv⟩
  ·refine Al (wq rfl (qe rfl ?_))
   obtain rfl := sj h
   refine Ae (sm [] [(4, iD 0)] [] rfl rfl) (Ap ?_)
   exact ⟨⟨[_], tm, rfl⟩, tv⟩
theorem Ov (N : Nat) (p0 : List Int) (r : Int) (h : FP N p0 = some r) : Aq Tryz.prog 58 [pD (.sl (p0.map An))] [] (iD r) := by
 unfold FP at h
 refine cw (n := 18) (rs := [.tmp 2]) Tryz.func58 fun w0 S0 => ?_
 refine wq rfl (qa rfl (Aa (wq rfl (qa rfl (Aa (wp rfl (qm rfl (AB Au rfl (qm rfl (Aa ?_))))))))))
 refine AH (L := Ea N p0) h (fun v1 => mk [(3, iD 0), (6, pD (.sl (p0.map An))), (7, iD ((p0.length : Int))), (8, iD v1)] []) (fun v2 => mk [(3, iD 0)] []) (fun _ _ => rfl) (sm [] _ _ rfl rfl) (fun j1 n1 v1 h => ?_) (fun v2 s h hs => ?_)
 ·unfold Ea at h
  refine wq rfl (AT rfl (Aa (AO ?_)))
  refine Bc h (fun h => ?_) fun h => ?_
  ·refine Al (AO (AM (wq rfl ?_)))
   refine BT h fun v4 a4 b4 h => qi Au Cy a4 (Af b4) rfl (qk BL rfl (qa rfl (Aa (wq rfl (qw 2 rfl (BB rfl (Aa ?_)))))))
   refine Bc h (fun h => ?_) fun h => ?_
   ·refine wq rfl (qm rfl (qe rfl ?_))
    obtain rfl := sj h
    refine Ae (sm [] [(2, iD v4)] [] rfl rfl) (Ap ?_)
    exact ⟨⟨[_], tm, rfl⟩, tv⟩
   ·refine Al (Ag Az rfl (Be rfl (qm rfl (Aa ?_))))
    exact sn [] h
  ·refine AS ?_
   exact sn [] h
 ·refine Ae hs (wq rfl (qm rfl (qe rfl ?_)))
  obtain rfl := sj h
  refine Ae (sm [] [(2, iD 0)] [] rfl rfl) (Ap ?_)
  exact ⟨⟨[_], tm, rfl⟩, tv⟩
theorem M9 (N : Nat) (p0 : Ac) (p1 : Ac) (r : Int) (h : EC N p0 p1 = some r) : Aq Tryz.prog 37 [.e (.agg (Ay p0)), .e (.agg (Ay p1))] [] (iD r) := by
 unfold EC at h
 refine cw (n := 22) (rs := [.tmp 4]) Tryz.func37 fun w0 S0 => ?_
 refine wq rfl (qb rfl (qb rfl (qa rfl (Aa (wq rfl (qf Ce rfl (ql AV rfl (qf Ce rfl (ql AV rfl ?_)))))))))
 refine BS h fun v1 a1 h => Ar [] (zFS N p0.fd p1.fd v1 a1) V6 rfl (qf Bf rfl (ql AV rfl (qf Bf rfl (ql AV rfl ?_))))
 refine BS h fun v2 a2 h => Ar [] (zFS N p0.fa p1.fa v2 a2) V6 rfl (qf BZ rfl (ql Ge rfl (qf BZ rfl (ql Ge rfl ?_))))
 refine BS h fun v3 a3 h => Ar [] (Gs N p0.fc p1.fc v3 a3) Xi rfl (D1 Au Cy I1 rfl ?_)
 refine BS h fun v4 a4 h => FY [] [20] (Ov N (([v1, v2, v3] : List Int)) v4 a4) XM Eh rfl (qa rfl (AI (by kernel_rfl) ?_))
 obtain rfl := sj h
 refine Ae (sm [] [(4, iD v4)] [] rfl rfl) (Ap ?_)
 exact ⟨⟨[_], tm, rfl⟩, tv⟩
theorem Ng (N : Nat) (p0 : List Ad) (p1 : List Int) (p2 : List Int) (p3 : List Int) (p4 : List Av) (p5 : List Int) (p6 : List Int) (p7 : List Int) (p8 : List Int) (p9 : List Int) (p10 : List Int) (p11 : Option (List Ad)) (r : Bool × (Option (List Ad))) (h : Fl N p0 p1 p2 p3 p4 p5 p6 p7 p8 p9 p10 p11 = some r) : Dj Tryz.prog 36 [pD (.sl (p0.map Ai)), oD (.rop [.sl (p1.map An), .sl (p2.map An), .sl (p3.map An), .sl (p4.map AQ)]), oD (.rop [.sl (p5.map An), .sl (p6.map An), .sl (p7.map B3)]), oD (.rop [.sl (p8.map An), .sl (p9.map An), .sl (p10.map B3)]), oD (.ptr 90000 0)] [(.box [.pure (Le Ai p11)], .box [.pure (Le Ai r.2)])] [] (bD r.1) := by
 unfold Fl at h
 refine Fw (n := 25) (rs := [.tmp 6]) Tryz.func36 rfl rfl rfl (IY rfl) (IY rfl) rfl rfl (IY rfl) rfl (IY rfl) fun w0 S0 GL => ?_
 refine Ae (sm [] [(0, pD (.sl (p0.map Ai))), (1, oD (.rop [.sl (p1.map An), .sl (p2.map An), .sl (p3.map An), .sl (p4.map AQ)])), (2, oD (.rop [.sl (p5.map An), .sl (p6.map An), .sl (p7.map B3)])), (3, oD (.rop [.sl (p8.map An), .sl (p9.map An), .sl (p10.map B3)])), (4, oD (.ptr 90000 0))] [(90000, .box [.pure (Le Ai p11)])] rfl rfl) (wq rfl (qa rfl (Aa (wp rfl (qK CL Cp rfl (qK A0 AF rfl (qm rfl ?_)))))))
 refine BS h fun v1 a1 h => Ar [] (F2 N ((Ab.mk p1 p2 p3 p4)) ((Ac.mk p5 p6 p7)) p0 v1 a1) SY rfl (qm rfl (qx rfl (qx rfl (qz Cb rfl (qs AF rfl (qe rfl ?_))))))
 refine AK h (fun v2 => mk [(0, pD (.sl (p0.map Ai))), (4, oD (.ptr 90000 0)), (23, bD v2)] [(90000, .box [.pure (Le Ai p11)])]) (fun j2 h => ?_) (fun v2 h => ?_)
 ·refine Ag Az rfl (qm rfl (BX rfl (qm rfl ?_)))
  refine Dm 18 h rfl (fun h => ?_) fun h => ?_
  ·refine qw 4 rfl (qp rfl (Aa ?_))
   exact sn [] h
  ·refine qL A0 AF rfl (qK A0 AF rfl ?_)
   refine BS h fun v4 a4 h => Ar [] (M9 N v1.1 ((Ac.mk p8 p9 p10)) v4 a4) WP rfl (BB rfl (qp rfl (Aa ?_)))
   exact sn [] h
 ·refine Bc h (fun h => ?_) fun h => ?_
  ·refine wq rfl (qm rfl (qs OW rfl (Aa (wq rfl (qe rfl ?_)))))
   obtain rfl := sj h
   refine Ae (sm [] [(6, bD false)] [(90000, .box [.pure (Le Ai ((some p0)))])] rfl rfl) (Ap ?_)
   exact ⟨⟨[_], tm, rfl⟩, ⟨rfl, tv⟩, tv⟩
  ·refine Al (wq rfl (qe rfl ?_))
   obtain rfl := sj h
   refine Ae (sm [] [(6, bD true)] [(90000, .box [.pure (Le Ai p11)])] rfl rfl) (Ap ?_)
   exact ⟨⟨[_], tm, rfl⟩, ⟨rfl, tv⟩, tv⟩
theorem Gp (N : Nat) (p0 : List Ad) (p1 : Int) (p2 : Int) (r : Nat × (List Ad)) (h : BH N p0 p1 p2 = some r) : Dj Tryz.prog 57 [oD (.own 90000), iD p1, iD p2] [(.vec 3 (p0.map Ai), .vec 3 (r.2.map Ai))] [] (oD (.view 90000 3 0 r.1)) := by
 unfold BH at h
 refine Fw (n := 33) (rs := [.tmp 6]) Tryz.func57 rfl rfl rfl (IY rfl) (IY rfl) rfl rfl (IY rfl) rfl (IY rfl) fun w0 S0 GL => ?_
 refine Ae (sm [] [(0, oD (.own 90000)), (1, iD p1), (2, iD p2)] [(90000, .vec 3 (p0.map Ai))] rfl rfl) (wq rfl (qa rfl (Aa (wq rfl (qw 4 rfl (FI Bo rfl ?_))))))
 refine Ey h fun c1 h => SS (.p rfl) rfl rfl Bo Cg rfl rfl rfl c1.1 c1.2.1 c1.2.2.1 c1.2.2.2.1 c1.2.2.2.2.1 (by rw [List.length_map]; exact c1.2.2.2.2.2) ?_
 refine Aa (wp rfl (qw 2 rfl (Br rfl (Aa ?_))))
 refine Bc h (fun h => ?_) fun h => ?_
 ·refine wq rfl (qm rfl (qe rfl ?_))
  obtain rfl := sj h
  refine Ae ((Tm Ai p0 6 90000 3 rfl rfl).trans (sm [] [(6, oD (.view 90000 3 0 p0.length))] [(90000, .vec 3 (p0.map Ai))] rfl rfl)) (Ap ?_)
  exact ⟨⟨[_], tm, rfl⟩, ⟨rfl, tv⟩, tv⟩
 ·refine Al (wq rfl (qm rfl (FI Bo rfl (qa rfl (Aa (wq rfl (qw 2 rfl ?_)))))))
  obtain ⟨c3, h⟩ := Gz h
  have w4 : 0 + ((p1).toNat) ≤ p0.length := by have := c3.2.1; have := c3.2.2; omega
  refine Jb Ai p0 (.p rfl) rfl (Ju Ai _ _ p0) rfl Bo Cg (.none _) (.some _ _ _ _ c3.1) tv ⟨rfl, tv⟩ c3.2.1 (by rw [Nat.zero_add]; exact c3.2.2) (Nat.zero_add _) rfl ?_
  refine qw 2 rfl ?_
  obtain ⟨c5, h⟩ := Gz h
  have w6 : ((p2).toNat) + ((p0.length - (p2).toNat)) ≤ p0.length := by have := c5.2.1; have := c5.2.2; omega
  refine Jb Ai p0 (.p rfl) rfl (Ju Ai _ _ p0) rfl Bo Cg (.some _ _ _ _ c5.1) (.none _) ⟨rfl, tv⟩ tv c5.2.1 (by rw [Nat.zero_add]; exact c5.2.2) (Nat.zero_add _) rfl ?_
  obtain ⟨c7, h⟩ := Gz h
  have w9f : 0 + ((p1).toNat) + (((p0.drop ((p2).toNat)).take ((p0.length - (p2).toNat)))).length ≤ p0.length := by have := c7; omega
  have w8 : (Hk p0 (0 + ((p1).toNat)) (((p0.drop ((p2).toNat)).take ((p0.length - (p2).toNat))))).length = p0.length := G7 w9f
  have w9 : 0 + ((p1).toNat + (((p0.drop ((p2).toNat)).take ((p0.length - (p2).toNat)))).length) ≤ (Hk p0 (0 + ((p1).toNat)) (((p0.drop ((p2).toNat)).take ((p0.length - (p2).toNat))))).length := by rw [w8]; have := c7; omega
  refine Qb Ai p0 (((p0.drop ((p2).toNat)).take ((p0.length - (p2).toNat)))) (.p rfl) rfl (JC Ai _ _ 0 ((p1).toNat) p0 w4) rfl rfl (NS Ai _ _ ((p2).toNat) ((p0.length - (p2).toNat)) p0 w6) ⟨rfl, tv⟩ Bo Bo Cg w9f rfl ?_
  refine qa rfl (AI (by kernel_rfl) (wq rfl (qw 2 rfl ?_)))
  refine Ts (.p rfl) rfl Bo ?_
  refine qm rfl ?_
  obtain ⟨c10, h⟩ := Gz h
  have w11 : (((((((p1).toNat + (((p0.drop ((p2).toNat)).take ((p0.length - (p2).toNat)))).length)) : Nat) : Int)).toNat) + ((((p0.length : Int)).toNat - ((((((p1).toNat + (((p0.drop ((p2).toNat)).take ((p0.length - (p2).toNat)))).length)) : Nat) : Int)).toNat)) ≤ (Hk p0 (0 + ((p1).toNat)) (((p0.drop ((p2).toNat)).take ((p0.length - (p2).toNat))))).length := by have := c10.2.2.1; have := c10.2.2.2; omega
  refine Jb Ai (Hk p0 (0 + ((p1).toNat)) (((p0.drop ((p2).toNat)).take ((p0.length - (p2).toNat))))) (.p rfl) rfl (JC Ai _ _ 0 (((p1).toNat + (((p0.drop ((p2).toNat)).take ((p0.length - (p2).toNat)))).length)) (Hk p0 (0 + ((p1).toNat)) (((p0.drop ((p2).toNat)).take ((p0.length - (p2).toNat))))) w9) rfl Bo Cg (.some _ _ _ _ c10.1) (.some _ _ _ _ c10.2.1) ⟨rfl, tv⟩ ⟨rfl, tv⟩ c10.2.2.1 (by rw [Nat.zero_add]; exact c10.2.2.2) (Nat.zero_add _) rfl ?_
  have w12 : (Hk (Hk p0 (0 + ((p1).toNat)) (((p0.drop ((p2).toNat)).take ((p0.length - (p2).toNat))))) (((((((p1).toNat + (((p0.drop ((p2).toNat)).take ((p0.length - (p2).toNat)))).length)) : Nat) : Int)).toNat) (List.replicate ((((p0.length : Int)).toNat - ((((((p1).toNat + (((p0.drop ((p2).toNat)).take ((p0.length - (p2).toNat)))).length)) : Nat) : Int)).toNat)) ((Ad.mk 0 0 0)))).length = (Hk p0 (0 + ((p1).toNat)) (((p0.drop ((p2).toNat)).take ((p0.length - (p2).toNat))))).length := G7 (by rw [List.length_replicate]; exact w11)
  refine RM Ai (Hk p0 (0 + ((p1).toNat)) (((p0.drop ((p2).toNat)).take ((p0.length - (p2).toNat))))) ((Ad.mk 0 0 0)) rfl rfl (JC Ai _ _ (((((((p1).toNat + (((p0.drop ((p2).toNat)).take ((p0.length - (p2).toNat)))).length)) : Nat) : Int)).toNat) ((((p0.length : Int)).toNat - ((((((p1).toNat + (((p0.drop ((p2).toNat)).take ((p0.length - (p2).toNat)))).length)) : Nat) : Int)).toNat)) (Hk p0 (0 + ((p1).toNat)) (((p0.drop ((p2).toNat)).take ((p0.length - (p2).toNat))))) w11) rfl Bo IV rfl rfl rfl rfl ?_
  refine Aa (wq rfl (qm rfl (qe rfl ?_)))
  obtain rfl := sj h
  refine Ae (sm [] [(6, oD (.view 90000 3 0 (((p1).toNat + (((p0.drop ((p2).toNat)).take ((p0.length - (p2).toNat)))).length))))] [(90000, .vec 3 ((Hk (Hk p0 (0 + ((p1).toNat)) (((p0.drop ((p2).toNat)).take ((p0.length - (p2).toNat))))) (((((((p1).toNat + (((p0.drop ((p2).toNat)).take ((p0.length - (p2).toNat)))).length)) : Nat) : Int)).toNat) (List.replicate ((((p0.length : Int)).toNat - ((((((p1).toNat + (((p0.drop ((p2).toNat)).take ((p0.length - (p2).toNat)))).length)) : Nat) : Int)).toNat)) ((Ad.mk 0 0 0)))).map Ai))] rfl rfl) (Ap ?_)
  exact ⟨⟨[_], tm, rfl⟩, ⟨rfl, tv⟩, tv⟩
theorem J5 (N : Nat) (rc : (List Ad) → (List Ad) → (List Int) → (List Int) → (List Int) → (List Av) → (List Int) → (List Int) → (List Int) → (List Int) → (List Int) → (List Int) → (Option (List Ad)) → Option (Bool × (Option (List Ad)))) (hrc : ∀ (p0 : List Ad) (p1 : List Ad) (p2 : List Int) (p3 : List Int) (p4 : List Int) (p5 : List Av) (p6 : List Int) (p7 : List Int) (p8 : List Int) (p9 : List Int) (p10 : List Int) (p11 : List Int) (p12 : Option (List Ad)) (r : Bool × (Option (List Ad))), rc p0 p1 p2 p3 p4 p5 p6 p7 p8 p9 p10 p11 p12 = some r → Dj Tryz.prog 35 [pD (.sl (p0.map Ai)), pD (.sl (p1.map Ai)), oD (.cls 36 [.rop [.sl (p2.map An), .sl (p3.map An), .sl (p4.map An), .sl (p5.map AQ)], .rop [.sl (p6.map An), .sl (p7.map An), .sl (p8.map B3)], .rop [.sl (p9.map An), .sl (p10.map An), .sl (p11.map B3)], .ptr 90000 0])] [(.box [.pure (Le Ai p12)], .box [.pure (Le Ai r.2)])] [] (bD r.1)) (p0 : List Ad) (p1 : List Ad) (p2 : List Int) (p3 : List Int) (p4 : List Int) (p5 : List Av) (p6 : List Int) (p7 : List Int) (p8 : List Int) (p9 : List Int) (p10 : List Int) (p11 : List Int) (p12 : Option (List Ad)) (r : Bool × (Option (List Ad))) (h : EA N rc p0 p1 p2 p3 p4 p5 p6 p7 p8 p9 p10 p11 p12 = some r) : Dj Tryz.prog 35 [pD (.sl (p0.map Ai)), pD (.sl (p1.map Ai)), oD (.cls 36 [.rop [.sl (p2.map An), .sl (p3.map An), .sl (p4.map An), .sl (p5.map AQ)], .rop [.sl (p6.map An), .sl (p7.map An), .sl (p8.map B3)], .rop [.sl (p9.map An), .sl (p10.map An), .sl (p11.map B3)], .ptr 90000 0])] [(.box [.pure (Le Ai p12)], .box [.pure (Le Ai r.2)])] [] (bD r.1) := by
 unfold EA at h
 refine Fw (n := 37) (rs := [.tmp 6]) Tryz.func35 rfl rfl rfl (IY rfl) (IY rfl) rfl rfl (IY rfl) rfl (IY rfl) fun w0 S0 GL => ?_
 refine Ae (sm [] [(0, pD (.sl (p0.map Ai))), (1, pD (.sl (p1.map Ai))), (2, oD (.cls 36 [.rop [.sl (p2.map An), .sl (p3.map An), .sl (p4.map An), .sl (p5.map AQ)], .rop [.sl (p6.map An), .sl (p7.map An), .sl (p8.map B3)], .rop [.sl (p9.map An), .sl (p10.map An), .sl (p11.map B3)], .ptr 90000 0]))] [(90000, .box [.pure (Le Ai p12)])] rfl rfl) (wq rfl (qa rfl (Aa (wp rfl (qm rfl (AB Bo rfl (Br rfl (Aa ?_))))))))
 refine Bc h (fun h => ?_) fun h => ?_
 ·refine wq rfl (qw 2 rfl ?_)
  refine BS h fun v2 a2 h => T4 (ds0 := [_]) [90000] [] [true] (Ng N p0 p2 p3 p4 p5 p6 p7 p8 p9 p10 p11 p12 v2 a2) (.p rfl) rfl XI rfl ⟨rfl, tv⟩ rfl rfl (by decide) ⟨rfl, tv⟩ rfl (Ha rfl) tv ⟨(fun h => by cases h), tv⟩ rfl rfl rfl ?_
  refine qa rfl (Aa ?_)
  obtain rfl := sj h
  refine Ae (sm [] [(6, bD v2.1)] [(90000, .box [.pure (Le Ai v2.2)])] rfl rfl) (Ap ?_)
  exact ⟨⟨[_], tm, rfl⟩, ⟨rfl, tv⟩, tv⟩
 ·refine Al (wp rfl (qm rfl (AB Bo rfl (qm rfl (Aa ?_)))))
  refine AH (L := C3 N p0 p1 p2 p3 p4 p5 p6 p7 p8 p9 p10 p11 rc) h (fun v3 => mk [(0, pD (.sl (p0.map Ai))), (1, pD (.sl (p1.map Ai))), (2, oD (.cls 36 [.rop [.sl (p2.map An), .sl (p3.map An), .sl (p4.map An), .sl (p5.map AQ)], .rop [.sl (p6.map An), .sl (p7.map An), .sl (p8.map B3)], .rop [.sl (p9.map An), .sl (p10.map An), .sl (p11.map B3)], .ptr 90000 0])), (15, pD (.sl (p1.map Ai))), (16, iD ((p1.length : Int))), (17, iD v3.2)] [(90000, .box [.pure (Le Ai v3.1)])]) (fun v4 => mk [] [(90000, .box [.pure (Le Ai v4)])]) (fun _ _ => rfl) (sm [] _ _ rfl rfl) (fun j3 n3 v3 h => ?_) (fun v4 s h hs => ?_)
  ·unfold C3 at h
   refine wq rfl (AT rfl (Aa (AO ?_)))
   refine Bc h (fun h => ?_) fun h => ?_
   ·refine Al (AO (AM (wq rfl (qm rfl ?_))))
    refine BT h fun v6 a6 b6 h => qi Bo Cg a6 (Af b6) rfl (qK Gb Cg rfl (qz IV rfl (qa rfl (qs Cg rfl (Aa (wq rfl (qm rfl ?_)))))))
    refine BS h fun v7 a7 h => Ar [2001] (Cn N p0 v7 a7) TV rfl (qL Gb Cg rfl (D1 Bo Cg IV rfl ?_))
    refine Ey h fun c8 h => Rp (.p rfl) rfl (.own _ _ _) ⟨rfl, tv⟩ rfl (.own _ _ _) ⟨rfl, tv⟩ rfl Bo Bo Cg QR (IY rfl) IV rfl (S3 (f := Ai) (g := Ai) (xs := v7) (ys := (([v6] : List Ad))) c8) (TC Ai v7 (([v6] : List Ad))) rfl ?_
    refine qm rfl ?_
    refine BS h fun v9 a9 h => Ar [2002] (Cn N p1 v9 a9) TV rfl (qw 2 rfl (Be rfl ?_))
    obtain ⟨v10, a10, h⟩ := bind_some h
    obtain ⟨c11, h⟩ := Gz h
    have w12 : 0 + v10.1 ≤ v10.2.length := by rw [Nat.zero_add]; exact c11
    refine ST (ds0 := [_, _, _]) (b := 2002) (Gp N v9 v3.2 ((wI .i64 (v3.2 + 1))) v10 a10) (.p rfl) W6 rfl ⟨rfl, rfl, rfl, tv⟩ rfl ⟨rfl, tv⟩ rfl rfl (by rw [List.length_map]; exact c11) (List.map_take).symm ?_
    refine qm rfl ?_
    refine BS h fun v13 a13 h => LV (ds0 := [_, _, _]) [90000] [] [true] (hrc ((v7 ++ (([v6] : List Ad)))) ((v10.2.take v10.1)) p2 p3 p4 p5 p6 p7 p8 p9 p10 p11 v3.1 v13 a13) (.p rfl) Wo rfl ⟨rfl, rfl, rfl, tv⟩ rfl rfl (by decide) ⟨rfl, tv⟩ rfl (Ha rfl) tv ⟨(fun h => by cases h), tv⟩ rfl rfl rfl ?_
    refine BX rfl (AI (by kernel_rfl) ?_)
    refine Bc h (fun h => ?_) fun h => ?_
    ·refine wq rfl (qe rfl ?_)
     obtain rfl := sj h
     refine Ae (sm [] [(6, bD false)] [(90000, .box [.pure (Le Ai v13.2)])] rfl rfl) (Ap ?_)
     exact ⟨⟨[_], tm, rfl⟩, ⟨rfl, tv⟩, tv⟩
    ·refine Al (Ag Az rfl (Be rfl (qm rfl (Aa ?_))))
     exact sn [] h
   ·refine AS ?_
    exact sn [] h
  ·refine Ae hs (wq rfl (qe rfl ?_))
   obtain rfl := sj h
   refine Ae (sm [] [(6, bD true)] [(90000, .box [.pure (Le Ai v4)])] rfl rfl) (Ap ?_)
   exact ⟨⟨[_], tm, rfl⟩, ⟨rfl, tv⟩, tv⟩
theorem HY (N : Nat) : ∀ (k : Nat) (p0 : List Ad) (p1 : List Ad) (p2 : List Int) (p3 : List Int) (p4 : List Int) (p5 : List Av) (p6 : List Int) (p7 : List Int) (p8 : List Int) (p9 : List Int) (p10 : List Int) (p11 : List Int) (p12 : Option (List Ad)) (r : Bool × (Option (List Ad))), CI N k p0 p1 p2 p3 p4 p5 p6 p7 p8 p9 p10 p11 p12 = some r → Dj Tryz.prog 35 [pD (.sl (p0.map Ai)), pD (.sl (p1.map Ai)), oD (.cls 36 [.rop [.sl (p2.map An), .sl (p3.map An), .sl (p4.map An), .sl (p5.map AQ)], .rop [.sl (p6.map An), .sl (p7.map An), .sl (p8.map B3)], .rop [.sl (p9.map An), .sl (p10.map An), .sl (p11.map B3)], .ptr 90000 0])] [(.box [.pure (Le Ai p12)], .box [.pure (Le Ai r.2)])] [] (bD r.1)
 | 0, _, _, _, _, _, _, _, _, _, _, _, _, _, _, h => by cases h
 | k + 1, p0, p1, p2, p3, p4, p5, p6, p7, p8, p9, p10, p11, p12, r, h => J5 N (CI N k) (HY N k) p0 p1 p2 p3 p4 p5 p6 p7 p8 p9 p10 p11 p12 r h
theorem K9 (N : Nat) (p0 : List Ad) (p1 : List Ad) (p2 : List Int) (p3 : List Int) (p4 : List Int) (p5 : List Av) (p6 : List Int) (p7 : List Int) (p8 : List Int) (p9 : List Int) (p10 : List Int) (p11 : List Int) (p12 : Option (List Ad)) (r : Bool × (Option (List Ad))) (h : Gw N p0 p1 p2 p3 p4 p5 p6 p7 p8 p9 p10 p11 p12 = some r) : Dj Tryz.prog 35 [pD (.sl (p0.map Ai)), pD (.sl (p1.map Ai)), oD (.cls 36 [.rop [.sl (p2.map An), .sl (p3.map An), .sl (p4.map An), .sl (p5.map AQ)], .rop [.sl (p6.map An), .sl (p7.map An), .sl (p8.map B3)], .rop [.sl (p9.map An), .sl (p10.map An), .sl (p11.map B3)], .ptr 90000 0])] [(.box [.pure (Le Ai p12)], .box [.pure (Le Ai r.2)])] [] (bD r.1) := HY N N p0 p1 p2 p3 p4 p5 p6 p7 p8 p9 p10 p11 p12 r h
theorem LI (N : Nat) (p0 : Ab) (p1 : Ac) (p2 : List Ad) (r : (List Ad) × Int) (h : FB N p0 p1 p2 = some r) : Aq Tryz.prog 12 [.e (.agg (Ah p0)), .e (.agg (Ay p1)), pD (.sl (p2.map Ai))] [] (.tup [.one (sC (r.1.map Ai)), .one (iC r.2)]) := by
 unfold FB at h
 refine cw (n := 49) (rs := [.tmp 6, .tmp 7]) Tryz.func12 fun w0 S0 => ?_
 refine wq rfl (qb rfl (qb rfl (qa rfl (qa rfl (Aa (wq rfl (qL CL Cp rfl (qL A0 AF rfl ?_))))))))
 refine BS h fun v1 a1 h => Ar [] (IF N p0 p1 v1 a1) U9 rfl (qm rfl (qx rfl (qx rfl (qa rfl (qa rfl (Aa (wp rfl (qm rfl (BB rfl (Aa ?_))))))))))
 refine Bc h (fun h => ?_) fun h => ?_
 ·refine wq rfl (qm rfl (qa rfl (qe rfl ?_)))
  obtain rfl := sj h
  refine Ae ((Iy 6 _ rfl).trans (sm [] [(6, pD (.sl ((([] : List Ad)).map Ai))), (7, iD v1.2)] [] rfl rfl)) (Ap ?_)
  exact ⟨⟨[_, _], ⟨.tmp _ _ rfl, tm⟩, rfl⟩, tv⟩
 ·refine Al (wp rfl (qm rfl ?_))
  refine BS h fun v3 a3 h => Ar [] (Ox N p2 v3 a3) Xe rfl (qa rfl (Aa (wq rfl (qm rfl (BB rfl (Aa ?_))))))
  refine Bc h (fun h => ?_) fun h => ?_
  ·refine wq rfl (qm rfl (qa rfl (qe rfl ?_)))
   obtain rfl := sj h
   refine Ae ((Iy 6 _ rfl).trans (sm [] [(6, pD (.sl ((([] : List Ad)).map Ai))), (7, iD v3)] [] rfl rfl)) (Ap ?_)
   exact ⟨⟨[_, _], ⟨.tmp _ _ rfl, tm⟩, rfl⟩, tv⟩
  ·refine Al (wq rfl (qL CL Cp rfl (qL A0 AF rfl (qm rfl ?_))))
   refine BS h fun v5 a5 h => Ar [] (F2 N p0 p1 p2 v5 a5) SY rfl (qm rfl (qx rfl (qx rfl (qz Cb rfl (qs AF rfl (qa rfl (Aa (AO ?_))))))))
   refine AK h (fun v6 => mk [(2, pD (.sl (p2.map Ai))), (3, oD (.ptr 3 0)), (4, oD (.ptr 4 0)), (11, oD (.ptr 11 0)), (40, bD v6)] [(3, .box (Ah p0)), (4, .box (Ay p1)), (11, .box (Ay v5.1))]) (fun j6 h => ?_) (fun v6 h => ?_)
   ·refine Ag Az rfl (qm rfl (BX rfl (qm rfl ?_)))
    refine Dm 37 h rfl (fun h => ?_) fun h => ?_
    ·refine qw 2 rfl (qp rfl (Aa ?_))
     exact sn [] h
    ·refine qm rfl (BX rfl (qp rfl (Aa ?_)))
     exact sn [] h
   ·refine Bc h (fun h => ?_) fun h => ?_
    ·refine wq rfl (qm rfl ?_)
     refine BS h fun v9 a9 h => Ar [2001] (Cn N p2 v9 a9) TV rfl (qa rfl (qe rfl ?_))
     obtain rfl := sj h
     refine Ae ((A5 2001 _ _ rfl rfl).trans (sm [] [(6, pD (.sl (v9.map Ai))), (7, iD 0)] [] rfl rfl)) (Ap ?_)
     exact ⟨⟨[_, _], ⟨.tmp _ _ rfl, tm⟩, rfl⟩, tv⟩
    ·refine Al (wq rfl ?_)
     refine R2 (.p rfl) TW rfl ?_
     refine Aa (wq rfl (qm rfl (D2 (Kv 3 [.sl (p0.fb.map An), .sl (p0.fm.map An), .sl (p0.fo.map An), .sl (p0.fe.map AQ)] rfl rfl) (D2 (Kv 4 [.sl (p1.fd.map An), .sl (p1.fa.map An), .sl (p1.fc.map B3)] rfl rfl) (D2 (Kv 11 [.sl (v5.1.fd.map An), .sl (v5.1.fa.map An), .sl (v5.1.fc.map B3)] rfl rfl) ?_)))))
     refine O7 [.rop [.sl (p0.fb.map An), .sl (p0.fm.map An), .sl (p0.fo.map An), .sl (p0.fe.map AQ)], .rop [.sl (p1.fd.map An), .sl (p1.fa.map An), .sl (p1.fc.map B3)], .rop [.sl (v5.1.fd.map An), .sl (v5.1.fa.map An), .sl (v5.1.fc.map B3)], .ptr 13 0] (.p rfl) rfl ⟨rfl, rfl, rfl, rfl, tv⟩ ?_
     refine BS h fun v10 a10 h => LV (ds0 := [_, _, _]) [13] [] [true] (K9 N (([] : List Ad)) p2 p0.fb p0.fm p0.fo p0.fe p1.fd p1.fa p1.fc v5.1.fd v5.1.fa v5.1.fc ((none : Option (List Ad))) v10 a10) (.p rfl) Wo rfl ⟨rfl, rfl, rfl, tv⟩ rfl rfl (by decide) ⟨rfl, tv⟩ rfl (Ha rfl) tv ⟨(fun h => by cases h), tv⟩ rfl rfl rfl ?_
     refine Aa (wp rfl (ql Rk rfl ?_))
     refine Ey h fun c11 h => Sy (.p rfl) rfl Bo c11 ?_
     refine Aa ?_
     refine Bc h (fun h => ?_) fun h => ?_
     ·refine wq rfl (qa rfl (qe rfl ?_))
      obtain rfl := sj h
      refine Ae ((Iy 6 _ rfl).trans (sm [] [(6, pD (.sl ((([] : List Ad)).map Ai))), (7, iD 15)] [] rfl rfl)) (Ap ?_)
      exact ⟨⟨[_, _], ⟨.tmp _ _ rfl, tm⟩, rfl⟩, tv⟩
     ·refine Al (wq rfl (ql Rk rfl (qa rfl (qe rfl ?_))))
      obtain rfl := sj h
      refine Ae ((TN 6 v10.2 rfl).trans (sm [] [(6, pD (.sl (((v10.2.getD [])).map Ai))), (7, iD 0)] [] rfl rfl)) (Ap ?_)
      exact ⟨⟨[_, _], ⟨.tmp _ _ rfl, tm⟩, rfl⟩, tv⟩
theorem HC (N : Nat) (p0 : Ab) (p1 : Ac) (p2 : List Ad) (r : Bool × Int) (h : D9 N p0 p1 p2 = some r) : Aq Tryz.prog 10 [.e (.agg (Ah p0)), .e (.agg (Ay p1)), pD (.sl (p2.map Ai))] [] (.tup [.one (.pure (.val (.bool r.1))), .one (iC r.2)]) := by
 unfold D9 at h
 refine cw (n := 26) (rs := [.tmp 6, .tmp 7]) Tryz.func10 fun w0 S0 => ?_
 refine wq rfl (qb rfl (qb rfl (qa rfl (qa rfl (Aa (wp rfl (qL CL Cp rfl (qL A0 AF rfl ?_))))))))
 refine BS h fun v1 a1 h => Ar [] (Ic N p0 p1 v1 a1) TA rfl (qa rfl (Aa (wq rfl (qm rfl (BB rfl (Aa ?_))))))
 refine Bc h (fun h => ?_) fun h => ?_
 ·refine wq rfl (qm rfl (qa rfl (qe rfl ?_)))
  obtain rfl := sj h
  refine Ae (sm [] [(6, bD false), (7, iD v1)] [] rfl rfl) (Ap ?_)
  exact ⟨⟨[_, _], ⟨.tmp _ _ rfl, tm⟩, rfl⟩, tv⟩
 ·refine Al (wq rfl (qL CL Cp rfl (qL A0 AF rfl (qm rfl ?_))))
  refine BS h fun v3 a3 h => Ar [] (LI N p0 p1 p2 v3 a3) Wh rfl (qm rfl (qx rfl (qx rfl (qa rfl (qa rfl (Aa (wq rfl (qm rfl (Br rfl (qa rfl (qe rfl ?_)))))))))))
  obtain rfl := sj h
  refine Ae (sm [] [(6, bD ((v3.2 == 15))), (7, iD 0)] [] rfl rfl) (Ap ?_)
  exact ⟨⟨[_, _], ⟨.tmp _ _ rfl, tm⟩, rfl⟩, tv⟩
theorem P1 (N : Nat) (p0 : Ab) (p1 : List Ad) (r : (List (List Ad)) × Int) (h : JB N p0 p1 = some r) : Aq Tryz.prog 15 [.e (.agg (Ah p0)), pD (.sl (p1.map Ai))] [(1, r.1.map (Fj Ai))] (.tup [.one (.own 0), .one (iC r.2)]) := by
 unfold JB at h
 refine cw (n := 64) (rs := [.tmp 4, .tmp 5]) Tryz.func15 fun w0 S0 => ?_
 refine wq rfl (qb rfl (qa rfl (qa rfl (Aa (wq rfl (qL CL Cp rfl ?_))))))
 refine BS h fun v1 a1 h => Ar [2001, 2002, 2003] (Jm N p0 v1 a1) U8 rfl (qm rfl (qx rfl (qx rfl (qz Cb rfl (qs AF rfl (qa rfl (Aa (wp rfl (qm rfl (BB rfl (Aa ?_)))))))))))
 refine Bc h (fun h => ?_) fun h => ?_
 ·refine wq rfl (qm rfl (qa rfl (qe rfl ?_)))
  obtain rfl := sj h
  refine Ae ((B2 4 2004 1 rfl rfl rfl).trans (sm [(1000, 2004)] [(4, oD (.own 1000)), (5, iD v1.2)] [(1000, .vec 1 ((([] : List (List Ad))).map (Fj Ai)))] rfl rfl)) (Ap ?_)
  exact ⟨⟨[_, _], ⟨.tmp _ _ rfl, tm⟩, rfl⟩, ⟨rfl, tv⟩⟩
 ·refine Al (wp rfl (qL CL Cp rfl (qm rfl ?_)))
  refine BS h fun v3 a3 h => Ar [] (NW N p0 p1 v3 a3) WR rfl (BX rfl (Aa ?_))
  refine Bc h (fun h => ?_) fun h => ?_
  ·refine wq rfl (qa rfl (qe rfl ?_))
   obtain rfl := sj h
   refine Ae ((B2 4 2005 1 rfl rfl rfl).trans (sm [(1000, 2005)] [(4, oD (.own 1000)), (5, iD 13)] [(1000, .vec 1 ((([] : List (List Ad))).map (Fj Ai)))] rfl rfl)) (Ap ?_)
   exact ⟨⟨[_, _], ⟨.tmp _ _ rfl, tm⟩, rfl⟩, ⟨rfl, tv⟩⟩
  ·refine Al (wq rfl (qa rfl (Aa (AO ?_))))
   refine AH (L := Gx N p0) h (fun v5 => mk [(1, pD (.sl (v5.2.2.2.1.map Ai))), (2, oD (.ptr 2 0)), (6, oD (.ptr 6 0)), (8, oD (.own 2006))] [(2, .box (Ah p0)), (6, .box [sC (v5.1.map An), sC (v5.2.1.map An), sC (v5.2.2.1.map B3)]), (2006, .vec 1 (v5.2.2.2.2.map (Fj Ai)))]) (fun v6 => mk [(8, oD (.own 2007))] [(2007, .vec 1 (v6.map (Fj Ai)))]) (fun _ _ => rfl) ((B2 8 2011 1 rfl rfl rfl).trans ((A5 2001 _ _ rfl rfl).trans ((A5 2002 _ _ rfl rfl).trans ((A5 2003 _ _ rfl rfl).trans (sm [(2006, 2011)] _ _ rfl rfl))))) (fun j5 n5 v5 h => ?_) (fun v6 s h hs => ?_)
   ·unfold Gx at h
    refine wp rfl (qm rfl (AB Bo rfl (EP rfl (Aa ?_))))
    refine Bc h (fun h => ?_) fun h => ?_
    ·refine Al (AM (wq rfl (qm rfl (AB Bo rfl ?_))))
     refine QD (.p rfl) rfl rfl ?_
     refine qa rfl (Aa (AO ?_))
     refine AH (L := GK N p0 v5) h (fun v8 => mk [(1, pD (.sl (v5.2.2.2.1.map Ai))), (2, oD (.ptr 2 0)), (6, oD (.ptr 6 0)), (8, oD (.own 2008)), (9, iD v8)] [(2, .box (Ah p0)), (6, .box [sC (v5.1.map An), sC (v5.2.1.map An), sC (v5.2.2.1.map B3)]), (2008, .vec 1 (v5.2.2.2.2.map (Fj Ai)))]) (fun v9 => mk [(1, pD (.sl (v5.2.2.2.1.map Ai))), (2, oD (.ptr 2 0)), (6, oD (.ptr 6 0)), (8, oD (.own 2009)), (9, iD v9)] [(2, .box (Ah p0)), (6, .box [sC (v5.1.map An), sC (v5.2.1.map An), sC (v5.2.2.1.map B3)]), (2009, .vec 1 (v5.2.2.2.2.map (Fj Ai)))]) (fun _ _ => rfl) (sm [(2008, 2006)] _ _ rfl rfl) (fun j8 n8 v8 h => ?_) (fun v9 s h hs => ?_)
     ·unfold GK at h
      refine wp rfl (qm rfl (EP rfl (Aa ?_)))
      refine Bc h (fun h => ?_) fun h => ?_
      ·refine Al (AM (wp rfl (qL CL Cp rfl (qL A0 AF rfl (qw 2 rfl ?_)))))
       refine Ey h fun c11 h => Id (.p rfl) rfl Bo Cg (FV (f := Ai) (n := 3) (fun _ => rfl) _) (.none _) (.some _ _ _ _ c11.1) tv ⟨rfl, tv⟩ (by have := c11.2.1; (try simp only [List.length_map]); omega) (by have := c11.2.2; (try simp only [List.length_map]); omega) (He Ai v5.2.2.2.1 _ _ ((v8).toNat - 0) rfl) ?_
       refine BS h fun v12 a12 h => Ar [] (HC N p0 ((Ac.mk v5.1 v5.2.1 v5.2.2.1)) (((v5.2.2.2.1.drop 0).take ((v8).toNat - 0))) v12 a12) T9 rfl (qm rfl (qx rfl (qx rfl (qa rfl (qa rfl (AI (by kernel_rfl) (wq rfl (qm rfl (Aa ?_)))))))))
       refine Bc h (fun h => ?_) fun h => ?_
       ·refine AS ?_
        exact sn [(2009, 2008)] h
       ·refine Al (Ag Az rfl (qm rfl (NL rfl (qe rfl ?_))))
        exact sn [] h
      ·refine AS ?_
       exact sn [(2009, 2008)] h
     ·refine Ae hs (wq rfl (qw 3 rfl ?_))
      refine Ey h fun c14 h => Id (.p rfl) rfl Bo Cg (FV (f := Ai) (n := 3) (fun _ => rfl) _) (.none _) (.some _ _ _ _ c14.1) tv ⟨rfl, tv⟩ (by have := c14.2.1; (try simp only [List.length_map]); omega) (by have := c14.2.2; (try simp only [List.length_map]); omega) (He Ai v5.2.2.2.1 _ _ ((v9).toNat - 0) rfl) ?_
      refine BS h fun v15 a15 h => Ar [2010] (Cn N (((v5.2.2.2.1.drop 0).take ((v9).toNat - 0))) v15 a15) TV rfl (D2 (A5 2010 _ _ rfl rfl) (D1 ID OW TW rfl ?_))
      refine Ey h fun c16 h => Dz (f := (Fj Ai)) ID ID OW VG TW c16 rfl (qa rfl (Aa (wq rfl (qL CL Cp rfl (qL A0 AF rfl (qw 2 rfl ?_))))))
      refine Ey h fun c17 h => Id (.p rfl) rfl Bo Cg (FV (f := Ai) (n := 3) (fun _ => rfl) _) (.none _) (.some _ _ _ _ c17.1) tv ⟨rfl, tv⟩ (by have := c17.2.1; (try simp only [List.length_map]); omega) (by have := c17.2.2; (try simp only [List.length_map]); omega) (He Ai v5.2.2.2.1 _ _ ((v9).toNat - 0) rfl) ?_
      refine BS h fun v18 a18 h => Ar [] (F2 N p0 ((Ac.mk v5.1 v5.2.1 v5.2.2.1)) (((v5.2.2.2.1.drop 0).take ((v9).toNat - 0))) v18 a18) SY rfl (qm rfl (qx rfl (qx rfl (qs AF rfl (AI (by kernel_rfl) (Ag Az rfl (qw 2 rfl ?_)))))))
      refine Ey h fun c19 h => Id (.p rfl) rfl Bo Cg (FV (f := Ai) (n := 3) (fun _ => rfl) _) (.some _ _ _ _ c19.1) (.none _) ⟨rfl, tv⟩ tv (by have := c19.2.1; (try simp only [List.length_map]); omega) (by have := c19.2.2; (try simp only [List.length_map]); omega) (He Ai v5.2.2.2.1 _ _ (v5.2.2.2.1.length - (v9).toNat) (by rw [List.length_map])) ?_
      refine qa rfl (Aa ?_)
      exact sn [(2006, 50)] h
    ·refine AS ?_
     exact sn [(2007, 2006)] h
   ·refine Ae hs (wq rfl (qm rfl (qa rfl (qe rfl ?_))))
    obtain rfl := sj h
    refine Ae (sm [(1000, 2007)] [(4, oD (.own 1000)), (5, iD 0)] [(1000, .vec 1 (v6.map (Fj Ai)))] rfl rfl) (Ap ?_)
    exact ⟨⟨[_, _], ⟨.tmp _ _ rfl, tm⟩, rfl⟩, ⟨rfl, tv⟩⟩
theorem Hh (N : Nat) (p0 : List (List Bool)) (p1 : Int) (p2 : Int) (r : Bool) (h : CS N p0 p1 p2 = some r) : Aq Tryz.prog 92 [pD (.sl (p0.map (Fj eB))), iD p1, iD p2] [] (bD r) := by
 unfold CS at h
 refine cw (n := 24) (rs := [.tmp 6]) Tryz.func92 fun w0 S0 => ?_
 refine wq rfl (qa rfl (Aa (wp rfl (qm rfl (AB FL rfl (qm rfl (BB rfl (Aa ?_))))))))
 refine Bc h (fun h => ?_) fun h => ?_
 ·refine wq rfl (qe rfl ?_)
  obtain rfl := sj h
  refine Ae (sm [] [(6, bD false)] [] rfl rfl) (Ap ?_)
  exact ⟨⟨[_], tm, rfl⟩, tv⟩
 ·refine Al (wp rfl (qe rfl ?_))
  refine AH (L := BU N p0 p1 p2) h (fun v2 => mk [(0, pD (.sl (p0.map (Fj eB)))), (1, iD p1), (2, iD p2), (7, iD v2)] []) (fun v3 => mk [] []) (fun _ _ => rfl) (sm [] _ _ rfl rfl) (fun j2 n2 v2 h => ?_) (fun v3 s h hs => ?_)
  ·unfold BU at h
   refine wp rfl (qw 2 rfl (AT rfl (Aa ?_)))
   refine Bc h (fun h => ?_) fun h => ?_
   ·refine Al (AO (AM (wq rfl (qw 2 rfl ?_))))
    refine BT h fun v5 a5 b5 h => qi FL MM a5 (Af b5) rfl (qk N3 rfl (AB GI rfl (qm rfl (BB rfl (Aa ?_)))))
    refine Bc h (fun h => ?_) fun h => ?_
    ·refine wq rfl (qe rfl ?_)
     obtain rfl := sj h
     refine Ae (sm [] [(6, bD false)] [] rfl rfl) (Ap ?_)
     exact ⟨⟨[_], tm, rfl⟩, tv⟩
    ·refine Al (Ag Az rfl (qm rfl (Be rfl (qe rfl ?_))))
     exact sn [] h
   ·refine AS ?_
    exact sn [] h
  ·refine Ae hs (wq rfl (qe rfl ?_))
   obtain rfl := sj h
   refine Ae (sm [] [(6, bD true)] [] rfl rfl) (Ap ?_)
   exact ⟨⟨[_], tm, rfl⟩, tv⟩
theorem JQ (N : Nat) (p0 : Ab) (p1 : Av) (r : Int) (h : DL N p0 p1 = some r) : Aq Tryz.prog 69 [.e (.agg (Ah p0)), .e (.agg (A7 p1))] [] (iD r) := by
 unfold DL at h
 refine cw (n := 101) (rs := [.tmp 4]) Tryz.func69 fun w0 S0 => ?_
 refine wq rfl (qb rfl (qb rfl (qa rfl (Aa (AO ?_)))))
 refine AK h (fun v1 => mk [(2, oD (.ptr 2 0)), (3, oD (.ptr 3 0)), (22, bD v1)] [(2, .box (Ah p0)), (3, .box (A7 p1))]) (fun j1 h => ?_) (fun v1 h => ?_)
 ·refine Ag Az rfl (qf Fa rfl (ql BL rfl (AT rfl (qm rfl ?_))))
  refine Dm 10 h rfl (fun h => ?_) fun h => ?_
  ·refine qw 3 rfl (qp rfl (qw 4 rfl (qu rfl (qu rfl (qn rfl (qp rfl (Aa ?_)))))))
   exact sn [] h
  ·refine qf Fa rfl (ql BL rfl (EP rfl (qp rfl (qm rfl ?_))))
   refine Dm 15 h rfl (fun h => ?_) fun h => ?_
   ·refine qw 3 rfl (qu rfl (qu rfl (qn rfl (qp rfl (Aa ?_)))))
    exact sn [] h
   ·refine qf If rfl (ql QZ rfl (qm rfl ?_))
    refine Dm 18 h rfl (fun h => ?_) fun h => ?_
    ·refine qL Gv Dr rfl ?_
     refine BS h fun v5 a5 h => Ar [] (Bx N p1 v5 a5) MP rfl (qp rfl (qp rfl (Aa ?_)))
     exact sn [] h
    ·refine qw 2 rfl (qp rfl (qp rfl (Aa ?_)))
     exact sn [] h
 ·refine Bc h (fun h => ?_) fun h => ?_
  ·refine wq rfl (qe rfl ?_)
   obtain rfl := sj h
   refine Ae (sm [] [(4, iD 1)] [] rfl rfl) (Ap ?_)
   exact ⟨⟨[_], tm, rfl⟩, tv⟩
  ·refine Al (wq rfl (qf Bg rfl (ql AV rfl (AB Au rfl (qa rfl (Aa (AO ?_)))))))
   refine AK h (fun v7 => mk [(2, oD (.ptr 2 0)), (3, oD (.ptr 3 0)), (45, bD v7)] [(2, .box (Ah p0)), (3, .box (A7 p1))]) (fun j7 h => ?_) (fun v7 h => ?_)
   ·refine Ag Az rfl (qf Ck rfl (ql BL rfl (AT rfl (qm rfl ?_))))
    refine Dm 29 h rfl (fun h => ?_) fun h => ?_
    ·refine qw 4 rfl (qp rfl (qw 4 rfl (qp rfl (qw 5 rfl (qp rfl (Aa ?_))))))
     exact sn [] h
    ·refine qf Ck rfl (ql BL rfl (qm rfl (Ep rfl (qp rfl (qm rfl ?_)))))
     refine Dm 35 h rfl (fun h => ?_) fun h => ?_
     ·refine qw 3 rfl (qp rfl (qw 5 rfl (qp rfl (Aa ?_))))
      exact sn [] h
     ·refine qf Hy rfl (ql BL rfl (AT rfl (qp rfl (qm rfl ?_))))
      refine Dm 40 h rfl (fun h => ?_) fun h => ?_
      ·refine qw 4 rfl (qp rfl (Aa ?_))
       exact sn [] h
      ·refine qf Hy rfl (ql BL rfl (qm rfl (Ep rfl (qp rfl (Aa ?_)))))
       exact sn [] h
   ·refine Bc h (fun h => ?_) fun h => ?_
    ·refine wq rfl (qe rfl ?_)
     obtain rfl := sj h
     refine Ae (sm [] [(4, iD 4)] [] rfl rfl) (Ap ?_)
     exact ⟨⟨[_], tm, rfl⟩, tv⟩
    ·refine Al (wp rfl (qf IZ rfl (ql Je rfl (qf Bg rfl (ql AV rfl (qf Ck rfl (ql BL rfl ?_)))))))
     refine BT h fun v12 a12 b12 h => qi Au Cy a12 (Af b12) rfl (qk BL rfl (qf Bg rfl (ql AV rfl (qf Hy rfl (ql BL rfl ?_)))))
     refine BT h fun v13 a13 b13 h => qi Au Cy a13 (Af b13) rfl (qk BL rfl ?_)
     refine BS h fun v14 a14 h => Ar [] (Hh N p1.fq v12 v13 v14 a14) VP rfl (BX rfl (AI (by kernel_rfl) ?_))
     refine Bc h (fun h => ?_) fun h => ?_
     ·refine wq rfl (qe rfl ?_)
      obtain rfl := sj h
      refine Ae (sm [] [(4, iD 6)] [] rfl rfl) (Ap ?_)
      exact ⟨⟨[_], tm, rfl⟩, tv⟩
     ·refine Al (wp rfl (qf Fa rfl (ql BL rfl (BB rfl (Aa ?_)))))
      refine Bc h (fun h => ?_) fun h => ?_
      ·refine wp rfl (qf FZ rfl (ql Je rfl (AB FL rfl (BB rfl (Aa ?_)))))
       refine Bc h (fun h => ?_) fun h => ?_
       ·refine wq rfl (qe rfl ?_)
        obtain rfl := sj h
        refine Ae (sm [] [(4, iD 6)] [] rfl rfl) (Ap ?_)
        exact ⟨⟨[_], tm, rfl⟩, tv⟩
       ·refine Al (wq rfl (qe rfl ?_))
        obtain rfl := sj h
        refine Ae (sm [] [(4, iD 0)] [] rfl rfl) (Ap ?_)
        exact ⟨⟨[_], tm, rfl⟩, tv⟩
      ·refine Al (wp rfl (qf FZ rfl (ql Je rfl (qf Bg rfl (ql AV rfl (qf Ck rfl (ql BL rfl ?_)))))))
       refine BT h fun v18 a18 b18 h => qi Au Cy a18 (Af b18) rfl (qk BL rfl (qf Bg rfl (ql AV rfl (qf Ck rfl (ql BL rfl ?_)))))
       refine BT h fun v19 a19 b19 h => qi Au Cy a19 (Af b19) rfl (qk BL rfl ?_)
       refine BS h fun v20 a20 h => Ar [] (Hh N p1.fk v18 v19 v20 a20) VP rfl (BX rfl (AI (by kernel_rfl) ?_))
       refine Bc h (fun h => ?_) fun h => ?_
       ·refine wq rfl (qe rfl ?_)
        obtain rfl := sj h
        refine Ae (sm [] [(4, iD 6)] [] rfl rfl) (Ap ?_)
        exact ⟨⟨[_], tm, rfl⟩, tv⟩
       ·refine Al (wp rfl (qe rfl ?_))
        refine AH (L := By N p1) h (fun v22 => mk [(3, oD (.ptr 3 0)), (6, iD v22)] [(3, .box (A7 p1))]) (fun v23 => mk [] []) (fun _ _ => rfl) (sm [] _ _ rfl rfl) (fun j22 n22 v22 h => ?_) (fun v23 s h hs => ?_)
        ·unfold By at h
         refine wp rfl (qm rfl (qf FZ rfl (ql Je rfl (AB FL rfl (AT rfl (Aa ?_))))))
         refine Bc h (fun h => ?_) fun h => ?_
         ·refine Al (AO (AM (wq rfl (qf FZ rfl (ql Je rfl (qm rfl ?_))))))
          refine BT h fun v25 a25 b25 h => qi FL MM a25 (Af b25) rfl (qk N3 rfl (qm rfl ?_))
          refine BT h fun v26 a26 b26 h => qi GI P2 a26 (Af b26) rfl (qk QZ rfl (BX rfl (Aa ?_)))
          refine Bc h (fun h => ?_) fun h => ?_
          ·refine wq rfl (qe rfl ?_)
           obtain rfl := sj h
           refine Ae (sm [] [(4, iD 1)] [] rfl rfl) (Ap ?_)
           exact ⟨⟨[_], tm, rfl⟩, tv⟩
          ·refine Al (Ag Az rfl (qm rfl (Be rfl (qe rfl ?_))))
           exact sn [] h
         ·refine AS ?_
          exact sn [] h
        ·refine Ae hs (wq rfl (qe rfl ?_))
         obtain rfl := sj h
         refine Ae (sm [] [(4, iD 0)] [] rfl rfl) (Ap ?_)
         exact ⟨⟨[_], tm, rfl⟩, tv⟩
end Go.Lift
