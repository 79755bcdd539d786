/- Lemmas for AuditSpoiledCardSaid, which YtfgobbnahihlfaaGreatDoorFinA10 proves. -/
import Derived.Test.YtfgobbnahihlfaaGreatDoorTypes
import Derived.Test.YtfgobbnahihlfaaGreatDoorProg
import Derived.KernelRfl
open List renaming drop_eq_getElem_cons → zH2, getElem?_map → zA5, getElem_mem → zE6, length_map → zB9, map_eq_nil_iff → zI4, replicate → zA7
open Nat renaming le_refl → zC5, min → zD2, zero_add → zA4, zero_le → zB7
open Option renaming map → zH7
open Go.Proofs.Tryz renaming prog → zA0
namespace Go.Lift
open IntKind renaming wrap → wI
def C8 (_ : Nat) (p0 : Int) (p1 : Int) : Option Bool :=
 A8 (fun (v1 : Bool) =>
  some v1)
 fun j1 =>
 AJ ((decide (0 ≤ p0)))
  (j1 (decide (p0 < p1)))
  (j1 false)
def Fr (_ : Nat) (p0 : Int) (p1 : Bool) : Option Bool :=
 A8 (fun (v1 : Bool) =>
  some v1)
 fun j1 =>
 AJ ((p0 == 1))
  (j1 true)
  (AJ ((p0 == 2))
   (j1 true)
   (AJ ((p0 == 3))
    (j1 (!p1))
    (AJ ((p0 == 4))
     (j1 (!p1))
     (j1 false))))
def CZ (_ : Nat) (p0 : List Bool) (p1 : Int) : Option Bool :=
 some (((p0.length : Int) != p1))
def A7 (N : Nat) (p0 : List (List Bool)) (p1 : (List Bool) → Option Bool) (j1 : Unit → Option Int) : Nat → Int → Option Int
 | 0, _ => none
 | n1 + 1, v1 =>
  AJ ((decide (v1 < (p0.length : Int))))
   ((Br p0 v1).bind fun v4 =>
   (p1 v4).bind fun v5 =>
   AJ v5
    (some v1)
    (A7 N p0 p1 j1 n1 (wI .i64 (v1 + 1))))
   (j1 ())
def Ct (N : Nat) (p0 : List (List Bool)) (p1 : (List Bool) → Option Bool) : Option Int :=
 A7 N p0 p1 (fun (_ : Unit) =>
  some ((-1))) N 0
def Ca (N : Nat) (p0 : List (List Bool)) (p1 : (List Bool) → Option Bool) : Option Bool :=
 (Ct N p0 p1).bind fun v1 =>
 some ((decide (0 ≤ v1)))
def D8 (N : Nat) (p0 : List (List Bool)) (p1 : Int) (p2 : Int) : Option Bool :=
 A8 (fun (v1 : Bool) =>
  some v1)
 fun j1 =>
 AJ (((p0.length : Int) == p1))
  ((Ca N p0 ((fun (x : List Bool) => CZ N x p2))).bind fun v3 =>
  j1 (!v3))
  (j1 false)
def Ci (N : Nat) (p1 : AI) (j19 : Unit → Option Int) : Nat → Int → Option Int
 | 0, _ => none
 | n19 + 1, v19 =>
  AJ ((decide (v19 < (p1.fv.length : Int))))
   ((Br p1.fv v19).bind fun v22 =>
   (Br v22 v19).bind fun v23 =>
   AJ ((!v23))
    (some 1)
    (Ci N p1 j19 n19 (wI .i64 (v19 + 1))))
   (j19 ())
def EZ (N : Nat) (p0 : Aa) (p1 : AI) : Option Int :=
 (Fr N p1.fa p1.fQ).bind fun v1 =>
 AJ ((!v1))
  (some 1)
  (A8 (fun (v3 : Bool) =>
   AJ v3
    (some 4)
    ((Br p0.fc p1.fj).bind fun v8 =>
    A8 (fun (v9 : Bool) =>
     AJ v9
      (some 6)
      (Ci N p1 (fun (_ : Unit) =>
       some 0) N 0))
    fun j9 =>
    (Br p0.fc p1.fC).bind fun v10 =>
    (D8 N p1.fD v8 v10).bind fun v11 =>
    AJ ((!v11))
     (j9 true)
     (AJ ((p1.fa == 4))
      ((D8 N p1.fv v8 v8).bind fun v14 =>
      AJ ((!v14))
       (j9 true)
       (AJ ((!((p1.fa == 4))))
        (j9 (decide (0 < (p1.fv.length : Int))))
        (j9 false)))
      (AJ ((!((p1.fa == 4))))
       (j9 (decide (0 < (p1.fv.length : Int))))
       (j9 false)))))
  fun j3 =>
  (C8 N p1.fj ((p0.fc.length : Int))).bind fun v4 =>
  AJ ((!v4))
   (j3 true)
   ((C8 N p1.fC ((p0.fc.length : Int))).bind fun v6 =>
   j3 (!v6)))
def Bw (N : Nat) (p0 : Aa) (j7 : Unit → Option Int) : Nat → Int → Option Int
 | 0, _ => none
 | n7 + 1, v7 =>
  AJ ((decide (v7 < (p0.fc.length : Int))))
   ((Br p0.fc v7).bind fun v10 =>
   A8 (fun (v11 : Bool) =>
    AJ v11
     (some 7)
     (Bw N p0 j7 n7 (wI .i64 (v7 + 1))))
   fun j11 =>
   AJ ((decide (v10 < 1)))
    (j11 true)
    (AJ ((decide (6 < v10)))
     (j11 true)
     ((Br p0.fk v7).bind fun v14 =>
     (C8 N v14 v10).bind fun v15 =>
     AJ ((!v15))
      (j11 true)
      ((Br p0.fp v7).bind fun v17 =>
      (C8 N v17 v10).bind fun v18 =>
      j11 (!v18)))))
   (j7 ())
def Bo (N : Nat) (p0 : Aa) (j20 : Unit → Option Int) : Nat → Int → Option Int
 | 0, _ => none
 | n20 + 1, v20 =>
  AJ ((decide (v20 < (p0.fd.length : Int))))
   ((Br p0.fd v20).bind fun v23 =>
   (EZ N p0 v23).bind fun v24 =>
   AJ ((v24 != 0))
    (some v24)
    (Bo N p0 j20 n20 (wI .i64 (v20 + 1))))
   (j20 ())
def BQ (N : Nat) (p0 : Aa) : Option Int :=
 A8 (fun (v1 : Bool) =>
  AJ v1
   (some 3)
   (A8 (fun (v4 : Bool) =>
    AJ v4
     (some 6)
     (Bw N p0 (fun (_ : Unit) =>
      Bo N p0 (fun (_ : Unit) =>
       some 0) N 0) N 0))
   fun j4 =>
   AJ (((p0.fk.length : Int) != (p0.fc.length : Int)))
    (j4 true)
    (j4 ((p0.fp.length : Int) != (p0.fc.length : Int)))))
 fun j1 =>
 AJ ((decide (6 < (p0.fc.length : Int))))
  (j1 true)
  (j1 (decide (12 < (p0.fd.length : Int))))
def A0 (N : Nat) (p0 : List Int) (p1 : Int → Option Bool) (j1 : Unit → Option Int) : Nat → Int → Option Int
 | 0, _ => none
 | n1 + 1, v1 =>
  AJ ((decide (v1 < (p0.length : Int))))
   ((Br p0 v1).bind fun v4 =>
   (p1 v4).bind fun v5 =>
   AJ v5
    (some v1)
    (A0 N p0 p1 j1 n1 (wI .i64 (v1 + 1))))
   (j1 ())
def CO (N : Nat) (p0 : List Int) (p1 : Int → Option Bool) : Option Int :=
 A0 N p0 p1 (fun (_ : Unit) =>
  some ((-1))) N 0
def BR (N : Nat) (p0 : List Int) (p1 : Int → Option Bool) : Option Bool :=
 (CO N p0 p1).bind fun v1 =>
 some ((decide (0 ≤ v1)))
def DU (_ : Nat) (p0 : Int) : Option Bool :=
 A8 (fun (v1 : Bool) =>
  some v1)
 fun j1 =>
 AJ ((decide (p0 < 1)))
  (j1 true)
  (j1 (decide (4 < p0)))
def Et (N : Nat) (p0 : Aa) (p1 : List Int) : Option Int :=
 AJ (((p1.length : Int) != (p0.fc.length : Int)))
  (some 6)
  ((BR N p1 ((fun (x : Int) => DU N x))).bind fun v2 =>
  AJ v2
   (some 7)
   (some 0))
def AL (N : Nat) (p0 : List Al) (p1 : Al → Option Bool) (j1 : Unit → Option Int) : Nat → Int → Option Int
 | 0, _ => none
 | n1 + 1, v1 =>
  AJ ((decide (v1 < (p0.length : Int))))
   ((Br p0 v1).bind fun v4 =>
   (p1 v4).bind fun v5 =>
   AJ v5
    (some v1)
    (AL N p0 p1 j1 n1 (wI .i64 (v1 + 1))))
   (j1 ())
def Bn (N : Nat) (p0 : List Al) (p1 : Al → Option Bool) : Option Int :=
 AL N p0 p1 (fun (_ : Unit) =>
  some ((-1))) N 0
def Bd (N : Nat) (p0 : List Al) (p1 : Al → Option Bool) : Option Bool :=
 (Bn N p0 p1).bind fun v1 =>
 some ((decide (0 ≤ v1)))
def Dw (_ : Nat) (p0 : Al) : Option Bool :=
 some ((p0.fa == 4))
def BS (_ : Nat) (p0 : List Int) : Option ((List Int)) :=
 (EY ((([] : List Int)).length + p0.length ≤ FR)).bind fun _ =>
 some ((([] : List Int)) ++ p0)
def FE (_ : Nat) (p0 : Int) (p1 : Int) : Option (Int × Int) :=
 some ((wI .u32 ((FM .u64 ((wI .u64 ((wI .u64 p0) * (wI .u64 p1)))) 32))), (wI .u32 ((wI .u64 ((wI .u64 p0) * (wI .u64 p1))))))
def FD (_ : Nat) (p0 : Int) (p1 : Int) : Option (Int × Int) :=
 some ((wI .u64 ((wI .u64 ((wI .u64 ((FM .u64 p0 32) * (FM .u64 p1 32))) + (FM .u64 ((wI .u64 ((wI .u64 ((FM .u64 p0 32) * (FB .u64 p1 4294967295))) + (FM .u64 ((wI .u64 ((FB .u64 p0 4294967295) * (FB .u64 p1 4294967295)))) 32)))) 32))) + (FM .u64 ((wI .u64 ((FB .u64 ((wI .u64 ((wI .u64 ((FM .u64 p0 32) * (FB .u64 p1 4294967295))) + (FM .u64 ((wI .u64 ((FB .u64 p0 4294967295) * (FB .u64 p1 4294967295)))) 32)))) 4294967295) + (wI .u64 ((FB .u64 p0 4294967295) * (FM .u64 p1 32)))))) 32))), (wI .u64 (p0 * p1)))
def Gg (N : Nat) (p0 : Int) (p1 : Int) : Option (Int × Int) :=
 AJ false
  ((FE N ((wI .u32 p0)) ((wI .u32 p1))).bind fun v2 =>
  some ((wI .u64 v2.1), (wI .u64 v2.2)))
  ((FD N p0 p1).bind fun v3 =>
  some (v3.1, v3.2))
def CN (N : Nat) (j9 : ((List Int)) → Option ((List Int))) : Nat → ((List Int) × Int) → Option ((List Int))
 | 0, _ => none
 | n9 + 1, v9 =>
  AJ ((decide (v9.2 < (v9.1.length : Int))))
   ((EY ((0 : Int) ≤ v9.2 ∧ (v9.2).toNat ≤ v9.1.length ∧ v9.1.length ≤ v9.1.length)).bind fun _ =>
   (EY ((0 : Int) ≤ v9.2 ∧ 0 ≤ (v9.2).toNat ∧ (v9.2).toNat ≤ v9.1.length)).bind fun _ =>
   CN N j9 n9 (Od v9.1 ((v9.2).toNat) ((((v9.1.drop 0).take ((v9.2).toNat))).take (zD2 (((v9.1.drop 0).take ((v9.2).toNat))).length ((v9.1.length - (v9.2).toNat)))), (wI .i64 (v9.2 + (((zD2 (((v9.1.drop 0).take ((v9.2).toNat))).length ((v9.1.length - (v9.2).toNat))) : Nat) : Int)))))
   (j9 v9.1)
def Dp (N : Nat) (p0 : List Int) (p1 : Int) : Option ((List Int)) :=
 A8 (fun (_ : Unit) =>
  (Gg N ((wI .u64 ((p0.length : Int)))) ((wI .u64 p1))).bind fun v3 =>
  A8 (fun (_ : Unit) =>
   (EY ((0 : Int) ≤ (wI .i64 v3.2) ∧ (wI .i64 v3.2) ≤ (wI .i64 v3.2) ∧ (wI .i64 v3.2) ≤ (FR : Int))).bind fun _ =>
   CN N (fun (v10 : (List Int)) =>
    some v10) N (Od (zA7 ((wI .i64 v3.2)).toNat ((0 : Int))) 0 (p0.take (zD2 p0.length ((zA7 ((wI .i64 v3.2)).toNat ((0 : Int))).length))), (((zD2 p0.length ((zA7 ((wI .i64 v3.2)).toNat ((0 : Int))).length)) : Nat) : Int)))
  fun j4 =>
  A8 (fun (v5 : Bool) =>
   AJ v5
    (none)
    (j4 ()))
  fun j5 =>
  AJ ((decide (0 < v3.1)))
   (j5 true)
   (j5 (decide (9223372036854775807 < v3.2))))
 fun j1 =>
 AJ ((decide (p1 < 0)))
  (none)
  (j1 ())
def EN (_ : Nat) (p0 : AI) : Option Bool :=
 A8 (fun (v1 : Bool) =>
  some v1)
 fun j1 =>
 AJ ((p0.fa == 3))
  (j1 true)
  (j1 (p0.fa == 4))
def C4 (N : Nat) (p0 : Aa) (j6 : ((List Int)) → Option (Ae × Int)) : Nat → ((List Int) × Int) → Option (Ae × Int)
 | 0, _ => none
 | n6 + 1, v6 =>
  AJ ((decide (v6.2 < (p0.fd.length : Int))))
   (A8 (fun (v9 : (List Int)) =>
    C4 N p0 j6 n6 (v9, (wI .i64 (v6.2 + 1))))
   fun j9 =>
   (Br p0.fd v6.2).bind fun v10 =>
   (EN N v10).bind fun v11 =>
   AJ v11
    ((Br p0.fk v10.fj).bind fun v13 =>
    (EY (0 ≤ v13)).bind fun _ =>
    (Br v6.1 v6.2).bind fun _ =>
    j9 (v6.1.set ((v6.2).toNat) ((DE .u8 1 v13))))
    (j9 v6.1))
   (j6 v6.1)
def FX (N : Nat) (p0 : Aa) : Option (Ae × Int) :=
 (BQ N p0).bind fun v1 =>
 AJ ((v1 != 0))
  (some ((Ae.mk (([] : List Int)) (([] : List Int)) (([] : List Int))), v1))
  ((BS N p0.fk).bind fun v3 =>
  (Dp N (([(-1)] : List Int)) ((p0.fk.length : Int))).bind fun v4 =>
  (EY ((0 : Int) ≤ (p0.fd.length : Int) ∧ (p0.fd.length : Int) ≤ (p0.fd.length : Int) ∧ (p0.fd.length : Int) ≤ (FR : Int))).bind fun _ =>
  C4 N p0 (fun (v7 : (List Int)) =>
   some ((Ae.mk v3 v4 v7), 0)) N (zA7 ((p0.fd.length : Int)).toNat ((0 : Int)), 0))
def E6 (_ : Nat) (p0 : Ae) (p1 : Int) : Option Int :=
 (Br p0.fh p1).bind fun v1 =>
 (EY (0 ≤ v1)).bind fun _ =>
 A8 (fun (v3 : Int) =>
  some v3)
 fun j3 =>
 (Br p0.fe p1).bind fun v4 =>
 AJ ((decide (0 ≤ v4)))
  ((Br p0.fe p1).bind fun v6 =>
  (EY (0 ≤ v6)).bind fun _ =>
  j3 (K7 .u8 ((DE .u8 1 v1)) ((DE .u8 1 v6))))
  (j3 (DE .u8 1 v1))
def C7 (N : Nat) (p0 : Aa) (p1 : Ae) (j7 : Unit → Option Int) : Nat → Int → Option Int
 | 0, _ => none
 | n7 + 1, v7 =>
  AJ ((decide (v7 < (p0.fc.length : Int))))
   ((Br p0.fc v7).bind fun v10 =>
   A8 (fun (v11 : Bool) =>
    AJ v11
     (some 7)
     ((Br p1.fh v7).bind fun v20 =>
     (Br p1.fe v7).bind fun v21 =>
     AJ ((v20 == v21))
      (some 1)
      (C7 N p0 p1 j7 n7 (wI .i64 (v7 + 1)))))
   fun j11 =>
   (Br p1.fh v7).bind fun v12 =>
   AJ ((decide (v12 < 0)))
    (j11 true)
    ((Br p1.fh v7).bind fun v14 =>
    AJ ((decide (v10 ≤ v14)))
     (j11 true)
     ((Br p1.fe v7).bind fun v16 =>
     AJ ((decide (v16 < (-1))))
      (j11 true)
      ((Br p1.fe v7).bind fun v18 =>
      j11 (decide (v10 ≤ v18))))))
   (j7 ())
def CI (N : Nat) (p0 : Aa) (p1 : Ae) (j23 : Unit → Option Int) : Nat → Int → Option Int
 | 0, _ => none
 | n23 + 1, v23 =>
  AJ ((decide (v23 < (p0.fd.length : Int))))
   ((Br p0.fd v23).bind fun v26 =>
   A8 (fun (v27 : Int × Int) =>
    A8 (fun (v33 : Bool) =>
     AJ v33
      (some 1)
      (CI N p0 p1 j23 n23 (wI .i64 (v23 + 1))))
    fun j33 =>
    (Br p1.ff v23).bind fun v34 =>
    AJ (((Cl .u8 v27.1 v34) != 0))
     (j33 true)
     ((Br p1.ff v23).bind fun v36 =>
     j33 ((Cl .u8 v36 v27.2) != 0)))
   fun j27 =>
   (EN N v26).bind fun v28 =>
   AJ v28
    ((E6 N p1 v26.fj).bind fun v30 =>
    (Br p0.fc v26.fj).bind fun v31 =>
    (EY (0 ≤ v31)).bind fun _ =>
    j27 (v30, (wI .u8 ((DE .u8 1 v31) - 1))))
    (j27 (0, 0)))
   (j23 ())
def Fc (N : Nat) (p0 : Aa) (p1 : Ae) : Option Int :=
 (BQ N p0).bind fun v1 =>
 AJ ((v1 != 0))
  (some v1)
  (A8 (fun (v3 : Bool) =>
   AJ v3
    (some 6)
    (C7 N p0 p1 (fun (_ : Unit) =>
     CI N p0 p1 (fun (_ : Unit) =>
      some 0) N 0) N 0))
  fun j3 =>
  AJ (((p1.fh.length : Int) != (p0.fc.length : Int)))
   (j3 true)
   (AJ (((p1.fe.length : Int) != (p0.fc.length : Int)))
    (j3 true)
    (j3 ((p1.ff.length : Int) != (p0.fd.length : Int)))))
def BP (_ : Nat) (p0 : List Int) : Option ((List Int)) :=
 (EY ((([] : List Int)).length + p0.length ≤ FR)).bind fun _ =>
 some ((([] : List Int)) ++ p0)
def Es (N : Nat) (p0 : Ae) : Option Ae :=
 (BS N p0.fh).bind fun v1 =>
 (BS N p0.fe).bind fun v2 =>
 (BP N p0.ff).bind fun v3 =>
 some ((Ae.mk v1 v2 v3))
def Fn (_ : Nat) (p0 : Al) : Option Bool :=
 A8 (fun (v1 : Bool) =>
  AJ v1
   (some false)
   (A8 (fun (v5 : Bool) =>
    some v5)
   fun j5 =>
   AJ ((p0.fa == 1))
    (j5 true)
    (j5 (p0.fr == 0))))
 fun j1 =>
 AJ ((decide ((SC p0.fm p0.fr) < 0)))
  (j1 true)
  (AJ ((decide (p0.fa < 1)))
   (j1 true)
   (j1 (decide (4 < p0.fa))))
def E2 (_ : Nat) (p0 : Aa) (p1 : Al) : Option Bool :=
 AJ ((p1.fa == 3))
  (some ((decide (p1.fm < (p0.fd.length : Int)))))
  (A8 (fun (v2 : Bool) =>
   some v2)
  fun j2 =>
  AJ ((decide (p1.fm < (p0.fc.length : Int))))
   (AJ ((p1.fa != 1))
    (j2 true)
    ((Br p0.fc p1.fm).bind fun v5 =>
    j2 (decide (p1.fr < v5))))
   (j2 false))
def Ev (_ : Nat) (p0 : AI) : Option Bool :=
 A8 (fun (v1 : Bool) =>
  some v1)
 fun j1 =>
 AJ ((p0.fa == 3))
  (j1 true)
  (j1 (p0.fa == 4))
def CK (N : Nat) (p0 : Aa) (p2 : Al) (j7 : ((List Int)) → Option (Bool × (List Int) × (List Int))) : Nat → ((List Int) × Int) → Option (Bool × (List Int) × (List Int))
 | 0, _ => none
 | n7 + 1, v7 =>
  AJ ((decide (v7.2 < (p0.fd.length : Int))))
   (A8 (fun (v10 : (List Int)) =>
    CK N p0 p2 j7 n7 (v10, (wI .i64 (v7.2 + 1))))
   fun j10 =>
   (Br p0.fd v7.2).bind fun v11 =>
   A8 (fun (v12 : Bool) =>
    AJ v12
     ((Br v7.1 v7.2).bind fun v16 =>
     (EY (0 ≤ p2.fr)).bind fun _ =>
     (Br v7.1 v7.2).bind fun _ =>
     j10 (v7.1.set ((v7.2).toNat) ((K7 .u8 v16 ((DE .u8 1 p2.fr))))))
     (j10 v7.1))
   fun j12 =>
   AJ ((v11.fj == p2.fm))
    ((Ev N v11).bind fun v14 =>
    j12 v14)
    (j12 false))
   (j7 v7.1)
def Gl (N : Nat) (p0 : Aa) (p1 : Ae) (p2 : Al) : Option (Bool × (List Int) × (List Int)) :=
 A8 (fun (v1 : Bool) =>
  AJ v1
   (some (false, p1.fe, p1.ff))
   ((Br p1.fe p2.fm).bind fun _ =>
   CK N p0 p2 (fun (v8 : (List Int)) =>
    some (true, p1.fe.set ((p2.fm).toNat) p2.fr, v8)) N (p1.ff, 0)))
 fun j1 =>
 (Br p1.fe p2.fm).bind fun v2 =>
 AJ ((decide (0 ≤ v2)))
  (j1 true)
  ((Br p1.fh p2.fm).bind fun v4 =>
  j1 (v4 == p2.fr))
def EH (_ : Nat) (p0 : Ae) (p1 : Int) : Option Int :=
 (Br p0.fh p1).bind fun v1 =>
 (EY (0 ≤ v1)).bind fun _ =>
 A8 (fun (v3 : Int) =>
  some v3)
 fun j3 =>
 (Br p0.fe p1).bind fun v4 =>
 AJ ((decide (0 ≤ v4)))
  ((Br p0.fe p1).bind fun v6 =>
  (EY (0 ≤ v6)).bind fun _ =>
  j3 (K7 .u8 ((DE .u8 1 v1)) ((DE .u8 1 v6))))
  (j3 (DE .u8 1 v1))
def B9 (_ : Nat) (p0 : Int) : Option Int :=
 (TS ((⟨⟨(List.append (List.append [8, 0, 1, 0, 2, 0, 1, 0, 3, 0, 1, 0, 2, 0, 1, 0, 4, 0, 1, 0, 2, 0, 1, 0, 3, 0, 1, 0, 2, 0, 1, 0, 5, 0, 1, 0, 2, 0, 1, 0, 3, 0, 1, 0, 2, 0, 1, 0, 4, 0, 1, 0, 2, 0, 1, 0, 3, 0, 1, 0, 2, 0, 1, 0] [6, 0, 1, 0, 2, 0, 1, 0, 3, 0, 1, 0, 2, 0, 1, 0, 4, 0, 1, 0, 2, 0, 1, 0, 3, 0, 1, 0, 2, 0, 1, 0, 5, 0, 1, 0, 2, 0, 1, 0, 3, 0, 1, 0, 2, 0, 1, 0, 4, 0, 1, 0, 2, 0, 1, 0, 3, 0, 1, 0, 2, 0, 1, 0]) (List.append [7, 0, 1, 0, 2, 0, 1, 0, 3, 0, 1, 0, 2, 0, 1, 0, 4, 0, 1, 0, 2, 0, 1, 0, 3, 0, 1, 0, 2, 0, 1, 0, 5, 0, 1, 0, 2, 0, 1, 0, 3, 0, 1, 0, 2, 0, 1, 0, 4, 0, 1, 0, 2, 0, 1, 0, 3, 0, 1, 0, 2, 0, 1, 0] [6, 0, 1, 0, 2, 0, 1, 0, 3, 0, 1, 0, 2, 0, 1, 0, 4, 0, 1, 0, 2, 0, 1, 0, 3, 0, 1, 0, 2, 0, 1, 0, 5, 0, 1, 0, 2, 0, 1, 0, 3, 0, 1, 0, 2, 0, 1, 0, 4, 0, 1, 0, 2, 0, 1, 0, 3, 0, 1, 0, 2, 0, 1, 0]))⟩⟩ : ByteArray)) p0).bind fun v1 =>
 some ((wI .i64 v1))
def CA (N : Nat) (p0 : AI) (p2 : Int) (j1 : Unit → Option Bool) : Nat → Int → Option Bool
 | 0, _ => none
 | n1 + 1, v1 =>
  AJ ((v1 != 0))
   ((B9 N v1).bind fun v4 =>
   (Br p0.fv v4).bind fun v5 =>
   (Br v5 p2).bind fun v6 =>
   AJ ((!v6))
    (some false)
    (CA N p0 p2 j1 n1 (FB .u8 v1 ((wI .u8 (v1 - 1))))))
   (j1 ())
def EF (N : Nat) (p0 : AI) (p1 : Int) (p2 : Int) : Option Bool :=
 CA N p0 p2 (fun (_ : Unit) =>
  some true) N p1
def Ft (N : Nat) (p0 : Aa) (p1 : Ae) (p2 : Int) : Option (Bool × (List Int)) :=
 (Br p0.fd p2).bind fun v1 =>
 (Ev N v1).bind fun v2 =>
 AJ ((!v2))
  (some (false, p1.ff))
  ((EH N p1 v1.fj).bind fun v4 =>
  (Br p1.ff p2).bind fun v5 =>
  A8 (fun (v6 : Bool) =>
   AJ v6
    (some (false, p1.ff))
    ((Br p1.ff p2).bind fun _ =>
    some (true, p1.ff.set ((p2).toNat) v4)))
  fun j6 =>
  (Br p1.ff p2).bind fun v7 =>
  AJ ((v7 == v4))
   (j6 true)
   (AJ ((v1.fa == 4))
    ((Br p1.fh v1.fj).bind fun v10 =>
    (EF N v1 ((Cl .u8 v5 v4)) v10).bind fun v11 =>
    j6 (!v11))
    (j6 false)))
def Fl (N : Nat) (p0 : Aa) (p1 : Ae) (p2 : Al) : Option (Ae × Bool) :=
 (Es N p1).bind fun v1 =>
 AJ ((p2.fa == 1))
  ((Gl N p0 v1 p2).bind fun v3 =>
  some ((Ae.mk v1.fh v3.2.1 v3.2.2), v3.1))
  (AJ ((p2.fa == 3))
   ((Ft N p0 v1 p2.fm).bind fun v5 =>
   some ((Ae.mk v1.fh v1.fe v5.2), v5.1))
   ((Br v1.fe p2.fm).bind fun v6 =>
   AJ ((decide (v6 < 0)))
    (some (v1, false))
    ((Br v1.fe p2.fm).bind fun _ =>
    A8 (fun (v9 : (List Int)) =>
     some ((Ae.mk v9 (v1.fe.set ((p2.fm).toNat) ((-1))) v1.ff), true))
    fun j9 =>
    AJ ((p2.fa == 2))
     ((Br v1.fh p2.fm).bind fun _ =>
     j9 (v1.fh.set ((p2.fm).toNat) v6))
     (j9 v1.fh))))
def EL (N : Nat) (p0 : Aa) (p1 : Ae) (p2 : Al) : Option (Ae × Int) :=
 (Fn N p2).bind fun v1 =>
 AJ ((!v1))
  (some ((Ae.mk (([] : List Int)) (([] : List Int)) (([] : List Int))), 1))
  ((E2 N p0 p2).bind fun v3 =>
  AJ ((!v3))
   (some ((Ae.mk (([] : List Int)) (([] : List Int)) (([] : List Int))), 4))
   ((Fl N p0 p1 p2).bind fun v5 =>
   AJ ((!v5.2))
    (some ((Ae.mk (([] : List Int)) (([] : List Int)) (([] : List Int))), 11))
    (some (v5.1, 0))))
def El (N : Nat) (p0 : Aa) (p2 : List Al) (j4 : ((List Ae)) → Option ((List Ae) × Int × Int)) : Nat → ((List Ae) × Int) → Option ((List Ae) × Int × Int)
 | 0, _ => none
 | n4 + 1, v4 =>
  AJ ((decide (v4.2 < (p2.length : Int))))
   ((Br p2 v4.2).bind fun v7 =>
   (Br v4.1 v4.2).bind fun v8 =>
   (EL N p0 v8 v7).bind fun v9 =>
   AJ ((v9.2 != 0))
    (some (([] : List Ae), v4.2, v9.2))
    ((EY (v4.1.length + (([v9.1] : List Ae)).length ≤ FR)).bind fun _ =>
    El N p0 p2 j4 n4 (v4.1 ++ (([v9.1] : List Ae)), (wI .i64 (v4.2 + 1)))))
   (j4 v4.1)
def Gv (N : Nat) (p0 : Aa) (p1 : Ae) (p2 : List Al) : Option ((List Ae) × Int × Int) :=
 (Fc N p0 p1).bind fun v1 =>
 AJ ((v1 != 0))
  (some (([] : List Ae), 0, v1))
  ((Es N p1).bind fun v3 =>
  El N p0 p2 (fun (v5 : (List Ae)) =>
   some (v5, (p2.length : Int), 0)) N (([v3] : List Ae), 0))
def Dj (N : Nat) (p0 : Aa) (p1 : List Al) : Option (Ae × Int) :=
 (Bd N p1 ((fun (x : Al) => Dw N x))).bind fun v1 =>
 AJ v1
  (some ((Ae.mk (([] : List Int)) (([] : List Int)) (([] : List Int))), 1))
  ((FX N p0).bind fun v3 =>
  AJ ((v3.2 != 0))
   (some ((Ae.mk (([] : List Int)) (([] : List Int)) (([] : List Int))), v3.2))
   ((Gv N p0 v3.1 p1).bind fun v5 =>
   some (v3.1, v5.2.2)))
def EJ (_ : Nat) (p0 : Int) : Option ByteArray :=
 A8 (fun (v1 : Bool) =>
  AJ v1
   (some ((⟨#[]⟩ : ByteArray)))
   ((Br ([⟨#[]⟩, (⟨#[114, 101, 97, 100]⟩ : ByteArray), (⟨#[98, 101, 103, 105, 110]⟩ : ByteArray), (⟨#[100, 111, 110, 101]⟩ : ByteArray), (⟨#[97, 98, 111, 114, 116]⟩ : ByteArray), (⟨#[114, 101, 115, 117, 109, 101]⟩ : ByteArray), (⟨#[115, 119, 105, 116, 99, 104]⟩ : ByteArray), (⟨#[108, 101, 97, 115, 101]⟩ : ByteArray)] : List ByteArray) p0).bind fun v4 =>
   some v4))
 fun j1 =>
 AJ ((decide (p0 < 0)))
  (j1 true)
  (j1 (decide (8 ≤ p0)))
def DJ (_ : Nat) (p0 : Ab) : Option ((List Int)) :=
 AJ ((p0.fa == 1))
  (some (([p0.fA, p0.fB, p0.fF] : List Int)))
  (AJ ((p0.fa == 6))
   (some (([p0.fu, p0.fr, p0.fJ] : List Int)))
   (AJ ((p0.fa == 7))
    (some (([p0.fM, p0.fw] : List Int)))
    (some (([p0.fm, p0.fw] : List Int)))))
def Eo (_ : Nat) (p0 : Int) (p1 : Int) (p2 : List Int) : Option Ab :=
 A8 (fun (v1 : Int × Int × Int × Int × Int × Int × Int × Int × Int) =>
  some ((Ab.mk p0 p1 v1.1 v1.2.1 v1.2.2.1 v1.2.2.2.1 v1.2.2.2.2.1 v1.2.2.2.2.2.1 v1.2.2.2.2.2.2.1 v1.2.2.2.2.2.2.2.1 v1.2.2.2.2.2.2.2.2)))
 fun j1 =>
 AJ ((p1 == 1))
  ((Br p2 0).bind fun v3 =>
  (Br p2 1).bind fun v4 =>
  (Br p2 2).bind fun v5 =>
  j1 (v3, v4, v5, 0, 0, 0, 0, 0, 0))
  (AJ ((p1 == 6))
   ((Br p2 0).bind fun v7 =>
   (Br p2 1).bind fun v8 =>
   (Br p2 2).bind fun v9 =>
   j1 (0, 0, 0, 0, 0, v9, v7, v8, 0))
   (AJ ((p1 == 7))
    ((Br p2 0).bind fun v11 =>
    (Br p2 1).bind fun v12 =>
    j1 (0, 0, 0, 0, v12, 0, 0, 0, v11))
    ((Br p2 0).bind fun v13 =>
    (Br p2 1).bind fun v14 =>
    j1 (0, 0, 0, v13, v14, 0, 0, 0, 0))))
def AV (N : Nat) (p0 : List Int) (p1 : Int → Option Bool) (j1 : Unit → Option Int) : Nat → Int → Option Int
 | 0, _ => none
 | n1 + 1, v1 =>
  AJ ((decide (v1 < (p0.length : Int))))
   ((Br p0 v1).bind fun v4 =>
   (p1 v4).bind fun v5 =>
   AJ v5
    (some v1)
    (AV N p0 p1 j1 n1 (wI .i64 (v1 + 1))))
   (j1 ())
def Ch (N : Nat) (p0 : List Int) (p1 : Int → Option Bool) : Option Int :=
 AV N p0 p1 (fun (_ : Unit) =>
  some ((-1))) N 0
def Bf (N : Nat) (p0 : List Int) (p1 : Int → Option Bool) : Option Bool :=
 (Ch N p0 p1).bind fun v1 =>
 some ((decide (0 ≤ v1)))
def DQ (_ : Nat) (p0 : Int) : Option Bool :=
 some ((decide (p0 < 0)))
def E9 (N : Nat) (p0 : Ab) : Option Bool :=
 A8 (fun (v1 : Bool) =>
  AJ v1
   (some false)
   ((DJ N p0).bind fun v5 =>
   A8 (fun (v6 : Bool) =>
    some v6)
   fun j6 =>
   (Eo N p0.fi p0.fa v5).bind fun v7 =>
   AJ (((p0.fi == v7.fi) && ((p0.fa == v7.fa) && ((p0.fA == v7.fA) && ((p0.fB == v7.fB) && ((p0.fF == v7.fF) && ((p0.fm == v7.fm) && ((p0.fw == v7.fw) && ((p0.fJ == v7.fJ) && ((p0.fu == v7.fu) && ((p0.fr == v7.fr) && ((p0.fM == v7.fM) && true))))))))))))
    ((Bf N v5 ((fun (x : Int) => DQ N x))).bind fun v9 =>
    j6 (!v9))
    (j6 false)))
 fun j1 =>
 (EJ N p0.fa).bind fun v2 =>
 AJ ((v2.toList == ((⟨#[]⟩ : ByteArray)).toList))
  (j1 true)
  (j1 (decide (p0.fi < 0)))
def DI (N : Nat) (p0 : List Ab) (j2 : Unit → Option Int) : Nat → Int → Option Int
 | 0, _ => none
 | n2 + 1, v2 =>
  AJ ((decide (v2 < (p0.length : Int))))
   ((Br p0 v2).bind fun v5 =>
   A8 (fun (v6 : Bool) =>
    AJ v6
     (some 1)
     (DI N p0 j2 n2 (wI .i64 (v2 + 1))))
   fun j6 =>
   (E9 N v5).bind fun v7 =>
   AJ ((!v7))
    (j6 true)
    (AJ ((decide (0 < v2)))
     ((Br p0 ((wI .i64 (v2 - 1)))).bind fun v10 =>
     j6 (decide (v5.fi < v10.fi)))
     (j6 false)))
   (j2 ())
def Dv (N : Nat) (p0 : List Ab) : Option Int :=
 AJ ((decide (10000 < (p0.length : Int))))
  (some 3)
  (DI N p0 (fun (_ : Unit) =>
   some 0) N 0)
def ED (_ : Nat) : Option A9 :=
 some ((A9.mk 0 0 false (([] : List (Int × Int)))))
def Eh (_ : Nat) (p0 : Aa) (p1 : Ab) : Option Bool :=
 AJ ((decide ((p0.fd.length : Int) ≤ p1.fA)))
  (some false)
  ((Br p0.fd p1.fA).bind fun v2 =>
  A8 (fun (v3 : Bool) =>
   some v3)
  fun j3 =>
  AJ ((decide (p1.fB < (v2.fD.length : Int))))
   ((Br p0.fc v2.fC).bind fun v5 =>
   AJ ((decide (p1.fF < v5)))
    ((Br v2.fD p1.fB).bind fun v7 =>
    (Br v7 p1.fF).bind fun v8 =>
    j3 v8)
    (j3 false))
   (j3 false))
def C9 (_ : Nat) (p0 : Ab) : Option Bool :=
 A8 (fun (v1 : Bool) =>
  some v1)
 fun j1 =>
 AJ ((decide (2 ≤ p0.fa)))
  (j1 (decide (p0.fa ≤ 5)))
  (j1 false)
def BT (_ : Nat) (p0 : Ah) (p1 : Ab) : Option Bool :=
 A8 (fun (v1 : Bool) =>
  AJ v1
   (some false)
   (AJ ((p1.fa == 2))
    (some ((p0.fy == 0)))
    (AJ ((p1.fa == 3))
     (some ((p0.fy == 1)))
     (AJ ((p1.fa == 4))
      (A8 (fun (v7 : Bool) =>
       some v7)
      fun j7 =>
      AJ ((p0.fy == 1))
       ((Br p0.fq p0.fi).bind fun v9 =>
       j7 (v9.fa == 1))
       (j7 false))
      (some ((p0.fy == 2)))))))
 fun j1 =>
 AJ ((p1.fm != p0.fi))
  (j1 true)
  (j1 (decide ((p0.fq.length : Int) ≤ p0.fi)))
def De (N : Nat) (p0 : A9) (p1 : Ab) : Option (Bool × A9 × (List (Int × Int))) :=
 A8 (fun (v1 : (List (Int × Int)) × Int × Int × Bool) =>
  some (true, (A9.mk v1.2.1 v1.2.2.1 v1.2.2.2 v1.1), v1.1))
 fun j1 =>
 (C9 N p1).bind fun v2 =>
 AJ v2
  (AJ ((decide (p1.fw < p0.fE)))
   (some (false, p0, p0.fI))
   (j1 (p0.fI, p1.fw, p0.fG, p0.fH)))
  (AJ ((p1.fa == 6))
   (AJ ((decide (p1.fJ < ((Fz p1.fu p0.fI).getD 0))))
    (some (false, p0, p0.fI))
    (j1 (Iy p1.fu p1.fJ p0.fI, p0.fE, p0.fG, p0.fH)))
   (AJ ((p1.fa == 7))
    (A8 (fun (v8 : Bool) =>
     AJ v8
      (some (false, p0, p0.fI))
      (j1 (p0.fI, p0.fE, p1.fw, true)))
    fun j8 =>
    AJ p0.fH
     (j8 (decide (p1.fw ≤ p0.fG)))
     (j8 false))
    (j1 (p0.fI, p0.fE, p0.fG, p0.fH))))
def DH (N : Nat) (p0 : List Int) (j1 : Unit → Option Int) : Nat → (Int × Int) → Option Int
 | 0, _ => none
 | n1 + 1, v1 =>
  AJ ((decide (v1.2 < (p0.length : Int))))
   ((Br p0 v1.2).bind fun v4 =>
   AJ ((decide (v1.1 < v4)))
    (some v1.2)
    (DH N p0 j1 n1 ((wI .i64 (v1.1 - v4)), (wI .i64 (v1.2 + 1)))))
   (j1 ())
def Ep (N : Nat) (p0 : List Int) (p1 : Int) : Option Int :=
 DH N p0 (fun (_ : Unit) =>
  some ((-1))) N (p1, 0)
def Cm (_ : Nat) (p0 : Ae) (p1 : Int) (p2 : Int) : Option Bool :=
 A8 (fun (v1 : Bool) =>
  some v1)
 fun j1 =>
 (Br p0.fh p1).bind fun v2 =>
 AJ ((v2 == p2))
  (j1 true)
  ((Br p0.fe p1).bind fun v4 =>
  j1 (v4 == p2))
def DS (N : Nat) (p0 : Aa) (p1 : Ae) (p2 : Ab) : Option Bool :=
 (Br p0.fd p2.fA).bind fun v1 =>
 (Cm N p1 v1.fC p2.fF).bind fun v2 =>
 AJ ((!v2))
  (some false)
  (A8 (fun (v4 : Bool) =>
   AJ v4
    ((Br p1.ff p2.fA).bind fun v7 =>
    (EY (0 ≤ p2.fB)).bind fun _ =>
    some (((FB .u8 ((FM .u8 v7 p2.fB)) 1) == 1)))
    ((Cm N p1 v1.fj p2.fB).bind fun v9 =>
    some v9))
  fun j4 =>
  AJ ((v1.fa == 3))
   (j4 true)
   (j4 (v1.fa == 4)))
def Fs (N : Nat) (p0 : Aa) (p1 : Ae) (p2 : Al) : Option (Ae × Int) :=
 (Fc N p0 p1).bind fun v1 =>
 AJ ((v1 != 0))
  (some ((Ae.mk (([] : List Int)) (([] : List Int)) (([] : List Int))), v1))
  ((EL N p0 p1 p2).bind fun v3 =>
  some (v3.1, v3.2))
def B0 (N : Nat) (p0 : Ah) (p1 : Al) : Option Ah :=
 (Fs N ((Aa.mk p0.fb.fc p0.fb.fk p0.fb.fp p0.fb.fd)) ((Ae.mk p0.fg.fh p0.fg.fe p0.fg.ff)) p1).bind fun v1 =>
 AJ ((v1.2 == 0))
  (some ((Ah.mk ((Aa.mk p0.fb.fc p0.fb.fk p0.fb.fp p0.fb.fd)) p0.fq p0.fi p0.fy v1.1)))
  (some ((Ah.mk ((Aa.mk p0.fb.fc p0.fb.fk p0.fb.fp p0.fb.fd)) p0.fq p0.fi p0.fy ((Ae.mk p0.fg.fh p0.fg.fe p0.fg.ff)))))
def BN (N : Nat) (p0 : Ah) (p1 : Ab) : Option Ah :=
 (Br p0.fq p0.fi).bind fun v1 =>
 AJ ((p1.fa == 2))
  (AJ ((v1.fa == 1))
   ((B0 N ((Ah.mk ((Aa.mk p0.fb.fc p0.fb.fk p0.fb.fp p0.fb.fd)) p0.fq p0.fi 1 ((Ae.mk p0.fg.fh p0.fg.fe p0.fg.ff)))) v1).bind fun v4 =>
   some ((Ah.mk ((Aa.mk v4.fb.fc v4.fb.fk v4.fb.fp v4.fb.fd)) v4.fq v4.fi v4.fy ((Ae.mk v4.fg.fh v4.fg.fe v4.fg.ff)))))
   (some ((Ah.mk ((Aa.mk p0.fb.fc p0.fb.fk p0.fb.fp p0.fb.fd)) p0.fq p0.fi 1 ((Ae.mk p0.fg.fh p0.fg.fe p0.fg.ff))))))
  (AJ ((p1.fa == 3))
   (A8 (fun (v6 : Ah) =>
    some ((Ah.mk ((Aa.mk v6.fb.fc v6.fb.fk v6.fb.fp v6.fb.fd)) v6.fq ((wI .i64 (v6.fi + 1))) 0 ((Ae.mk v6.fg.fh v6.fg.fe v6.fg.ff)))))
   fun j6 =>
   AJ ((v1.fa != 1))
    ((B0 N ((Ah.mk ((Aa.mk p0.fb.fc p0.fb.fk p0.fb.fp p0.fb.fd)) p0.fq p0.fi p0.fy ((Ae.mk p0.fg.fh p0.fg.fe p0.fg.ff)))) v1).bind fun v8 =>
    j6 (Ah.mk ((Aa.mk v8.fb.fc v8.fb.fk v8.fb.fp v8.fb.fd)) v8.fq v8.fi v8.fy ((Ae.mk v8.fg.fh v8.fg.fe v8.fg.ff))))
    (j6 (Ah.mk ((Aa.mk p0.fb.fc p0.fb.fk p0.fb.fp p0.fb.fd)) p0.fq p0.fi p0.fy ((Ae.mk p0.fg.fh p0.fg.fe p0.fg.ff)))))
   (AJ ((p1.fa == 4))
    (some ((Ah.mk ((Aa.mk p0.fb.fc p0.fb.fk p0.fb.fp p0.fb.fd)) p0.fq p0.fi 2 ((Ae.mk p0.fg.fh p0.fg.fe p0.fg.ff)))))
    (AJ ((p1.fa == 5))
     ((B0 N ((Ah.mk ((Aa.mk p0.fb.fc p0.fb.fk p0.fb.fp p0.fb.fd)) p0.fq p0.fi 0 ((Ae.mk p0.fg.fh p0.fg.fe p0.fg.ff)))) ((Al.mk 4 v1.fm 0))).bind fun v11 =>
     some ((Ah.mk ((Aa.mk v11.fb.fc v11.fb.fk v11.fb.fp v11.fb.fd)) v11.fq v11.fi v11.fy ((Ae.mk v11.fg.fh v11.fg.fe v11.fg.ff)))))
     (some ((Ah.mk ((Aa.mk p0.fb.fc p0.fb.fk p0.fb.fp p0.fb.fd)) p0.fq p0.fi p0.fy ((Ae.mk p0.fg.fh p0.fg.fe p0.fg.ff))))))))
def Di (N : Nat) (p0 : Ah) (p1 : A9) (p2 : List Int) (p3 : Ab) : Option (Int × Ah × A9 × (List (Int × Int))) :=
 A8 (fun (v1 : (List (Int × Int)) × Ah × Int × Int × Bool) =>
  some (0, (Ah.mk ((Aa.mk v1.2.1.fb.fc v1.2.1.fb.fk v1.2.1.fb.fp v1.2.1.fb.fd)) v1.2.1.fq v1.2.1.fi v1.2.1.fy ((Ae.mk v1.2.1.fg.fh v1.2.1.fg.fe v1.2.1.fg.ff))), (A9.mk v1.2.2.1 v1.2.2.2.1 v1.2.2.2.2 v1.1), v1.1))
 fun j1 =>
 A8 (fun (v2 : Bool) =>
  AJ v2
   (some (1, (Ah.mk ((Aa.mk p0.fb.fc p0.fb.fk p0.fb.fp p0.fb.fd)) p0.fq p0.fi p0.fy ((Ae.mk p0.fg.fh p0.fg.fe p0.fg.ff))), p1, p1.fI))
   (A8 (fun (v6 : Bool) =>
    AJ v6
     (some (2, (Ah.mk ((Aa.mk p0.fb.fc p0.fb.fk p0.fb.fp p0.fb.fd)) p0.fq p0.fi p0.fy ((Ae.mk p0.fg.fh p0.fg.fe p0.fg.ff))), p1, p1.fI))
     ((De N p1 p3).bind fun v11 =>
     AJ ((!v11.1))
      (some (3, (Ah.mk ((Aa.mk p0.fb.fc p0.fb.fk p0.fb.fp p0.fb.fd)) p0.fq p0.fi p0.fy ((Ae.mk p0.fg.fh p0.fg.fe p0.fg.ff))), (A9.mk v11.2.1.fE v11.2.1.fG v11.2.1.fH v11.2.2), v11.2.2))
      (AJ ((p3.fa == 6))
       ((Ep N p2 p3.fu).bind fun v14 =>
       A8 (fun (v15 : Bool) =>
        AJ v15
         (some (4, (Ah.mk ((Aa.mk p0.fb.fc p0.fb.fk p0.fb.fp p0.fb.fd)) p0.fq p0.fi p0.fy ((Ae.mk p0.fg.fh p0.fg.fe p0.fg.ff))), (A9.mk v11.2.1.fE v11.2.1.fG v11.2.1.fH v11.2.2), v11.2.2))
         (j1 (v11.2.2, (Ah.mk ((Aa.mk p0.fb.fc p0.fb.fk p0.fb.fp p0.fb.fd)) p0.fq p0.fi p0.fy ((Ae.mk p0.fg.fh p0.fg.fe p0.fg.ff))), v11.2.1.fE, v11.2.1.fG, v11.2.1.fH)))
       fun j15 =>
       AJ ((decide (v14 < 0)))
        (j15 true)
        ((Cm N ((Ae.mk p0.fg.fh p0.fg.fe p0.fg.ff)) v14 p3.fr).bind fun v17 =>
        j15 (!v17)))
       (AJ ((p3.fa == 1))
        ((DS N ((Aa.mk p0.fb.fc p0.fb.fk p0.fb.fp p0.fb.fd)) ((Ae.mk p0.fg.fh p0.fg.fe p0.fg.ff)) p3).bind fun v20 =>
        AJ ((!v20))
         (some (5, (Ah.mk ((Aa.mk p0.fb.fc p0.fb.fk p0.fb.fp p0.fb.fd)) p0.fq p0.fi p0.fy ((Ae.mk p0.fg.fh p0.fg.fe p0.fg.ff))), (A9.mk v11.2.1.fE v11.2.1.fG v11.2.1.fH v11.2.2), v11.2.2))
         (j1 (v11.2.2, (Ah.mk ((Aa.mk p0.fb.fc p0.fb.fk p0.fb.fp p0.fb.fd)) p0.fq p0.fi p0.fy ((Ae.mk p0.fg.fh p0.fg.fe p0.fg.ff))), v11.2.1.fE, v11.2.1.fG, v11.2.1.fH)))
        ((C9 N p3).bind fun v22 =>
        AJ v22
         ((BN N ((Ah.mk ((Aa.mk p0.fb.fc p0.fb.fk p0.fb.fp p0.fb.fd)) p0.fq p0.fi p0.fy ((Ae.mk p0.fg.fh p0.fg.fe p0.fg.ff)))) p3).bind fun v24 =>
         j1 (v11.2.2, (Ah.mk ((Aa.mk v24.fb.fc v24.fb.fk v24.fb.fp v24.fb.fd)) v24.fq v24.fi v24.fy ((Ae.mk v24.fg.fh v24.fg.fe v24.fg.ff))), v11.2.1.fE, v11.2.1.fG, v11.2.1.fH))
         (j1 (v11.2.2, (Ah.mk ((Aa.mk p0.fb.fc p0.fb.fk p0.fb.fp p0.fb.fd)) p0.fq p0.fi p0.fy ((Ae.mk p0.fg.fh p0.fg.fe p0.fg.ff))), v11.2.1.fE, v11.2.1.fG, v11.2.1.fH)))))))
   fun j6 =>
   (C9 N p3).bind fun v7 =>
   AJ v7
    ((BT N ((Ah.mk ((Aa.mk p0.fb.fc p0.fb.fk p0.fb.fp p0.fb.fd)) p0.fq p0.fi p0.fy ((Ae.mk p0.fg.fh p0.fg.fe p0.fg.ff)))) p3).bind fun v9 =>
    j6 (!v9))
    (j6 false)))
 fun j2 =>
 AJ ((p3.fa == 1))
  ((Eh N ((Aa.mk p0.fb.fc p0.fb.fk p0.fb.fp p0.fb.fd)) p3).bind fun v4 =>
  j2 (!v4))
  (j2 false)
def Dl (N : Nat) (p1 : List Int) (p3 : List Ab) (j11 : Ah → Option (Int × Int × (Option Ah) × Int)) : Nat → (Ah × Int × Int × Bool × (List (Int × Int)) × Int) → Option (Int × Int × (Option Ah) × Int)
 | 0, _ => none
 | n11 + 1, v11 =>
  AJ ((decide (v11.2.2.2.2.2 < (p3.length : Int))))
   ((Br p3 v11.2.2.2.2.2).bind fun v14 =>
   (Di N ((Ah.mk ((Aa.mk v11.1.fb.fc v11.1.fb.fk v11.1.fb.fp v11.1.fb.fd)) v11.1.fq v11.1.fi v11.1.fy ((Ae.mk v11.1.fg.fh v11.1.fg.fe v11.1.fg.ff)))) ((A9.mk v11.2.1 v11.2.2.1 v11.2.2.2.1 v11.2.2.2.2.1)) p1 v14).bind fun v15 =>
   AJ ((v15.1 != 0))
    (some (v11.2.2.2.2.2, v15.1, (none : Option Ah), 0))
    (Dl N p1 p3 j11 n11 ((Ah.mk ((Aa.mk v15.2.1.fb.fc v15.2.1.fb.fk v15.2.1.fb.fp v15.2.1.fb.fd)) v15.2.1.fq v15.2.1.fi v15.2.1.fy ((Ae.mk v15.2.1.fg.fh v15.2.1.fg.fe v15.2.1.fg.ff))), v15.2.2.1.fE, v15.2.2.1.fG, v15.2.2.1.fH, v15.2.2.2, (wI .i64 (v11.2.2.2.2.2 + 1)))))
   (j11 (Ah.mk ((Aa.mk v11.1.fb.fc v11.1.fb.fk v11.1.fb.fp v11.1.fb.fd)) v11.1.fq v11.1.fi v11.1.fy ((Ae.mk v11.1.fg.fh v11.1.fg.fe v11.1.fg.ff))))
def E4 (N : Nat) (p0 : Aa) (p1 : List Int) (p2 : List Al) (p3 : List Ab) : Option (Int × Int × (Option Ah) × Int) :=
 (BQ N p0).bind fun v1 =>
 AJ ((v1 != 0))
  (some (0, 0, (none : Option Ah), v1))
  ((Et N p0 p1).bind fun v3 =>
  AJ ((v3 != 0))
   (some (0, 0, (none : Option Ah), v3))
   ((Dj N p0 p2).bind fun v5 =>
   A8 (fun (v6 : Int) =>
    AJ ((v6 != 0))
     (some (0, 0, (none : Option Ah), v6))
     ((ED N).bind fun v10 =>
     Dl N p1 p3 (fun (v12 : Ah) =>
      some (0, 0, (some ((Ah.mk ((Aa.mk v12.fb.fc v12.fb.fk v12.fb.fp v12.fb.fd)) v12.fq v12.fi v12.fy ((Ae.mk v12.fg.fh v12.fg.fe v12.fg.ff))))), 15)) N ((Ah.mk p0 p2 0 0 v5.1), v10.fE, v10.fG, v10.fH, v10.fI, 0)))
   fun j6 =>
   AJ ((v5.2 == 0))
    ((Dv N p3).bind fun v8 =>
    j6 v8)
    (j6 v5.2)))
def Bl (N : Nat) (p0 : Aa) (p1 : List Int) (p2 : List Al) (p3 : List Ab) : Option (Int × Int × Int) :=
 (E4 N p0 p1 p2 p3).bind fun v1 =>
 some (v1.1, v1.2.1, v1.2.2.2)
def Ea (N : Nat) (p2 : List Ab) (j8 : Ah → Option ((Option Ah) × Int × Int)) : Nat → (Ah × Int) → Option ((Option Ah) × Int × Int)
 | 0, _ => none
 | n8 + 1, v8 =>
  AJ ((decide (v8.2 < (p2.length : Int))))
   (A8 (fun (v11 : Ah) =>
    Ea N p2 j8 n8 ((Ah.mk ((Aa.mk v11.fb.fc v11.fb.fk v11.fb.fp v11.fb.fd)) v11.fq v11.fi v11.fy ((Ae.mk v11.fg.fh v11.fg.fe v11.fg.ff))), (wI .i64 (v8.2 + 1))))
   fun j11 =>
   (Br p2 v8.2).bind fun v12 =>
   (C9 N v12).bind fun v13 =>
   AJ ((!v13))
    (j11 (Ah.mk ((Aa.mk v8.1.fb.fc v8.1.fb.fk v8.1.fb.fp v8.1.fb.fd)) v8.1.fq v8.1.fi v8.1.fy ((Ae.mk v8.1.fg.fh v8.1.fg.fe v8.1.fg.ff))))
    ((BT N ((Ah.mk ((Aa.mk v8.1.fb.fc v8.1.fb.fk v8.1.fb.fp v8.1.fb.fd)) v8.1.fq v8.1.fi v8.1.fy ((Ae.mk v8.1.fg.fh v8.1.fg.fe v8.1.fg.ff)))) v12).bind fun v15 =>
    AJ ((!v15))
     (some ((some ((Ah.mk ((Aa.mk v8.1.fb.fc v8.1.fb.fk v8.1.fb.fp v8.1.fb.fd)) v8.1.fq v8.1.fi v8.1.fy ((Ae.mk v8.1.fg.fh v8.1.fg.fe v8.1.fg.ff))))), v8.2, 0))
     ((BN N ((Ah.mk ((Aa.mk v8.1.fb.fc v8.1.fb.fk v8.1.fb.fp v8.1.fb.fd)) v8.1.fq v8.1.fi v8.1.fy ((Ae.mk v8.1.fg.fh v8.1.fg.fe v8.1.fg.ff)))) v12).bind fun v17 =>
     j11 (Ah.mk ((Aa.mk v17.fb.fc v17.fb.fk v17.fb.fp v17.fb.fd)) v17.fq v17.fi v17.fy ((Ae.mk v17.fg.fh v17.fg.fe v17.fg.ff))))))
   (j8 (Ah.mk ((Aa.mk v8.1.fb.fc v8.1.fb.fk v8.1.fb.fp v8.1.fb.fd)) v8.1.fq v8.1.fi v8.1.fy ((Ae.mk v8.1.fg.fh v8.1.fg.fe v8.1.fg.ff))))
def FQ (N : Nat) (p0 : Aa) (p1 : List Al) (p2 : List Ab) : Option ((Option Ah) × Int × Int) :=
 (BQ N p0).bind fun v1 =>
 AJ ((v1 != 0))
  (some ((none : Option Ah), 0, v1))
  ((Dj N p0 p1).bind fun v3 =>
  A8 (fun (v4 : Int) =>
   AJ ((v4 != 0))
    (some ((none : Option Ah), 0, v4))
    (Ea N p2 (fun (v9 : Ah) =>
     some ((some ((Ah.mk ((Aa.mk v9.fb.fc v9.fb.fk v9.fb.fp v9.fb.fd)) v9.fq v9.fi v9.fy ((Ae.mk v9.fg.fh v9.fg.fe v9.fg.ff))))), (-1), 0)) N ((Ah.mk p0 p1 0 0 v3.1), 0)))
  fun j4 =>
  AJ ((v3.2 == 0))
   ((Dv N p2).bind fun v6 =>
   j4 v6)
   (j4 v3.2))
def H3 (N : Nat) (p0 : Aa) (p1 : List Al) (p2 : List Ab) : Option (Ae × Int) :=
 (FQ N p0 p1 p2).bind fun v1 =>
 AJ ((v1.2.2 != 0))
  (some ((Ae.mk (([] : List Int)) (([] : List Int)) (([] : List Int))), v1.2.2))
  (AJ ((decide (0 ≤ v1.2.1)))
   (some ((Ae.mk (([] : List Int)) (([] : List Int)) (([] : List Int))), 11))
   (v1.1.bind fun v4 =>
   some ((Ae.mk v4.fg.fh v4.fg.fe v4.fg.ff), 0)))
def E5 (_ : Nat) (p0 p1 : Int) : Option ByteArray := (EY (p1 = 10)).bind fun _ => MJ p0
def Fa (N : Nat) (v5 : (List Int)) (j6 : ByteArray → Option ByteArray) : Nat → (ByteArray × Int) → Option ByteArray
 | 0, _ => none
 | n6 + 1, v6 =>
  AJ ((decide (v6.2 < (v5.length : Int))))
   ((Br v5 v6.2).bind fun v9 =>
   (E5 N v9 10).bind fun v10 =>
   (EY (((⟨#[32]⟩ : ByteArray)).size + v10.size ≤ 9223372036854775807)).bind fun _ =>
   (EY (v6.1.size + (((⟨#[32]⟩ : ByteArray) ++ v10)).size ≤ 9223372036854775807)).bind fun _ =>
   Fa N v5 j6 n6 ((v6.1 ++ ((⟨#[32]⟩ : ByteArray) ++ v10)), (wI .i64 (v6.2 + 1))))
   (j6 v6.1)
def EM (N : Nat) (p0 : Ab) : Option ByteArray :=
 (E5 N p0.fi 10).bind fun v1 =>
 (EY (v1.size + ((⟨#[32]⟩ : ByteArray)).size ≤ 9223372036854775807)).bind fun _ =>
 (EJ N p0.fa).bind fun v3 =>
 (EY (((v1 ++ (⟨#[32]⟩ : ByteArray))).size + v3.size ≤ 9223372036854775807)).bind fun _ =>
 (DJ N p0).bind fun v5 =>
 Fa N v5 (fun (v7 : ByteArray) =>
  (EY (v7.size + ((⟨#[10]⟩ : ByteArray)).size ≤ 9223372036854775807)).bind fun _ =>
  some ((v7 ++ (⟨#[10]⟩ : ByteArray)))) N (((v1 ++ (⟨#[32]⟩ : ByteArray)) ++ v3), 0)
def Ed (line : Ab → Option ByteArray) : List Ab → ByteArray → Option ByteArray
 | [], a => some a
 | x :: xs, a => (line x).bind fun s => (EY (a.size + s.size ≤ 140737488355328)).bind fun _ => Ed line xs (a ++ s)
def Ig (N : Nat) (p0 : List Ab) : Option (ByteArray × Int) :=
 (EY (p0.length ≤ 1000000)).bind fun _ =>
 (Dv N p0).bind fun v1 =>
 AJ (v1 != 0)
  (some (⟨#[]⟩, v1))
  ((Ed (fun x => EM N x) p0 ⟨#[]⟩).bind fun s =>
  AJ (decide (65536 < s.size)) (some (⟨#[]⟩, 3)) (some (s, 0)))
def HG (_ : Nat) (p0 : Int) : Option ByteArray :=
 (Br (([(⟨#[]⟩ : ByteArray), (⟨#[114, 101, 97, 100]⟩ : ByteArray), (⟨#[111, 114, 100, 101, 114]⟩ : ByteArray), (⟨#[116, 111, 107, 101, 110]⟩ : ByteArray), (⟨#[115, 119, 105, 116, 99, 104]⟩ : ByteArray), (⟨#[109, 105, 120]⟩ : ByteArray)] : List ByteArray)) p0).bind fun v1 =>
 some v1
def If (_ : Nat) (p0 : Int) : Option ByteArray := MJ p0
def CQ (_ : Nat) (p0 : ByteArray) (p1 : ByteArray) : Option Bool :=
 A8 (fun (v1 : Bool) =>
  some v1)
 fun j1 =>
 AJ ((decide ((p1.size : Int) ≤ (p0.size : Int))))
  ((EY ((0 : Int) ≤ (wI .i64 ((p0.size : Int) - (p1.size : Int))) ∧ ((wI .i64 ((p0.size : Int) - (p1.size : Int)))).toNat ≤ p0.size ∧ p0.size ≤ p0.size)).bind fun _ =>
  j1 (((p0.extract (((wI .i64 ((p0.size : Int) - (p1.size : Int)))).toNat) p0.size)).toList == p1.toList))
  (j1 false)
def CE (N : Nat) (p0 : ByteArray) (p1 : ByteArray) : Option ByteArray :=
 (CQ N p0 p1).bind fun v1 =>
 AJ v1
  ((EY ((0 : Int) ≤ (wI .i64 ((p0.size : Int) - (p1.size : Int))) ∧ 0 ≤ ((wI .i64 ((p0.size : Int) - (p1.size : Int)))).toNat ∧ ((wI .i64 ((p0.size : Int) - (p1.size : Int)))).toNat ≤ p0.size)).bind fun _ =>
  some ((p0.extract 0 (((wI .i64 ((p0.size : Int) - (p1.size : Int)))).toNat))))
  (some p0)
def ES (N : Nat) (p0 : ByteArray) (p1 : ByteArray) : Option ByteArray :=
 (CE N p0 p1).bind fun v1 =>
 some v1
def GC (N : Nat) (p0 : List Ab) (p1 : Int) (p2 : Int) : Option (ByteArray × Int) :=
 (Dv N p0).bind fun v1 =>
 AJ ((v1 != 0))
  (some ((⟨#[]⟩ : ByteArray), v1))
  (A8 (fun (v3 : Bool) =>
   AJ v3
    (some ((⟨#[]⟩ : ByteArray), 7))
    (A8 (fun (v6 : Bool) =>
     AJ v6
      (some ((⟨#[]⟩ : ByteArray), 1))
      ((EY ((0 : Int) ≤ p1 ∧ (0 : Int) ≤ (wI .i64 (p1 + 1)) ∧ (p1).toNat ≤ ((wI .i64 (p1 + 1))).toNat ∧ ((wI .i64 (p1 + 1))).toNat ≤ p0.length)).bind fun _ =>
      (Ig N (((p0.drop (p1).toNat).take (((wI .i64 (p1 + 1))).toNat - (p1).toNat)))).bind fun v10 =>
      AJ ((v10.2 != 0))
       (some ((⟨#[]⟩ : ByteArray), v10.2))
       ((HG N p2).bind fun v12 =>
       (EY (v12.size + ((⟨#[32]⟩ : ByteArray)).size ≤ 9223372036854775807)).bind fun _ =>
       (If N p1).bind fun v14 =>
       (EY (((v12 ++ (⟨#[32]⟩ : ByteArray))).size + v14.size ≤ 9223372036854775807)).bind fun _ =>
       (EY ((((v12 ++ (⟨#[32]⟩ : ByteArray)) ++ v14)).size + ((⟨#[58, 32]⟩ : ByteArray)).size ≤ 9223372036854775807)).bind fun _ =>
       (ES N v10.1 ((⟨#[10]⟩ : ByteArray))).bind fun v17 =>
       (EY (((((v12 ++ (⟨#[32]⟩ : ByteArray)) ++ v14) ++ (⟨#[58, 32]⟩ : ByteArray))).size + v17.size ≤ 9223372036854775807)).bind fun _ =>
       some (((((v12 ++ (⟨#[32]⟩ : ByteArray)) ++ v14) ++ (⟨#[58, 32]⟩ : ByteArray)) ++ v17), 0))))
    fun j6 =>
    AJ ((decide (p2 < 1)))
     (j6 true)
     (j6 (decide (5 < p2)))))
  fun j3 =>
  AJ ((decide (p1 < 0)))
   (j3 true)
   (j3 (decide ((p0.length : Int) ≤ p1))))
def Du (N : Nat) : Option Bool :=
 (EY ((0 : Int) ≤ 3 ∧ 0 ≤ (3 : Int).toNat ∧ (3 : Int).toNat ≤ (([(Ab.mk 0 7 0 0 0 0 1 0 0 0 0), (Ab.mk 0 2 0 0 0 0 1 0 0 0 0), (Ab.mk 1 6 0 0 0 0 0 1 0 1 0), (Ab.mk 2 3 0 0 0 1 1 0 0 0 0)] : List Ab)).length)).bind fun _ =>
 (Bl N ((Aa.mk (([2] : List Int)) (([0] : List Int)) (([1] : List Int)) (([] : List AI)))) (([1] : List Int)) (([(Al.mk 1 0 1), (Al.mk 2 0 0)] : List Al)) ((((([(Ab.mk 0 7 0 0 0 0 1 0 0 0 0), (Ab.mk 0 2 0 0 0 0 1 0 0 0 0), (Ab.mk 1 6 0 0 0 0 0 1 0 1 0), (Ab.mk 2 3 0 0 0 1 1 0 0 0 0)] : List Ab)).drop 0).take ((3 : Int).toNat - 0)))).bind fun v2 =>
 (EY ((0 : Int) ≤ 3 ∧ 0 ≤ (3 : Int).toNat ∧ (3 : Int).toNat ≤ (([(Ab.mk 0 7 0 0 0 0 1 0 0 0 0), (Ab.mk 0 2 0 0 0 0 1 0 0 0 0), (Ab.mk 1 6 0 0 0 0 0 1 0 1 0), (Ab.mk 2 3 0 0 0 1 1 0 0 0 0)] : List Ab)).length)).bind fun _ =>
 (H3 N ((Aa.mk (([2] : List Int)) (([0] : List Int)) (([1] : List Int)) (([] : List AI)))) (([(Al.mk 1 0 1), (Al.mk 2 0 0)] : List Al)) ((((([(Ab.mk 0 7 0 0 0 0 1 0 0 0 0), (Ab.mk 0 2 0 0 0 0 1 0 0 0 0), (Ab.mk 1 6 0 0 0 0 0 1 0 1 0), (Ab.mk 2 3 0 0 0 1 1 0 0 0 0)] : List Ab)).drop 0).take ((3 : Int).toNat - 0)))).bind fun v4 =>
 (Bl N ((Aa.mk (([2] : List Int)) (([0] : List Int)) (([1] : List Int)) (([] : List AI)))) (([1] : List Int)) (([(Al.mk 1 0 1), (Al.mk 2 0 0)] : List Al)) (([(Ab.mk 0 7 0 0 0 0 1 0 0 0 0), (Ab.mk 0 2 0 0 0 0 1 0 0 0 0), (Ab.mk 1 6 0 0 0 0 0 1 0 1 0), (Ab.mk 2 3 0 0 0 1 1 0 0 0 0)] : List Ab))).bind fun v5 =>
 (GC N (([(Ab.mk 0 7 0 0 0 0 1 0 0 0 0), (Ab.mk 0 2 0 0 0 0 1 0 0 0 0), (Ab.mk 1 6 0 0 0 0 0 1 0 1 0), (Ab.mk 2 3 0 0 0 1 1 0 0 0 0)] : List Ab)) 3 2).bind fun v6 =>
 A8 (fun (v7 : Bool) =>
  some v7)
 fun j7 =>
 AJ ((v2.2.2 == 15))
  (AJ ((v4.2 == 0))
   (AJ ((v5.2.2 == 0))
    (AJ ((v6.2 == 0))
     (AJ (((v4.1.fe.length : Int) == 1))
      ((Br v4.1.fe 0).bind fun v13 =>
      AJ ((v13 == 1))
       (AJ ((v5.1 == 3))
        (AJ ((v5.2.1 == 2))
         (j7 (v6.1.toList == ((⟨#[111, 114, 100, 101, 114, 32, 51, 58, 32, 50, 32, 100, 111, 110, 101, 32, 49, 32, 49]⟩ : ByteArray)).toList))
         (j7 false))
        (j7 false))
       (j7 false))
      (j7 false))
     (j7 false))
    (j7 false))
   (j7 false))
  (j7 false)
def BL (N : Nat) (p0 : Aa) (v6 : Int) (j14 : Unit → Option Bool) : Nat → Int → Option Bool
 | 0, _ => none
 | n14 + 1, v14 =>
  (Br p0.fd v6).bind fun v16 =>
  AJ ((decide (v14 < (v16.fD.length : Int))))
   ((Br p0.fd v6).bind fun v18 =>
   (Br v18.fD v14).bind fun v19 =>
   AJ ((decide (8 < (v19.length : Int))))
    (some false)
    (BL N p0 v6 j14 n14 (wI .i64 (v14 + 1))))
   (j14 ())
def BK (N : Nat) (p0 : Aa) (v6 : Int) (j21 : Unit → Option Bool) : Nat → Int → Option Bool
 | 0, _ => none
 | n21 + 1, v21 =>
  (Br p0.fd v6).bind fun v23 =>
  AJ ((decide (v21 < (v23.fv.length : Int))))
   ((Br p0.fd v6).bind fun v25 =>
   (Br v25.fv v21).bind fun v26 =>
   AJ ((decide (8 < (v26.length : Int))))
    (some false)
    (BK N p0 v6 j21 n21 (wI .i64 (v21 + 1))))
   (j21 ())
def Cx (N : Nat) (p0 : Aa) (j6 : Unit → Option Bool) : Nat → Int → Option Bool
 | 0, _ => none
 | n6 + 1, v6 =>
  AJ ((decide (v6 < (p0.fd.length : Int))))
   (A8 (fun (v9 : Bool) =>
    AJ v9
     (some false)
     (BL N p0 v6 (fun (_ : Unit) =>
      BK N p0 v6 (fun (_ : Unit) =>
       Cx N p0 j6 n6 (wI .i64 (v6 + 1))) N 0) N 0))
   fun j9 =>
   (Br p0.fd v6).bind fun v10 =>
   AJ ((decide (8 < (v10.fD.length : Int))))
    (j9 true)
    ((Br p0.fd v6).bind fun v12 =>
    j9 (decide (8 < (v12.fv.length : Int)))))
   (j6 ())
def Dh (N : Nat) (p0 : Aa) : Option Bool :=
 A8 (fun (v1 : Bool) =>
  AJ v1
   (some false)
   (Cx N p0 (fun (_ : Unit) =>
    some true) N 0))
 fun j1 =>
 AJ ((decide (8 < (p0.fc.length : Int))))
  (j1 true)
  (AJ ((decide (8 < (p0.fk.length : Int))))
   (j1 true)
   (AJ ((decide (8 < (p0.fp.length : Int))))
    (j1 true)
    (j1 (decide (14 < (p0.fd.length : Int))))))
def Cj (N : Nat) (p0 : BB) : Option Bool :=
 A8 (fun (v1 : Bool) =>
  some v1)
 fun j1 =>
 (Dh N ((Aa.mk p0.fb.fc p0.fb.fk p0.fb.fp p0.fb.fd))).bind fun v2 =>
 AJ v2
  (AJ ((decide ((p0.fK.length : Int) ≤ 8)))
   (AJ ((decide ((p0.fq.length : Int) ≤ 20)))
    (j1 (decide ((p0.ft.length : Int) ≤ 80)))
    (j1 false))
   (j1 false))
  (j1 false)
def A5 (_ : Nat) (p0 : AI) : Option Bool :=
 A8 (fun (v1 : Bool) =>
  some v1)
 fun j1 =>
 AJ ((p0.fa == 3))
  (j1 true)
  (j1 (p0.fa == 4))
def BM (N : Nat) (p0 : List (List Bool)) (p1 : Int) (p2 : Int) (j2 : Unit → Option Bool) : Nat → Int → Option Bool
 | 0, _ => none
 | n2 + 1, v2 =>
  AJ ((decide (v2 < p1)))
   ((Br p0 v2).bind fun v5 =>
   AJ (((v5.length : Int) != p2))
    (some false)
    (BM N p0 p1 p2 j2 n2 (wI .i64 (v2 + 1))))
   (j2 ())
def Cy (N : Nat) (p0 : List (List Bool)) (p1 : Int) (p2 : Int) : Option Bool :=
 AJ (((p0.length : Int) != p1))
  (some false)
  (BM N p0 p1 p2 (fun (_ : Unit) =>
   some true) N 0)
def By (N : Nat) (p1 : AI) (j22 : Unit → Option Int) : Nat → Int → Option Int
 | 0, _ => none
 | n22 + 1, v22 =>
  AJ ((decide (v22 < (p1.fv.length : Int))))
   ((Br p1.fv v22).bind fun v25 =>
   (Br v25 v22).bind fun v26 =>
   AJ ((!v26))
    (some 1)
    (By N p1 j22 n22 (wI .i64 (v22 + 1))))
   (j22 ())
def Dq (N : Nat) (p0 : Aa) (p1 : AI) : Option Int :=
 A8 (fun (v1 : Bool) =>
  AJ v1
   (some 1)
   (A8 (fun (v7 : Bool) =>
    AJ v7
     (some 4)
     ((Br p0.fc p1.fj).bind fun v12 =>
     (Br p0.fc p1.fC).bind fun v13 =>
     (Cy N p1.fD v12 v13).bind fun v14 =>
     AJ ((!v14))
      (some 6)
      (AJ ((p1.fa != 4))
       (AJ (((p1.fv.length : Int) != 0))
        (some 6)
        (some 0))
       ((Br p0.fc p1.fj).bind fun v18 =>
       (Br p0.fc p1.fj).bind fun v19 =>
       (Cy N p1.fv v18 v19).bind fun v20 =>
       AJ ((!v20))
        (some 6)
        (By N p1 (fun (_ : Unit) =>
         some 0) N 0)))))
   fun j7 =>
   AJ ((decide (p1.fj < 0)))
    (j7 true)
    (AJ ((decide ((p0.fc.length : Int) ≤ p1.fj)))
     (j7 true)
     (AJ ((decide (p1.fC < 0)))
      (j7 true)
      (j7 (decide ((p0.fc.length : Int) ≤ p1.fC)))))))
 fun j1 =>
 AJ ((decide (p1.fa < 1)))
  (j1 true)
  (AJ ((decide (4 < p1.fa)))
   (j1 true)
   (AJ p1.fQ
    ((A5 N p1).bind fun v5 =>
    j1 v5)
    (j1 false)))
def AY (N : Nat) (p0 : Aa) (j7 : Unit → Option Int) : Nat → Int → Option Int
 | 0, _ => none
 | n7 + 1, v7 =>
  AJ ((decide (v7 < (p0.fc.length : Int))))
   ((Br p0.fc v7).bind fun v10 =>
   A8 (fun (v11 : Bool) =>
    AJ v11
     (some 7)
     (AY N p0 j7 n7 (wI .i64 (v7 + 1))))
   fun j11 =>
   AJ ((decide (v10 < 1)))
    (j11 true)
    (AJ ((decide (6 < v10)))
     (j11 true)
     ((Br p0.fk v7).bind fun v14 =>
     AJ ((decide (v14 < 0)))
      (j11 true)
      ((Br p0.fk v7).bind fun v16 =>
      AJ ((decide (v10 ≤ v16)))
       (j11 true)
       ((Br p0.fp v7).bind fun v18 =>
       AJ ((decide (v18 < 0)))
        (j11 true)
        ((Br p0.fp v7).bind fun v20 =>
        j11 (decide (v10 ≤ v20))))))))
   (j7 ())
def AT (N : Nat) (p0 : Aa) (j22 : Unit → Option Int) : Nat → Int → Option Int
 | 0, _ => none
 | n22 + 1, v22 =>
  AJ ((decide (v22 < (p0.fd.length : Int))))
   ((Br p0.fd v22).bind fun v25 =>
   (Dq N p0 v25).bind fun v26 =>
   AJ ((v26 != 0))
    (some v26)
    (AT N p0 j22 n22 (wI .i64 (v22 + 1))))
   (j22 ())
def Bu (N : Nat) (p0 : Aa) : Option Int :=
 A8 (fun (v1 : Bool) =>
  AJ v1
   (some 3)
   (A8 (fun (v4 : Bool) =>
    AJ v4
     (some 6)
     (AY N p0 (fun (_ : Unit) =>
      AT N p0 (fun (_ : Unit) =>
       some 0) N 0) N 0))
   fun j4 =>
   AJ (((p0.fk.length : Int) != (p0.fc.length : Int)))
    (j4 true)
    (j4 ((p0.fp.length : Int) != (p0.fc.length : Int)))))
 fun j1 =>
 AJ ((decide (6 < (p0.fc.length : Int))))
  (j1 true)
  (j1 (decide (12 < (p0.fd.length : Int))))
def BZ (N : Nat) (p1 : List Int) (j4 : Unit → Option Int) : Nat → Int → Option Int
 | 0, _ => none
 | n4 + 1, v4 =>
  AJ ((decide (v4 < (p1.length : Int))))
   (A8 (fun (v7 : Bool) =>
    AJ v7
     (some 7)
     (BZ N p1 j4 n4 (wI .i64 (v4 + 1))))
   fun j7 =>
   (Br p1 v4).bind fun v8 =>
   AJ ((decide (v8 < 1)))
    (j7 true)
    ((Br p1 v4).bind fun v10 =>
    j7 (decide (4 < v10))))
   (j4 ())
def CY (N : Nat) (p0 : Aa) (p1 : List Int) : Option Int :=
 (Bu N p0).bind fun v1 =>
 AJ ((v1 != 0))
  (some v1)
  (AJ (((p1.length : Int) != (p0.fc.length : Int)))
   (some 6)
   (BZ N p1 (fun (_ : Unit) =>
    some 0) N 0))
def BG (N : Nat) (p0 : Aa) (j3 : ((List Int) × (List Int)) → Option (Ae × Int)) : Nat → ((List Int) × (List Int) × Int) → Option (Ae × Int)
 | 0, _ => none
 | n3 + 1, v3 =>
  AJ ((decide (v3.2.2 < (p0.fc.length : Int))))
   ((Br p0.fk v3.2.2).bind fun v6 =>
   (EY (v3.1.length + (([v6] : List Int)).length ≤ FR)).bind fun _ =>
   (EY (v3.2.1.length + (([(-1)] : List Int)).length ≤ FR)).bind fun _ =>
   BG N p0 j3 n3 (v3.1 ++ (([v6] : List Int)), v3.2.1 ++ (([(-1)] : List Int)), (wI .i64 (v3.2.2 + 1))))
   (j3 (v3.1, v3.2.1))
def AZ (N : Nat) (p0 : Aa) (j9 : ((List Int)) → Option (Ae × Int)) : Nat → ((List Int) × Int) → Option (Ae × Int)
 | 0, _ => none
 | n9 + 1, v9 =>
  AJ ((decide (v9.2 < (p0.fd.length : Int))))
   (A8 (fun (v12 : Int) =>
    (EY (v9.1.length + (([v12] : List Int)).length ≤ FR)).bind fun _ =>
    AZ N p0 j9 n9 (v9.1 ++ (([v12] : List Int)), (wI .i64 (v9.2 + 1))))
   fun j12 =>
   (Br p0.fd v9.2).bind fun v13 =>
   (A5 N v13).bind fun v14 =>
   AJ v14
    ((Br p0.fd v9.2).bind fun v16 =>
    (Br p0.fk v16.fj).bind fun v17 =>
    (EY (0 ≤ v17)).bind fun _ =>
    j12 (DE .u8 1 v17))
    (j12 0))
   (j9 v9.1)
def DB (N : Nat) (p0 : Aa) : Option (Ae × Int) :=
 (Bu N p0).bind fun v1 =>
 AJ ((v1 != 0))
  (some ((Ae.mk (([] : List Int)) (([] : List Int)) (([] : List Int))), v1))
  (BG N p0 (fun (v4 : (List Int) × (List Int)) =>
   AZ N p0 (fun (v10 : (List Int)) =>
    some ((Ae.mk v4.1 v4.2 v10), 0)) N (([] : List Int), 0)) N (([] : List Int), ([] : List Int), 0))
def B2 (_ : Nat) (p0 : Ae) (p1 : Int) : Option Int :=
 (Br p0.fh p1).bind fun v1 =>
 (EY (0 ≤ v1)).bind fun _ =>
 A8 (fun (v3 : Int) =>
  some v3)
 fun j3 =>
 (Br p0.fe p1).bind fun v4 =>
 AJ ((decide (0 ≤ v4)))
  ((Br p0.fe p1).bind fun v6 =>
  (EY (0 ≤ v6)).bind fun _ =>
  j3 (K7 .u8 ((DE .u8 1 v1)) ((DE .u8 1 v6))))
  (j3 (DE .u8 1 v1))
def BE (N : Nat) (p0 : Aa) (p1 : Ae) (j7 : Unit → Option Int) : Nat → Int → Option Int
 | 0, _ => none
 | n7 + 1, v7 =>
  AJ ((decide (v7 < (p0.fc.length : Int))))
   (A8 (fun (v10 : Bool) =>
    AJ v10
     (some 7)
     ((Br p1.fh v7).bind fun v21 =>
     (Br p1.fe v7).bind fun v22 =>
     AJ ((v21 == v22))
      (some 1)
      (BE N p0 p1 j7 n7 (wI .i64 (v7 + 1)))))
   fun j10 =>
   (Br p1.fh v7).bind fun v11 =>
   AJ ((decide (v11 < 0)))
    (j10 true)
    ((Br p1.fh v7).bind fun v13 =>
    (Br p0.fc v7).bind fun v14 =>
    AJ ((decide (v14 ≤ v13)))
     (j10 true)
     ((Br p1.fe v7).bind fun v16 =>
     AJ ((decide (v16 < (-1))))
      (j10 true)
      ((Br p1.fe v7).bind fun v18 =>
      (Br p0.fc v7).bind fun v19 =>
      j10 (decide (v19 ≤ v18))))))
   (j7 ())
def Bx (N : Nat) (p0 : Aa) (p1 : Ae) (j24 : Unit → Option Int) : Nat → Int → Option Int
 | 0, _ => none
 | n24 + 1, v24 =>
  AJ ((decide (v24 < (p0.fd.length : Int))))
   ((Br p0.fd v24).bind fun v27 =>
   (Br p0.fc v27.fj).bind fun v28 =>
   (EY (0 ≤ v28)).bind fun _ =>
   A8 (fun (v30 : Bool) =>
    AJ v30
     (some 1)
     (Bx N p0 p1 j24 n24 (wI .i64 (v24 + 1))))
   fun j30 =>
   (A5 N v27).bind fun v31 =>
   AJ ((!v31))
    ((Br p1.ff v24).bind fun v33 =>
    AJ ((v33 != 0))
     (j30 true)
     ((A5 N v27).bind fun v35 =>
     AJ v35
      ((Br p1.ff v24).bind fun v37 =>
      AJ (((Cl .u8 v37 ((wI .u8 ((DE .u8 1 v28) - 1)))) != 0))
       (j30 true)
       ((B2 N p1 v27.fj).bind fun v39 =>
       (Br p1.ff v24).bind fun v40 =>
       j30 ((Cl .u8 v39 v40) != 0)))
      (j30 false)))
    ((A5 N v27).bind fun v41 =>
    AJ v41
     ((Br p1.ff v24).bind fun v43 =>
     AJ (((Cl .u8 v43 ((wI .u8 ((DE .u8 1 v28) - 1)))) != 0))
      (j30 true)
      ((B2 N p1 v27.fj).bind fun v45 =>
      (Br p1.ff v24).bind fun v46 =>
      j30 ((Cl .u8 v45 v46) != 0)))
     (j30 false)))
   (j24 ())
def CJ (N : Nat) (p0 : Aa) (p1 : Ae) : Option Int :=
 (Bu N p0).bind fun v1 =>
 AJ ((v1 != 0))
  (some v1)
  (A8 (fun (v3 : Bool) =>
   AJ v3
    (some 6)
    (BE N p0 p1 (fun (_ : Unit) =>
     Bx N p0 p1 (fun (_ : Unit) =>
      some 0) N 0) N 0))
  fun j3 =>
  AJ (((p1.fh.length : Int) != (p0.fc.length : Int)))
   (j3 true)
   (AJ (((p1.fe.length : Int) != (p0.fc.length : Int)))
    (j3 true)
    (j3 ((p1.ff.length : Int) != (p0.fd.length : Int)))))
def DC (_ : Nat) (p0 : Al) : Option Bool :=
 A8 (fun (v1 : Bool) =>
  some v1)
 fun j1 =>
 AJ ((decide (1 ≤ p0.fa)))
  (AJ ((decide (p0.fa ≤ 4)))
   (AJ ((decide (0 ≤ p0.fm)))
    (AJ ((decide (0 ≤ p0.fr)))
     (AJ ((p0.fa == 1))
      (j1 true)
      (j1 (p0.fr == 0)))
     (j1 false))
    (j1 false))
   (j1 false))
  (j1 false)
def Dk (_ : Nat) (p0 : Int) (p1 : Int) : Option Bool :=
 (EY (0 ≤ p1)).bind fun _ =>
 some (((FB .u8 ((FM .u8 p0 p1)) 1) == 1))
def Bv (N : Nat) (p0 : Aa) (p2 : Al) (j12 : ((List Int)) → Option (Ae × Bool)) : Nat → ((List Int) × Int) → Option (Ae × Bool)
 | 0, _ => none
 | n12 + 1, v12 =>
  AJ ((decide (v12.2 < (p0.fd.length : Int))))
   (A8 (fun (v15 : (List Int)) =>
    Bv N p0 p2 j12 n12 (v15, (wI .i64 (v12.2 + 1))))
   fun j15 =>
   A8 (fun (v16 : Bool) =>
    AJ v16
     ((Br v12.1 v12.2).bind fun v22 =>
     (EY (0 ≤ p2.fr)).bind fun _ =>
     (Br v12.1 v12.2).bind fun _ =>
     j15 (v12.1.set ((v12.2).toNat) ((K7 .u8 v22 ((DE .u8 1 p2.fr))))))
     (j15 v12.1))
   fun j16 =>
   (Br p0.fd v12.2).bind fun v17 =>
   AJ ((v17.fj == p2.fm))
    ((Br p0.fd v12.2).bind fun v19 =>
    (A5 N v19).bind fun v20 =>
    j16 v20)
    (j16 false))
   (j12 v12.1)
def Bh (N : Nat) (p0 : Aa) (p1 : Ae) (p2 : Al) (v32 : AI) (v35 : Int) (j38 : Unit → Option (Ae × Bool)) : Nat → Int → Option (Ae × Bool)
 | 0, _ => none
 | n38 + 1, v38 =>
  (Br p0.fc v32.fj).bind fun v40 =>
  AJ ((decide (v38 < v40)))
   (A8 (fun (v42 : Bool) =>
    A8 (fun (v47 : Bool) =>
     AJ v47
      (some ((Ae.mk (([] : List Int)) (([] : List Int)) (([] : List Int))), false))
      (Bh N p0 p1 p2 v32 v35 j38 n38 (wI .i64 (v38 + 1))))
    fun j47 =>
    AJ v42
     (AJ ((v32.fa == 4))
      ((Br v32.fv v38).bind fun v50 =>
      (Br p1.fh v32.fj).bind fun v51 =>
      (Br v50 v51).bind fun v52 =>
      j47 (!v52))
      (j47 false))
     (j47 false))
   fun j42 =>
   (Br p1.ff p2.fm).bind fun v43 =>
   (Dk N v43 v38).bind fun v44 =>
   AJ v44
    ((Dk N v35 v38).bind fun v46 =>
    j42 (!v46))
    (j42 false))
   (j38 ())
def CH (N : Nat) (p0 : Aa) (p1 : Ae) (p2 : Al) : Option (Ae × Bool) :=
 (EY ((([] : List Int)).length + p1.fh.length ≤ FR)).bind fun _ =>
 (EY ((([] : List Int)).length + p1.fe.length ≤ FR)).bind fun _ =>
 (EY ((([] : List Int)).length + p1.ff.length ≤ FR)).bind fun _ =>
 A8 (fun (v4 : (List Int) × (List Int) × (List Int)) =>
  some ((Ae.mk v4.1 v4.2.1 v4.2.2), true))
 fun j4 =>
 AJ ((p2.fa == 1))
  (A8 (fun (v6 : Bool) =>
   AJ v6
    (some ((Ae.mk (([] : List Int)) (([] : List Int)) (([] : List Int))), false))
    ((Br ((([] : List Int)) ++ p1.fe) p2.fm).bind fun _ =>
    Bv N p0 p2 (fun (v13 : (List Int)) =>
     j4 ((([] : List Int)) ++ p1.fh, ((([] : List Int)) ++ p1.fe).set ((p2.fm).toNat) p2.fr, v13)) N ((([] : List Int)) ++ p1.ff, 0)))
  fun j6 =>
  (Br p1.fe p2.fm).bind fun v7 =>
  AJ ((decide (0 ≤ v7)))
   (j6 true)
   ((Br p1.fh p2.fm).bind fun v9 =>
   j6 (p2.fr == v9)))
  (AJ ((p2.fa == 2))
   ((Br p1.fe p2.fm).bind fun v26 =>
   AJ ((decide (v26 < 0)))
    (some ((Ae.mk (([] : List Int)) (([] : List Int)) (([] : List Int))), false))
    ((Br p1.fe p2.fm).bind fun v28 =>
    (Br ((([] : List Int)) ++ p1.fh) p2.fm).bind fun _ =>
    (Br ((([] : List Int)) ++ p1.fe) p2.fm).bind fun _ =>
    j4 (((([] : List Int)) ++ p1.fh).set ((p2.fm).toNat) v28, ((([] : List Int)) ++ p1.fe).set ((p2.fm).toNat) ((-1)), (([] : List Int)) ++ p1.ff)))
   (AJ ((p2.fa == 3))
    ((Br p0.fd p2.fm).bind fun v32 =>
    (A5 N v32).bind fun v33 =>
    AJ ((!v33))
     (some ((Ae.mk (([] : List Int)) (([] : List Int)) (([] : List Int))), false))
     ((B2 N p1 v32.fj).bind fun v35 =>
     (Br p1.ff p2.fm).bind fun v36 =>
     AJ ((v36 == v35))
      (some ((Ae.mk (([] : List Int)) (([] : List Int)) (([] : List Int))), false))
      (Bh N p0 p1 p2 v32 v35 (fun (_ : Unit) =>
       (Br ((([] : List Int)) ++ p1.ff) p2.fm).bind fun _ =>
       j4 ((([] : List Int)) ++ p1.fh, (([] : List Int)) ++ p1.fe, ((([] : List Int)) ++ p1.ff).set ((p2.fm).toNat) v35)) N 0)))
    ((Br p1.fe p2.fm).bind fun v55 =>
    AJ ((decide (v55 < 0)))
     (some ((Ae.mk (([] : List Int)) (([] : List Int)) (([] : List Int))), false))
     ((Br ((([] : List Int)) ++ p1.fe) p2.fm).bind fun _ =>
     j4 ((([] : List Int)) ++ p1.fh, ((([] : List Int)) ++ p1.fe).set ((p2.fm).toNat) ((-1)), (([] : List Int)) ++ p1.ff)))))
def Dx (N : Nat) (p0 : Aa) (p1 : Ae) (p2 : Al) : Option (Ae × Int) :=
 (CJ N p0 p1).bind fun v1 =>
 AJ ((v1 != 0))
  (some ((Ae.mk (([] : List Int)) (([] : List Int)) (([] : List Int))), v1))
  ((DC N p2).bind fun v3 =>
  AJ ((!v3))
   (some ((Ae.mk (([] : List Int)) (([] : List Int)) (([] : List Int))), 1))
   (A8 (fun (v5 : Bool) =>
    AJ v5
     (some ((Ae.mk (([] : List Int)) (([] : List Int)) (([] : List Int))), 4))
     (A8 (fun (v11 : Bool) =>
      AJ v11
       (some ((Ae.mk (([] : List Int)) (([] : List Int)) (([] : List Int))), 4))
       ((CH N p0 p1 p2).bind fun v15 =>
       AJ ((!v15.2))
        (some ((Ae.mk (([] : List Int)) (([] : List Int)) (([] : List Int))), 11))
        (some (v15.1, 0))))
     fun j11 =>
     AJ ((p2.fa == 1))
      ((Br p0.fc p2.fm).bind fun v13 =>
      j11 (decide (v13 ≤ p2.fr)))
      (j11 false)))
   fun j5 =>
   AJ ((p2.fa == 3))
    (AJ ((decide ((p0.fd.length : Int) ≤ p2.fm)))
     (j5 true)
     (AJ ((p2.fa != 3))
      (j5 (decide ((p0.fc.length : Int) ≤ p2.fm)))
      (j5 false)))
    (AJ ((p2.fa != 3))
     (j5 (decide ((p0.fc.length : Int) ≤ p2.fm)))
     (j5 false))))
def Cw (N : Nat) (p0 : Aa) (p2 : List Al) (j3 : ((List Ae)) → Option ((List Ae) × Int × Int)) : Nat → ((List Ae) × Int) → Option ((List Ae) × Int × Int)
 | 0, _ => none
 | n3 + 1, v3 =>
  AJ ((decide (v3.2 < (p2.length : Int))))
   ((Br v3.1 v3.2).bind fun v6 =>
   (Br p2 v3.2).bind fun v7 =>
   (Dx N p0 v6 v7).bind fun v8 =>
   AJ ((v8.2 != 0))
    (some (([] : List Ae), v3.2, v8.2))
    ((EY (v3.1.length + (([v8.1] : List Ae)).length ≤ FR)).bind fun _ =>
    Cw N p0 p2 j3 n3 (v3.1 ++ (([v8.1] : List Ae)), (wI .i64 (v3.2 + 1)))))
   (j3 v3.1)
def Dg (N : Nat) (p0 : Aa) (p1 : Ae) (p2 : List Al) : Option ((List Ae) × Int × Int) :=
 (CJ N p0 p1).bind fun v1 =>
 AJ ((v1 != 0))
  (some (([] : List Ae), 0, v1))
  (Cw N p0 p2 (fun (v4 : (List Ae)) =>
   some (v4, (p2.length : Int), 0)) N (([p1] : List Ae), 0))
def Ce (N : Nat) (p1 : List Al) (j3 : Unit → Option Int) : Nat → Int → Option Int
 | 0, _ => none
 | n3 + 1, v3 =>
  AJ ((decide (v3 < (p1.length : Int))))
   ((Br p1 v3).bind fun v6 =>
   AJ ((v6.fa == 4))
    (some 1)
    (Ce N p1 j3 n3 (wI .i64 (v3 + 1))))
   (j3 ())
def Dy (N : Nat) (p0 : Aa) (p1 : List Al) : Option Int :=
 (DB N p0).bind fun v1 =>
 AJ ((v1.2 != 0))
  (some v1.2)
  (Ce N p1 (fun (_ : Unit) =>
   (Dg N p0 v1.1 p1).bind fun v8 =>
   some v8.2.2) N 0)
def Cv (_ : Nat) (p0 : Ab) : Option ((List Int)) :=
 AJ ((p0.fa == 1))
  (some (([p0.fA, p0.fB, p0.fF] : List Int)))
  (AJ ((p0.fa == 6))
   (some (([p0.fu, p0.fr, p0.fJ] : List Int)))
   (AJ ((p0.fa == 7))
    (some (([p0.fM, p0.fw] : List Int)))
    (some (([p0.fm, p0.fw] : List Int)))))
def Cq (_ : Nat) (p0 : Int) (p1 : Int) (p2 : List Int) : Option Ab :=
 A8 (fun (v1 : Int × Int × Int × Int × Int × Int × Int × Int × Int) =>
  some ((Ab.mk p0 p1 v1.1 v1.2.1 v1.2.2.1 v1.2.2.2.1 v1.2.2.2.2.1 v1.2.2.2.2.2.1 v1.2.2.2.2.2.2.1 v1.2.2.2.2.2.2.2.1 v1.2.2.2.2.2.2.2.2)))
 fun j1 =>
 AJ ((p1 == 1))
  ((Br p2 0).bind fun v3 =>
  (Br p2 1).bind fun v4 =>
  (Br p2 2).bind fun v5 =>
  j1 (v3, v4, v5, 0, 0, 0, 0, 0, 0))
  (AJ ((p1 == 6))
   ((Br p2 0).bind fun v7 =>
   (Br p2 1).bind fun v8 =>
   (Br p2 2).bind fun v9 =>
   j1 (0, 0, 0, 0, 0, v9, v7, v8, 0))
   (AJ ((p1 == 7))
    ((Br p2 0).bind fun v11 =>
    (Br p2 1).bind fun v12 =>
    j1 (0, 0, 0, 0, v12, 0, 0, 0, v11))
    ((Br p2 0).bind fun v13 =>
    (Br p2 1).bind fun v14 =>
    j1 (0, 0, 0, v13, v14, 0, 0, 0, 0))))
def BV (N : Nat) (v5 : (List Int)) (j6 : Unit → Option Bool) : Nat → Int → Option Bool
 | 0, _ => none
 | n6 + 1, v6 =>
  AJ ((decide (v6 < (v5.length : Int))))
   ((Br v5 v6).bind fun v9 =>
   AJ ((decide (v9 < 0)))
    (some false)
    (BV N v5 j6 n6 (wI .i64 (v6 + 1))))
   (j6 ())
def Dt (N : Nat) (p0 : Ab) : Option Bool :=
 A8 (fun (v1 : Bool) =>
  AJ v1
   (some false)
   ((Cv N p0).bind fun v5 =>
   BV N v5 (fun (_ : Unit) =>
    (Cq N p0.fi p0.fa v5).bind fun v11 =>
    some (((v11.fi == p0.fi) && ((v11.fa == p0.fa) && ((v11.fA == p0.fA) && ((v11.fB == p0.fB) && ((v11.fF == p0.fF) && ((v11.fm == p0.fm) && ((v11.fw == p0.fw) && ((v11.fJ == p0.fJ) && ((v11.fu == p0.fu) && ((v11.fr == p0.fr) && ((v11.fM == p0.fM) && true))))))))))))) N 0))
 fun j1 =>
 AJ ((decide (p0.fa < 1)))
  (j1 true)
  (AJ ((decide (7 < p0.fa)))
   (j1 true)
   (j1 (decide (p0.fi < 0))))
def Cf (N : Nat) (p0 : List Ab) (j2 : Unit → Option Int) : Nat → Int → Option Int
 | 0, _ => none
 | n2 + 1, v2 =>
  AJ ((decide (v2 < (p0.length : Int))))
   (A8 (fun (v5 : Bool) =>
    AJ v5
     (some 1)
     (Cf N p0 j2 n2 (wI .i64 (v2 + 1))))
   fun j5 =>
   (Br p0 v2).bind fun v6 =>
   (Dt N v6).bind fun v7 =>
   AJ ((!v7))
    (j5 true)
    (AJ ((decide (0 < v2)))
     ((Br p0 v2).bind fun v10 =>
     (Br p0 ((wI .i64 (v2 - 1)))).bind fun v11 =>
     j5 (decide (v10.fi < v11.fi)))
     (j5 false)))
   (j2 ())
def BY (N : Nat) (p0 : List Ab) : Option Int :=
 AJ ((decide (10000 < (p0.length : Int))))
  (some 3)
  (Cf N p0 (fun (_ : Unit) =>
   some 0) N 0)
def CL (N : Nat) (p0 : Aa) (p1 : List Int) (p2 : List Al) (p3 : List Ab) : Option Int :=
 (CY N p0 p1).bind fun v1 =>
 AJ ((v1 != 0))
  (some v1)
  ((Dy N p0 p2).bind fun v3 =>
  AJ ((v3 != 0))
   (some v3)
   ((BY N p3).bind fun v5 =>
   some v5))
def Bb (_ : Nat) (p0 : List Ab) : Option ((List Ab)) :=
 (EY ((([] : List Ab)).length + p0.length ≤ FR)).bind fun _ =>
 some ((([] : List Ab)) ++ p0)
def Cr (_ : Nat) (p0 : List Ab) (p1 : Int) (p2 : List Ab) : Option (List Ab) :=
 (EY (p2.length = 1 ∧ 0 ≤ p1 ∧ p1.toNat ≤ p0.length ∧ p0.length + 1 ≤ FR)).bind fun _ => some (p0.take p1.toNat ++ (p2 ++ p0.drop p1.toNat))
def Bs (N : Nat) (p0 : BB) (j16 : ((List Ab)) → Option Bool) : Nat → ((List Ab) × Int) → Option Bool
 | 0, _ => none
 | n16 + 1, v16 =>
  AJ ((decide (v16.2 < (p0.ft.length : Int))))
   (A8 (fun (v19 : (List Ab)) =>
    Bs N p0 j16 n16 (v19, (wI .i64 (v16.2 + 1))))
   fun j19 =>
   (Br p0.ft v16.2).bind fun v20 =>
   AJ ((v20.fa != 1))
    ((EY (v16.1.length + (([v20] : List Ab)).length ≤ FR)).bind fun _ =>
    j19 (v16.1 ++ (([v20] : List Ab))))
    (j19 v16.1))
   (j16 v16.1)
def Cc (N : Nat) (p0 : BB) (p1 : Int) : Option Bool :=
 A8 (fun (v1 : Bool) =>
  AJ v1
   ((Du N).bind fun v8 =>
   some v8)
   ((Bb N p0.ft).bind fun v9 =>
   (Bl N ((Aa.mk p0.fb.fc p0.fb.fk p0.fb.fp p0.fb.fd)) p0.fK p0.fq v9).bind fun v10 =>
   A8 (fun (v11 : Bool) =>
    AJ v11
     (A8 (fun (v14 : Bool) =>
      some v14)
     fun j14 =>
     AJ ((v10.2.2 == 0))
      (j14 true)
      (j14 (v10.2.2 == 15)))
     (Bs N p0 (fun (v17 : (List Ab)) =>
      (EY ((p0.ft.length : Int) ≠ 0)).bind fun _ =>
      (Bb N p0.ft).bind fun v24 =>
      A8 (fun (v25 : (List Ab)) =>
       (Bl N ((Aa.mk p0.fb.fc p0.fb.fk p0.fb.fp p0.fb.fd)) p0.fK p0.fq v17).bind fun v30 =>
       (Bl N ((Aa.mk p0.fb.fc p0.fb.fk p0.fb.fp p0.fb.fd)) p0.fK p0.fq v25).bind fun v31 =>
       A8 (fun (v32 : Bool) =>
        some v32)
       fun j32 =>
       AJ ((v30.2.2 == 15))
        (AJ ((v31.2.2 == 15))
         ((BY N v17).bind fun v35 =>
         j32 (v35 == 0))
         (j32 false))
        (j32 false))
      fun j25 =>
      (Br p0.ft ((Int.tmod ((wI .i64 p1)) ((p0.ft.length : Int))))).bind fun v26 =>
      AJ ((v26.fa == 1))
       ((Br p0.ft ((Int.tmod ((wI .i64 p1)) ((p0.ft.length : Int))))).bind fun v28 =>
       (Cr N v24 ((Int.tmod ((wI .i64 p1)) ((p0.ft.length : Int)))) (([v28] : List Ab))).bind fun v29 =>
       j25 v29)
       (j25 v24)) N (([] : List Ab), 0)))
   fun j11 =>
   AJ ((v10.2.2 != 15))
    (j11 true)
    (j11 ((p0.ft.length : Int) == 0))))
 fun j1 =>
 (Du N).bind fun v2 =>
 AJ ((!v2))
  (j1 true)
  ((Cj N ((BB.mk ((Aa.mk p0.fb.fc p0.fb.fk p0.fb.fp p0.fb.fd)) p0.fK p0.fq p0.ft))).bind fun v4 =>
  AJ ((!v4))
   (j1 true)
   ((CL N ((Aa.mk p0.fb.fc p0.fb.fk p0.fb.fp p0.fb.fd)) p0.fK p0.fq p0.ft).bind fun v6 =>
   j1 (v6 != 0)))
def Hz (_ : Nat) (p0 : Ab) : Option Bool :=
 A8 (fun (v1 : Bool) =>
  some v1)
 fun j1 =>
 AJ ((decide (2 ≤ p0.fa)))
  (j1 (decide (p0.fa ≤ 5)))
  (j1 false)
def GG (_ : Nat) (p0 : Aa) (p1 : Ab) : Option Bool :=
 AJ ((p1.fa != 1))
  (some false)
  (AJ ((decide ((p0.fd.length : Int) ≤ p1.fA)))
   (some true)
   ((Br p0.fd p1.fA).bind fun v3 =>
   A8 (fun (v4 : Bool) =>
    some v4)
   fun j4 =>
   (Br p0.fc v3.fj).bind fun v5 =>
   AJ ((decide (v5 ≤ p1.fB)))
    (j4 true)
    ((Br p0.fc v3.fC).bind fun v7 =>
    AJ ((decide (v7 ≤ p1.fF)))
     (j4 true)
     ((Br v3.fD p1.fB).bind fun v9 =>
     (Br v9 p1.fF).bind fun v10 =>
     j4 (!v10)))))
def Dd (N : Nat) (p0 : List Int) (j1 : Unit → Option Int) : Nat → (Int × Int) → Option Int
 | 0, _ => none
 | n1 + 1, v1 =>
  AJ ((decide (v1.2 < (p0.length : Int))))
   ((Br p0 v1.2).bind fun v4 =>
   AJ ((decide (v1.1 < v4)))
    (some v1.2)
    ((Br p0 v1.2).bind fun v6 =>
    Dd N p0 j1 n1 ((wI .i64 (v1.1 - v6)), (wI .i64 (v1.2 + 1)))))
   (j1 ())
def Ez (N : Nat) (p0 : List Int) (p1 : Int) : Option Int :=
 Dd N p0 (fun (_ : Unit) =>
  some ((-1))) N (p1, 0)
def EA (_ : Nat) (p0 : Ae) (p1 : Int) (p2 : Int) : Option Bool :=
 A8 (fun (v1 : Bool) =>
  some v1)
 fun j1 =>
 AJ ((decide (0 ≤ p2)))
  ((Br p0.fh p1).bind fun v3 =>
  AJ ((p2 == v3))
   (j1 true)
   ((Br p0.fe p1).bind fun v5 =>
   j1 (p2 == v5)))
  (j1 false)
def KY {α : Type} (w : α → Prop) (xs : List α) : Prop := ∀ x, x ∈ xs → w x
def Gw (n : Int) : Prop := (Lit.int .i64 n).wf = true
def Pn (n : Int) : Prop := (Lit.int .u8 n).wf = true
def KJ (x : AI) : Prop := Gw x.fa ∧ Gw x.fj ∧ Gw x.fC ∧ (fun _ => True) x.fQ ∧ (KY (KY (fun _ => True))) x.fD ∧ (KY (KY (fun _ => True))) x.fv ∧ True
def KR (x : Aa) : Prop := (KY Gw) x.fc ∧ (KY Gw) x.fk ∧ (KY Gw) x.fp ∧ (KY KJ) x.fd ∧ True
def LN (x : Al) : Prop := Gw x.fa ∧ Gw x.fm ∧ Gw x.fr ∧ True
def IV (x : Ab) : Prop := Gw x.fi ∧ Gw x.fa ∧ Gw x.fA ∧ Gw x.fB ∧ Gw x.fF ∧ Gw x.fm ∧ Gw x.fw ∧ Gw x.fJ ∧ Gw x.fu ∧ Gw x.fr ∧ Gw x.fM ∧ True
def Fx (x : BB) : Prop := KR x.fb ∧ (KY Gw) x.fK ∧ (KY LN) x.fq ∧ (KY IV) x.ft ∧ True
open Go.RowKit
open Go.Proofs
abbrev CG (x : AI) : List C := [iC x.fa, iC x.fj, iC x.fC, .pure (.val (.bool x.fQ)), sC (x.fD.map (Li eB)), sC (x.fv.map (Li eB))]
abbrev Am (x : Aa) : List C := [sC (x.fc.map Au), sC (x.fk.map Au), sC (x.fp.map Au), sC (x.fd.map BF)]
abbrev Cb (x : Al) : List C := [iC x.fa, iC x.fm, iC x.fr]
abbrev BA (x : Ab) : List C := [iC x.fi, iC x.fa, iC x.fA, iC x.fB, iC x.fF, iC x.fm, iC x.fw, iC x.fJ, iC x.fu, iC x.fr, iC x.fM]
abbrev C6 (x : BB) : List C := [sC (x.fb.fc.map Au), sC (x.fb.fk.map Au), sC (x.fb.fp.map Au), sC (x.fb.fd.map BF), sC (x.fK.map Au), sC (x.fq.map AM), sC (x.ft.map AE)]
abbrev Bm (x : Ae) : List C := [sC (x.fh.map Au), sC (x.fe.map Au), sC (x.ff.map DL)]
abbrev Aw (x : Ah) : List C := [sC (x.fb.fc.map Au), sC (x.fb.fk.map Au), sC (x.fb.fp.map Au), sC (x.fb.fd.map BF), sC (x.fq.map AM), iC x.fi, iC x.fy, sC (x.fg.fh.map Au), sC (x.fg.fe.map Au), sC (x.fg.ff.map DL)]
theorem Ax : Tryz.prog.follows .mixedOrders = true := by kernel_rfl
theorem wq {X : Gt} {y : Code} {id : Nat} {ops : Array Oper} {dr : Bool} {Q : Exit → St → Prop} {st : St} {n : Nat} (hn : ops.size = n) (h : A6 zA0 X ops dr (fun st' => W zA0 X y Q st') n 0 st []) : W zA0 X (.seq (.region id ops dr) y) Q st := Xz Ax hn h
theorem wp {X : Gt} {y z : Code} {id : Nat} {ops : Array Oper} {dr : Bool} {Q : Exit → St → Prop} {st : St} {n : Nat} (hn : ops.size = n) (h : A6 zA0 X ops dr (fun st' => W zA0 X y (M5 (W zA0 X z Q) Q) st') n 0 st []) : W zA0 X (.seq (.seq (.region id ops dr) y) z) Q st := AP (Xz Ax hn h)
theorem Fq : Ek zA0 110 false = true := by kernel_rfl
theorem E8 : Ek zA0 112 true = true := by kernel_rfl
theorem Hq : Ek zA0 113 false = true := by kernel_rfl
theorem JX : Ek zA0 125 false = true := by kernel_rfl
theorem Up : Ek zA0 164 false = true := by kernel_rfl
theorem HI : Ek zA0 2 false = true := by kernel_rfl
theorem Bi : Ek zA0 22 false = true := by kernel_rfl
theorem Fb : Ek zA0 23 false = true := by kernel_rfl
theorem D2 : Ek zA0 25 true = true := by kernel_rfl
theorem Pj : Ek zA0 26 false = true := by kernel_rfl
theorem Np : Ek zA0 27 false = true := by kernel_rfl
theorem Xm : Ek zA0 29 true = true := by kernel_rfl
theorem Bg : Ek zA0 3 false = true := by kernel_rfl
theorem F1 : Ek zA0 37 true = true := by kernel_rfl
theorem GX : Ek zA0 38 false = true := by kernel_rfl
theorem Ul : Ek zA0 4 false = true := by kernel_rfl
theorem B8 : Ek zA0 40 true = true := by kernel_rfl
theorem Ju : Ek zA0 67 true = true := by kernel_rfl
theorem Xx : Ek zA0 9 false = true := by kernel_rfl
theorem Sw : RW zA0 209 8 9 = true := by kernel_rfl
theorem Nn : Fk zA0 113 1 = true := by kernel_rfl
theorem QY : Fk zA0 3 8 = true := by kernel_rfl
theorem RT : Fk zA0 37 88 = true := by kernel_rfl
theorem Um : Fk zA0 40 72 = true := by kernel_rfl
theorem DZ : BH zA0 112 0 0 = true := by kernel_rfl
theorem Cp : BH zA0 112 1 1 = true := by kernel_rfl
theorem G4 : BH zA0 112 2 2 = true := by kernel_rfl
theorem Pk : BH zA0 112 3 3 = true := by kernel_rfl
theorem Hk : BH zA0 112 4 4 = true := by kernel_rfl
theorem Ec : BH zA0 112 5 5 = true := by kernel_rfl
theorem OZ : BH zA0 166 0 0 = true := by kernel_rfl
theorem Oq : BH zA0 166 1 1 = true := by kernel_rfl
theorem O1 : BH zA0 166 2 2 = true := by kernel_rfl
theorem OS : BH zA0 166 3 3 = true := by kernel_rfl
theorem BI : BH zA0 25 0 0 = true := by kernel_rfl
theorem FV : BH zA0 25 1 1 = true := by kernel_rfl
theorem IY : BH zA0 25 2 2 = true := by kernel_rfl
theorem BO : BH zA0 25 3 3 = true := by kernel_rfl
theorem Kd : BH zA0 29 0 0 = true := by kernel_rfl
theorem JT : BH zA0 29 1 4 = true := by kernel_rfl
theorem J6 : BH zA0 29 2 5 = true := by kernel_rfl
theorem GU : BH zA0 29 3 6 = true := by kernel_rfl
theorem GQ : BH zA0 37 0 0 = true := by kernel_rfl
theorem DN : BH zA0 37 1 1 = true := by kernel_rfl
theorem JP : BH zA0 37 10 10 = true := by kernel_rfl
theorem Hn : BH zA0 37 2 2 = true := by kernel_rfl
theorem Hw : BH zA0 37 3 3 = true := by kernel_rfl
theorem H7 : BH zA0 37 4 4 = true := by kernel_rfl
theorem JQ : BH zA0 37 5 5 = true := by kernel_rfl
theorem Fv : BH zA0 37 6 6 = true := by kernel_rfl
theorem I3 : BH zA0 37 7 7 = true := by kernel_rfl
theorem H2 : BH zA0 37 8 8 = true := by kernel_rfl
theorem J7 : BH zA0 37 9 9 = true := by kernel_rfl
theorem Dc : BH zA0 40 0 0 = true := by kernel_rfl
theorem BX : BH zA0 40 1 1 = true := by kernel_rfl
theorem CP : BH zA0 40 2 2 = true := by kernel_rfl
theorem DF : BH zA0 67 0 0 = true := by kernel_rfl
theorem DM : BH zA0 67 1 1 = true := by kernel_rfl
theorem Fw : BH zA0 67 2 2 = true := by kernel_rfl
theorem NK : BH zA0 81 0 0 = true := by kernel_rfl
theorem Ni : BH zA0 81 1 4 = true := by kernel_rfl
theorem IW : BH zA0 81 2 5 = true := by kernel_rfl
theorem Ht : BH zA0 81 3 6 = true := by kernel_rfl
theorem JZ : BH zA0 81 4 7 = true := by kernel_rfl
theorem Wb : Az zA0 101 = true := by kernel_rfl
theorem Qd : Az zA0 102 = true := by kernel_rfl
theorem VX : Az zA0 103 = true := by kernel_rfl
theorem VB : Az zA0 106 = true := by kernel_rfl
theorem Vr : Az zA0 107 = true := by kernel_rfl
theorem Vl : Az zA0 108 = true := by kernel_rfl
theorem VV : Az zA0 109 = true := by kernel_rfl
theorem VE : Az zA0 11 = true := by kernel_rfl
theorem VY : Az zA0 110 = true := by kernel_rfl
theorem WJ : Az zA0 111 = true := by kernel_rfl
theorem VL : Az zA0 112 = true := by kernel_rfl
theorem Wl : Az zA0 113 = true := by kernel_rfl
theorem VS : Az zA0 114 = true := by kernel_rfl
theorem Sd : Az zA0 115 = true := by kernel_rfl
theorem WH : Az zA0 116 = true := by kernel_rfl
theorem Rx : Az zA0 117 = true := by kernel_rfl
theorem VI : Az zA0 118 = true := by kernel_rfl
theorem Uu : Az zA0 119 = true := by kernel_rfl
theorem Xn : Az zA0 12 = true := by kernel_rfl
theorem Ud : Az zA0 120 = true := by kernel_rfl
theorem V3 : Az zA0 121 = true := by kernel_rfl
theorem VQ : Az zA0 122 = true := by kernel_rfl
theorem Wy : Az zA0 123 = true := by kernel_rfl
theorem Ua : Az zA0 125 = true := by kernel_rfl
theorem Vw : Az zA0 127 = true := by kernel_rfl
theorem Sb : Az zA0 13 = true := by kernel_rfl
theorem VM : Az zA0 14 = true := by kernel_rfl
theorem Ub : Az zA0 143 = true := by kernel_rfl
theorem Wg : Az zA0 144 = true := by kernel_rfl
theorem TU : Az zA0 145 = true := by kernel_rfl
theorem Wa : Az zA0 147 = true := by kernel_rfl
theorem We : Az zA0 148 = true := by kernel_rfl
theorem Sf : Az zA0 149 = true := by kernel_rfl
theorem V0 : Az zA0 150 = true := by kernel_rfl
theorem Ug : Az zA0 151 = true := by kernel_rfl
theorem Uh : Az zA0 152 = true := by kernel_rfl
theorem T3 : Az zA0 153 = true := by kernel_rfl
theorem TX : Az zA0 154 = true := by kernel_rfl
theorem VG : Az zA0 155 = true := by kernel_rfl
theorem Wf : Az zA0 156 = true := by kernel_rfl
theorem Vq : Az zA0 157 = true := by kernel_rfl
theorem WS : Az zA0 16 = true := by kernel_rfl
theorem Wh : Az zA0 173 = true := by kernel_rfl
theorem V6 : Az zA0 174 = true := by kernel_rfl
theorem WF : Az zA0 175 = true := by kernel_rfl
theorem Wo : Az zA0 176 = true := by kernel_rfl
theorem VH : Az zA0 177 = true := by kernel_rfl
theorem VO : Az zA0 178 = true := by kernel_rfl
theorem Wn : Az zA0 179 = true := by kernel_rfl
theorem VA : Az zA0 180 = true := by kernel_rfl
theorem V9 : Az zA0 189 = true := by kernel_rfl
theorem Xh : Az zA0 19 = true := by kernel_rfl
theorem V1 : Az zA0 190 = true := by kernel_rfl
theorem WA : Az zA0 191 = true := by kernel_rfl
theorem Wz : Az zA0 192 = true := by kernel_rfl
theorem V8 : Az zA0 193 = true := by kernel_rfl
theorem Uo : Az zA0 197 = true := by kernel_rfl
theorem Vy : Az zA0 198 = true := by kernel_rfl
theorem Wu : Az zA0 199 = true := by kernel_rfl
theorem Wv : Az zA0 200 = true := by kernel_rfl
theorem VC : Az zA0 22 = true := by kernel_rfl
theorem Xf : Az zA0 23 = true := by kernel_rfl
theorem Xi : Az zA0 32 = true := by kernel_rfl
theorem VN : Az zA0 33 = true := by kernel_rfl
theorem Xt : Az zA0 34 = true := by kernel_rfl
theorem W6 : Az zA0 35 = true := by kernel_rfl
theorem Xr : Az zA0 39 = true := by kernel_rfl
theorem W8 : Az zA0 40 = true := by kernel_rfl
theorem Va : Az zA0 43 = true := by kernel_rfl
theorem WY : Az zA0 44 = true := by kernel_rfl
theorem WU : Az zA0 45 = true := by kernel_rfl
theorem Xj : Az zA0 46 = true := by kernel_rfl
theorem Xc : Az zA0 47 = true := by kernel_rfl
theorem UD : Az zA0 55 = true := by kernel_rfl
theorem Pw : Az zA0 56 = true := by kernel_rfl
theorem UX : Az zA0 57 = true := by kernel_rfl
theorem Xb : Az zA0 58 = true := by kernel_rfl
theorem TQ : Az zA0 59 = true := by kernel_rfl
theorem W0 : Az zA0 62 = true := by kernel_rfl
theorem Xu : Az zA0 64 = true := by kernel_rfl
theorem WR : Az zA0 66 = true := by kernel_rfl
theorem WQ : Az zA0 70 = true := by kernel_rfl
theorem Xs : Az zA0 71 = true := by kernel_rfl
theorem Vo : Az zA0 72 = true := by kernel_rfl
theorem WO : Az zA0 73 = true := by kernel_rfl
theorem W9 : Az zA0 74 = true := by kernel_rfl
theorem Xk : Az zA0 76 = true := by kernel_rfl
theorem Vp : Az zA0 79 = true := by kernel_rfl
theorem TD : Az zA0 80 = true := by kernel_rfl
theorem Vv : Az zA0 81 = true := by kernel_rfl
theorem Wq : Az zA0 82 = true := by kernel_rfl
theorem W7 : Az zA0 83 = true := by kernel_rfl
theorem Xp : Az zA0 86 = true := by kernel_rfl
theorem W4 : Az zA0 92 = true := by kernel_rfl
theorem Uq : NC zA0 214 .u64 = true := by kernel_rfl
theorem Qy : NC zA0 234 .u64 = true := by kernel_rfl
theorem Qa : NC zA0 242 .u32 = true := by kernel_rfl
theorem Xl : NC zA0 3 .i64 = true := by kernel_rfl
theorem Ww : Tryz.prog.underlying 3 = some (.int .i64) := by kernel_rfl
theorem PW : Tryz.prog.underlying 164 = some (.map 3 3) := by kernel_rfl
theorem Vm : GT zA0 166 = some [(0, 1), (1, 1), (2, 1), (3, 1)] := by kernel_rfl
theorem Xd : GT zA0 25 = some [(0, 1), (1, 1), (2, 1), (3, 1)] := by kernel_rfl
theorem QR : GT zA0 37 = some [(0, 1), (1, 1), (2, 1), (3, 1), (4, 1), (5, 1), (6, 1), (7, 1), (8, 1), (9, 1), (10, 1)] := by kernel_rfl
theorem GP : GT zA0 40 = some [(0, 1), (1, 1), (2, 1)] := by kernel_rfl
theorem U5 : GT zA0 67 = some [(0, 1), (1, 1), (2, 1)] := by kernel_rfl
theorem WK : GT zA0 81 = some [(0, 4), (4, 1), (5, 1), (6, 1), (7, 3)] := by kernel_rfl
theorem T9 : To zA0 37 = some [0, 0, 0, 0, 0, 0, 0, 0, 0, 0, 0] := by kernel_rfl
theorem D6 : sliceB zA0 110 125 = true := by kernel_rfl
theorem H9 : sliceB zA0 125 4 = true := by kernel_rfl
theorem HE : sliceB zA0 135 40 = true := by kernel_rfl
theorem Cn : sliceB zA0 167 2 = true := by kernel_rfl
theorem AC : sliceB zA0 22 3 = true := by kernel_rfl
theorem Da : sliceB zA0 23 112 = true := by kernel_rfl
theorem Hi : sliceB zA0 26 67 = true := by kernel_rfl
theorem Dz : sliceB zA0 27 37 = true := by kernel_rfl
theorem DP : sliceB zA0 38 113 = true := by kernel_rfl
theorem T7 : sliceB zA0 89 9 = true := by kernel_rfl
theorem TW : (Tryz.prog.underlying 214).isSome = true := by kernel_rfl
theorem Sx : (Tryz.prog.underlying 234).isSome = true := by kernel_rfl
theorem QC : (Tryz.prog.underlying 242).isSome = true := by kernel_rfl
theorem XA : (Tryz.prog.underlying 3).isSome = true := by kernel_rfl
theorem Xy : (Tryz.prog.underlying 5).isSome = true := by kernel_rfl
theorem Nk : K4 zA0 9 = true := by kernel_rfl
theorem B4 : Gb zA0 112 6 = true := by kernel_rfl
theorem DW : Gb zA0 113 1 = true := by kernel_rfl
theorem J1 : Gb zA0 125 1 = true := by kernel_rfl
theorem In : Gb zA0 2 1 = true := by kernel_rfl
theorem Wd : Gb zA0 209 8 = true := by kernel_rfl
theorem VT : Gb zA0 22 1 = true := by kernel_rfl
theorem D0 : Gb zA0 25 4 = true := by kernel_rfl
theorem WV : Gb zA0 29 7 = true := by kernel_rfl
theorem CU : Gb zA0 3 1 = true := by kernel_rfl
theorem C2 : Gb zA0 37 11 = true := by kernel_rfl
theorem WZ : Gb zA0 38 1 = true := by kernel_rfl
theorem Ve : Gb zA0 4 1 = true := by kernel_rfl
theorem AS : Gb zA0 40 3 = true := by kernel_rfl
theorem GN : Gb zA0 67 3 = true := by kernel_rfl
theorem WN : Gb zA0 9 1 = true := by kernel_rfl
theorem JK : Dn zA0 112 = some (.agg #[.int .i64 0, .int .i64 0, .int .i64 0, .bool false, .slice none 0 0, .slice none 0 0]) := by kernel_rfl
theorem Lw : Dn zA0 113 = some (.int .u8 0) := by kernel_rfl
theorem Wk : Dn zA0 166 = some (.agg #[.int .i64 0, .int .i64 0, .bool false, .map none]) := by kernel_rfl
theorem TY : Dn zA0 2 = some (.int .i64 0) := by kernel_rfl
theorem Ut : Dn zA0 209 = some (.agg #[.string ⟨#[]⟩, .string ⟨#[]⟩, .string ⟨#[]⟩, .string ⟨#[]⟩, .string ⟨#[]⟩, .string ⟨#[]⟩, .string ⟨#[]⟩, .string ⟨#[]⟩]) := by kernel_rfl
theorem Wi : Dn zA0 25 = some (.agg #[.slice none 0 0, .slice none 0 0, .slice none 0 0, .slice none 0 0]) := by kernel_rfl
theorem Ok : Dn zA0 3 = some (.int .i64 0) := by kernel_rfl
theorem HB : Dn zA0 37 = some (.agg #[.int .i64 0, .int .i64 0, .int .i64 0, .int .i64 0, .int .i64 0, .int .i64 0, .int .i64 0, .int .i64 0, .int .i64 0, .int .i64 0, .int .i64 0]) := by kernel_rfl
theorem Do : Dn zA0 40 = some (.agg #[.slice none 0 0, .slice none 0 0, .slice none 0 0]) := by kernel_rfl
theorem QL : Dn zA0 67 = some (.agg #[.int .i64 0, .int .i64 0, .int .i64 0]) := by kernel_rfl
theorem Vt : Dn zA0 81 = some (.agg #[.slice none 0 0, .slice none 0 0, .slice none 0 0, .slice none 0 0, .slice none 0 0, .int .i64 0, .int .i64 0, .slice none 0 0, .slice none 0 0, .slice none 0 0]) := by kernel_rfl
theorem XB : Dn zA0 9 = some (.string ⟨#[]⟩) := by kernel_rfl
set_option maxRecDepth 10000
theorem F0 (N : Nat) (p0 : Int) (p1 : Int) (r : Bool) (h : C8 N p0 p1 = some r) : Ar zA0 102 [iD p0, iD p1] [] (bD r) := by
 unfold C8 at h
 refine cw (n := 12) (rs := [.tmp 4]) Tryz.func102 fun w0 S0 => ?_
 refine wq rfl (qe rfl ?_)
 refine AK h (fun v1 => mk [(4, bD v1)] []) (fun j1 h => ?_) (fun v1 h => ?_)
 ·refine Ak Ax rfl (qm rfl (DO rfl (qm rfl ?_)))
  refine CS 7 h rfl (fun h => ?_) fun h => ?_
  ·refine qw 2 rfl (Bc rfl (qp rfl (qe rfl ?_)))
   exact sn [] h
  ·refine qw 3 rfl (qp rfl (qe rfl ?_))
   exact sn [] h
 ·obtain rfl := sj h
  refine Ag (sm [] [(4, bD v1)] [] rfl rfl) (As ?_)
  exact ⟨⟨[_], tm, rfl⟩, tv⟩
theorem N9 (N : Nat) (p0 : Int) (p1 : Bool) (r : Bool) (h : Fr N p0 p1 = some r) : Ar zA0 144 [iD p0, bD p1] [] (bD r) := by
 unfold Fr at h
 refine cw (n := 23) (rs := [.tmp 4]) Tryz.func144 fun w0 S0 => ?_
 refine wq rfl (qe rfl ?_)
 refine AK h (fun v1 => mk [(4, bD v1)] []) (fun j1 h => ?_) (fun v1 h => ?_)
 ·refine Ak Ax rfl (qm rfl (AN rfl (qm rfl ?_)))
  refine CS 7 h rfl (fun h => ?_) fun h => ?_
  ·refine qw 2 rfl (qp rfl (qw 4 rfl (qu rfl (qu rfl (qw 2 rfl (qu rfl (qu rfl (qn rfl (qp rfl (qe rfl ?_))))))))))
   exact sn [] h
  ·refine qm rfl (AN rfl (qp rfl (qm rfl ?_)))
   refine CS 11 h rfl (fun h => ?_) fun h => ?_
   ·refine qw 3 rfl (qu rfl (qu rfl (qw 2 rfl (qu rfl (qu rfl (qn rfl (qp rfl (qe rfl ?_))))))))
    exact sn [] h
   ·refine qm rfl (AN rfl (qm rfl ?_))
    refine CS 14 h rfl (fun h => ?_) fun h => ?_
    ·refine qw 2 rfl (qp rfl (qw 2 rfl (CM rfl (qp rfl (qp rfl (qe rfl ?_))))))
     exact sn [] h
    ·refine qm rfl (AN rfl (qp rfl (qm rfl ?_)))
     refine CS 18 h rfl (fun h => ?_) fun h => ?_
     ·refine qm rfl (CM rfl (qp rfl (qp rfl (qe rfl ?_))))
      exact sn [] h
     ·refine qw 2 rfl (qp rfl (qp rfl (qe rfl ?_)))
      exact sn [] h
 ·obtain rfl := sj h
  refine Ag (sm [] [(4, bD v1)] [] rfl rfl) (As ?_)
  exact ⟨⟨[_], tm, rfl⟩, tv⟩
theorem KF (N : Nat) (p0 : List Bool) (p1 : Int) (r : Bool) (h : CZ N p0 p1 = some r) : Ar zA0 174 [pD (.sl (p0.map eB)), oD (.rop [.val (.int .i64 p1)])] [] (bD r) := by
 unfold CZ at h
 refine cw (n := 8) (rs := [.tmp 3]) Tryz.func174 fun w0 S0 => ?_
 refine wq rfl (qa rfl (Ac (wq rfl (qm rfl (AG H9 rfl (qk Bg rfl (BJ rfl (qe rfl ?_))))))))
 obtain rfl := sj h
 refine Ag (sm [] [(3, bD (((p0.length : Int) != p1)))] [] rfl rfl) (As ?_)
 exact ⟨⟨[_], tm, rfl⟩, tv⟩
theorem GD (N : Nat) (p0 : List (List Bool)) (p1 : (List Bool) → Option Bool) (r : Int) (h : Ct N p0 p1 = some r) : Ar zA0 189 [pD (.sl (p0.map (Li eB))), oD (.clo (IS (MX false (Li eB)) tB p1))] [] (iD r) := by
 unfold Ct at h
 refine cw (n := 19) (rs := [.tmp 4]) Tryz.func189 fun w0 S0 => ?_
 refine wq rfl (qa rfl (Ac (wp rfl (qm rfl (AG D6 rfl (qm rfl (Ac ?_)))))))
 refine Ba (L := A7 N p0 p1) h (fun v1 => mk [(0, pD (.sl (p0.map (Li eB)))), (1, oD (.clo (IS (MX false (Li eB)) tB p1))), (7, iD ((p0.length : Int))), (8, iD v1)] []) (fun v2 => mk [] []) (fun _ _ => rfl) (sm [] _ _ rfl rfl) (fun j1 n1 v1 h => ?_) (fun v2 s h hs => ?_)
 ·unfold A7 at h
  refine wq rfl (Bc rfl (Ac (AP ?_)))
  refine Bp h (fun h => ?_) fun h => ?_
  ·refine Aq (AP (AQ (wq rfl (qm rfl (qa rfl (Ac (wq rfl (qw 3 rfl ?_))))))))
   refine BW h fun v4 a4 b4 h => qi D6 J1 a4 (Ai b4) rfl (qk JX rfl ?_)
   refine Cg h fun v5 a5 h => Lm (ds0 := [_]) (ar := (MX false (Li eB)) v4) (.p rfl) rfl rfl ⟨rfl, tv⟩ rfl rfl rfl (Lj (Lg _ _ (WI WT)) a5) ?_
   refine Ac ?_
   refine Bp h (fun h => ?_) fun h => ?_
   ·refine wq rfl (qm rfl (qe rfl ?_))
    obtain rfl := sj h
    refine Ag (sm [] [(4, iD v1)] [] rfl rfl) (As ?_)
    exact ⟨⟨[_], tm, rfl⟩, tv⟩
   ·refine Aq (Ak Ax rfl (CB rfl (qm rfl (Ac ?_))))
    exact sn [] h
  ·refine B1 ?_
   exact sn [] h
 ·refine Ag hs (wq rfl (qe rfl ?_))
  obtain rfl := sj h
  refine Ag (sm [] [(4, iD ((-1)))] [] rfl rfl) (As ?_)
  exact ⟨⟨[_], tm, rfl⟩, tv⟩
theorem Gd (N : Nat) (p0 : List (List Bool)) (p1 : (List Bool) → Option Bool) (r : Bool) (h : Ca N p0 p1 = some r) : Ar zA0 173 [pD (.sl (p0.map (Li eB))), oD (.clo (IS (MX false (Li eB)) tB p1))] [] (bD r) := by
 unfold Ca at h
 refine cw (n := 9) (rs := [.tmp 4]) Tryz.func173 fun w0 S0 => ?_
 refine wq rfl (qa rfl (Ac (wq rfl (qw 2 rfl ?_))))
 refine Cg h fun v1 a1 h => Ay [] (GD N p0 p1 v1 a1) V9 rfl (DO rfl (qe rfl ?_))
 obtain rfl := sj h
 refine Ag (sm [] [(4, bD ((decide (0 ≤ v1))))] [] rfl rfl) (As ?_)
 exact ⟨⟨[_], tm, rfl⟩, tv⟩
theorem IU (N : Nat) (p0 : List (List Bool)) (p1 : Int) (p2 : Int) (r : Bool) (h : D8 N p0 p1 p2 = some r) : Ar zA0 145 [pD (.sl (p0.map (Li eB))), iD p1, iD p2] [] (bD r) := by
 unfold D8 at h
 refine cw (n := 17) (rs := [.tmp 6]) Tryz.func145 fun w0 S0 => ?_
 refine wq rfl (qb rfl (qe rfl ?_))
 refine AK h (fun v1 => mk [(6, bD v1)] []) (fun j1 h => ?_) (fun v1 h => ?_)
 ·refine Ak Ax rfl (qm rfl (AG D6 rfl (qm rfl (AN rfl (qm rfl ?_)))))
  refine CS 11 h rfl (fun h => ?_) fun h => ?_
  ·refine qm rfl (FI (IA 5 [.val (.int .i64 p2)] rfl rfl) ?_)
   refine PL (capD := [_]) (IS (MX false (Li eB)) tB ((fun (x : List Bool) => CZ N x p2))) (.g rfl rfl) V6 rfl ⟨rfl, tv⟩ rfl (fun ar t ht => by obtain ⟨x, r, rfl, hq, rfl⟩ := I4 ht; exact KF N x p2 r hq) ?_
   refine Cg h fun v3 a3 h => Ay [] (Gd N p0 ((fun (x : List Bool) => CZ N x p2)) v3 a3) Wh rfl (CM rfl (qp rfl (qe rfl ?_)))
   exact sn [] h
  ·refine qw 4 rfl (qp rfl (qe rfl ?_))
   exact sn [] h
 ·obtain rfl := sj h
  refine Ag (sm [] [(6, bD v1)] [] rfl rfl) (As ?_)
  exact ⟨⟨[_], tm, rfl⟩, tv⟩
theorem MF (N : Nat) (p0 : Aa) (p1 : AI) (r : Int) (h : EZ N p0 p1 = some r) : Ar zA0 103 [.e (.agg (Am p0)), .e (.agg (CG p1))] [] (iD r) := by
 unfold EZ at h
 refine cw (n := 87) (rs := [.tmp 4]) Tryz.func103 fun w0 S0 => ?_
 refine wq rfl (qb rfl (qb rfl (qa rfl (Ac (wp rfl (qf DZ rfl (ql Bg rfl (qf Pk rfl (ql Ul rfl ?_)))))))))
 refine Cg h fun v1 a1 h => Ay [] (N9 N p1.fa p1.fQ v1 a1) Wg rfl (CM rfl (Ac ?_))
 refine Bp h (fun h => ?_) fun h => ?_
 ·refine wq rfl (qe rfl ?_)
  obtain rfl := sj h
  refine Ag (sm [] [(4, iD 1)] [] rfl rfl) (As ?_)
  exact ⟨⟨[_], tm, rfl⟩, tv⟩
 ·refine Aq (AP ?_)
  refine AK h (fun v3 => mk [(2, oD (.ptr 2 0)), (3, oD (.ptr 3 0)), (29, bD v3)] [(2, .box (Am p0)), (3, .box (CG p1))]) (fun j3 h => ?_) (fun v3 h => ?_)
  ·refine Ak Ax rfl (qf Cp rfl (ql Bg rfl (qf BI rfl (ql Bi rfl (AG AC rfl ?_)))))
   refine Cg h fun v4 a4 h => Ay [] (F0 N p1.fj ((p0.fc.length : Int)) v4 a4) Qd rfl (CM rfl (qm rfl ?_))
   refine CS 21 h rfl (fun h => ?_) fun h => ?_
   ·refine qw 7 rfl (qp rfl (Ac ?_))
    exact sn [] h
   ·refine qf G4 rfl (ql Bg rfl (qf BI rfl (ql Bi rfl (AG AC rfl ?_))))
    refine Cg h fun v6 a6 h => Ay [] (F0 N p1.fC ((p0.fc.length : Int)) v6 a6) Qd rfl (CM rfl (qp rfl (Ac ?_)))
    exact sn [] h
  ·refine Bp h (fun h => ?_) fun h => ?_
   ·refine wq rfl (qe rfl ?_)
    obtain rfl := sj h
    refine Ag (sm [] [(4, iD 4)] [] rfl rfl) (As ?_)
    exact ⟨⟨[_], tm, rfl⟩, tv⟩
   ·refine Aq (wq rfl (qf BI rfl (ql Bi rfl (qf Cp rfl (ql Bg rfl ?_)))))
    refine BW h fun v8 a8 b8 h => qi AC CU a8 (Ai b8) rfl (qk Bg rfl (qa rfl (Ac (wq rfl (qf DZ rfl (ql Bg rfl (AN rfl (qa rfl (Ac (AP ?_))))))))))
    refine AK h (fun v9 => mk [(3, oD (.ptr 3 0)), (70, bD v9)] [(3, .box (CG p1))]) (fun j9 h => ?_) (fun v9 h => ?_)
    ·refine Ak Ax rfl (qf Hk rfl (ql Fq rfl (qm rfl (qf BI rfl (ql Bi rfl (qf G4 rfl (ql Bg rfl ?_)))))))
     refine BW h fun v10 a10 b10 h => qi AC CU a10 (Ai b10) rfl (qk Bg rfl ?_)
     refine Cg h fun v11 a11 h => Ay [] (IU N p1.fD v8 v10 v11 a11) TU rfl (CM rfl (qm rfl ?_))
     refine CS 50 h rfl (fun h => ?_) fun h => ?_
     ·refine qw 2 rfl (qu rfl (qu rfl (qu rfl (qu rfl (qu rfl (qu rfl (qn rfl (qp rfl (qw 4 rfl (qu rfl (qu rfl (qu rfl (qu rfl (qn rfl (qp rfl (AH (by kernel_rfl) ?_))))))))))))))))
      exact sn [] h
     ·refine qw 2 rfl ?_
      refine CS 52 h rfl (fun h => ?_) fun h => ?_
      ·refine qf Ec rfl (ql Fq rfl (qw 2 rfl ?_))
       refine Cg h fun v14 a14 h => Ay [] (IU N p1.fv v8 v8 v14 a14) TU rfl (CM rfl (qp rfl (qp rfl (qm rfl ?_))))
       refine CS 61 h rfl (fun h => ?_) fun h => ?_
       ·refine qw 3 rfl (qu rfl (qu rfl (qu rfl (qu rfl (qn rfl (qp rfl (AH (by kernel_rfl) ?_)))))))
        exact sn [] h
       ·refine qm rfl (CM rfl (qm rfl ?_))
        refine CS 64 h rfl (fun h => ?_) fun h => ?_
        ·refine qf Ec rfl (ql Fq rfl (AG D6 rfl (Ei rfl (qp rfl (qp rfl (AH (by kernel_rfl) ?_))))))
         exact sn [] h
        ·refine qw 4 rfl (qp rfl (qp rfl (AH (by kernel_rfl) ?_)))
         exact sn [] h
      ·refine qw 6 rfl (qp rfl (qp rfl (qw 2 rfl (CM rfl (qm rfl ?_)))))
       refine CS 64 h rfl (fun h => ?_) fun h => ?_
       ·refine qf Ec rfl (ql Fq rfl (AG D6 rfl (Ei rfl (qp rfl (qp rfl (AH (by kernel_rfl) ?_))))))
        exact sn [] h
       ·refine qw 4 rfl (qp rfl (qp rfl (AH (by kernel_rfl) ?_)))
        exact sn [] h
    ·refine Bp h (fun h => ?_) fun h => ?_
     ·refine wq rfl (qe rfl ?_)
      obtain rfl := sj h
      refine Ag (sm [] [(4, iD 6)] [] rfl rfl) (As ?_)
      exact ⟨⟨[_], tm, rfl⟩, tv⟩
     ·refine Aq (wp rfl (qf Ec rfl (ql Fq rfl (AG D6 rfl (qm rfl (Ac ?_))))))
      refine Ba (L := Ci N p1) h (fun v19 => mk [(3, oD (.ptr 3 0)), (73, iD ((p1.fv.length : Int))), (74, iD v19)] [(3, .box (CG p1))]) (fun v20 => mk [] []) (fun _ _ => rfl) (sm [] _ _ rfl rfl) (fun j19 n19 v19 h => ?_) (fun v20 s h hs => ?_)
      ·unfold Ci at h
       refine wq rfl (Bc rfl (Ac (AP ?_)))
       refine Bp h (fun h => ?_) fun h => ?_
       ·refine Aq (AP (AQ (wq rfl (qm rfl (qa rfl (Ac (wq rfl (qf Ec rfl (ql Fq rfl (qm rfl ?_))))))))))
        refine BW h fun v22 a22 b22 h => qi D6 J1 a22 (Ai b22) rfl (qk JX rfl (qm rfl ?_))
        refine BW h fun v23 a23 b23 h => qi H9 Ve a23 (Ai b23) rfl (qk Ul rfl (CM rfl (Ac ?_)))
        refine Bp h (fun h => ?_) fun h => ?_
        ·refine wq rfl (qe rfl ?_)
         obtain rfl := sj h
         refine Ag (sm [] [(4, iD 1)] [] rfl rfl) (As ?_)
         exact ⟨⟨[_], tm, rfl⟩, tv⟩
        ·refine Aq (Ak Ax rfl (CB rfl (qm rfl (Ac ?_))))
         exact sn [] h
       ·refine B1 ?_
        exact sn [] h
      ·refine Ag hs (wq rfl (qe rfl ?_))
       obtain rfl := sj h
       refine Ag (sm [] [(4, iD 0)] [] rfl rfl) (As ?_)
       exact ⟨⟨[_], tm, rfl⟩, tv⟩
theorem D9 (N : Nat) (p0 : Aa) (r : Int) (h : BQ N p0 = some r) : Ar zA0 59 [.e (.agg (Am p0))] [] (iD r) := by
 unfold BQ at h
 refine cw (n := 81) (rs := [.tmp 2]) Tryz.func59 fun w0 S0 => ?_
 refine wq rfl (qb rfl (qa rfl (Ac (wq rfl (qf BI rfl (ql Bi rfl (AG AC rfl (qa rfl (Ac (AP ?_))))))))))
 refine AK h (fun v1 => mk [(1, oD (.ptr 1 0)), (3, iD ((p0.fc.length : Int))), (19, bD v1)] [(1, .box (Am p0))]) (fun j1 h => ?_) (fun v1 h => ?_)
 ·refine Ak Ax rfl (qm rfl (Ei rfl (qm rfl ?_)))
  refine CS 14 h rfl (fun h => ?_) fun h => ?_
  ·refine qw 4 rfl (qp rfl (Ac ?_))
   exact sn [] h
  ·refine qf BO rfl (ql Fb rfl (AG Da rfl (Ei rfl (qp rfl (Ac ?_)))))
   exact sn [] h
 ·refine Bp h (fun h => ?_) fun h => ?_
  ·refine wq rfl (qe rfl ?_)
   obtain rfl := sj h
   refine Ag (sm [] [(2, iD 3)] [] rfl rfl) (As ?_)
   exact ⟨⟨[_], tm, rfl⟩, tv⟩
  ·refine Aq (AP ?_)
   refine AK h (fun v4 => mk [(1, oD (.ptr 1 0)), (31, bD v4)] [(1, .box (Am p0))]) (fun j4 h => ?_) (fun v4 h => ?_)
   ·refine Ak Ax rfl (qf FV rfl (ql Bi rfl (AG AC rfl (qm rfl (BJ rfl (qm rfl ?_))))))
    refine CS 25 h rfl (fun h => ?_) fun h => ?_
    ·refine qw 5 rfl (qp rfl (Ac ?_))
     exact sn [] h
    ·refine qf IY rfl (ql Bi rfl (AG AC rfl (qm rfl (BJ rfl (qp rfl (Ac ?_))))))
     exact sn [] h
   ·refine Bp h (fun h => ?_) fun h => ?_
    ·refine wq rfl (qe rfl ?_)
     obtain rfl := sj h
     refine Ag (sm [] [(2, iD 6)] [] rfl rfl) (As ?_)
     exact ⟨⟨[_], tm, rfl⟩, tv⟩
    ·refine Aq (wp rfl (qf BI rfl (ql Bi rfl (AG AC rfl (qm rfl (Ac ?_))))))
     refine Ba (L := Bw N p0) h (fun v7 => mk [(1, oD (.ptr 1 0)), (33, pD (.sl (p0.fc.map Au))), (34, iD ((p0.fc.length : Int))), (35, iD v7)] [(1, .box (Am p0))]) (fun v8 => mk [(1, oD (.ptr 1 0))] [(1, .box (Am p0))]) (fun _ _ => rfl) (sm [] _ _ rfl rfl) (fun j7 n7 v7 h => ?_) (fun v8 s h hs => ?_)
     ·unfold Bw at h
      refine wq rfl (Bc rfl (Ac (AP ?_)))
      refine Bp h (fun h => ?_) fun h => ?_
      ·refine Aq (AP (AQ (wq rfl (qm rfl ?_))))
       refine BW h fun v10 a10 b10 h => qi AC CU a10 (Ai b10) rfl (qk Bg rfl (qa rfl (qe rfl ?_)))
       refine AK h (fun v11 => mk [(1, oD (.ptr 1 0)), (33, pD (.sl (p0.fc.map Au))), (34, iD ((p0.fc.length : Int))), (35, iD v7), (65, bD v11)] [(1, .box (Am p0))]) (fun j11 h => ?_) (fun v11 h => ?_)
       ·refine Ak Ax rfl (qm rfl (Bc rfl (qm rfl ?_)))
        refine CS 42 h rfl (fun h => ?_) fun h => ?_
        ·refine qw 2 rfl (qp rfl (qw 9 rfl (qp rfl (qw 9 rfl (qp rfl (Ac ?_))))))
         exact sn [] h
        ·refine qm rfl (Ei rfl (qp rfl (qm rfl ?_)))
         refine CS 46 h rfl (fun h => ?_) fun h => ?_
         ·refine qw 8 rfl (qp rfl (qw 9 rfl (qp rfl (Ac ?_))))
          exact sn [] h
         ·refine qf FV rfl (ql Bi rfl (qm rfl ?_))
          refine BW h fun v14 a14 b14 h => qi AC CU a14 (Ai b14) rfl (qk Bg rfl (qm rfl ?_))
          refine Cg h fun v15 a15 h => Ay [] (F0 N v14 v10 v15 a15) Qd rfl (CM rfl (qp rfl (qm rfl ?_)))
          refine CS 56 h rfl (fun h => ?_) fun h => ?_
          ·refine qw 8 rfl (qp rfl (Ac ?_))
           exact sn [] h
          ·refine qf IY rfl (ql Bi rfl (qm rfl ?_))
           refine BW h fun v17 a17 b17 h => qi AC CU a17 (Ai b17) rfl (qk Bg rfl (qm rfl ?_))
           refine Cg h fun v18 a18 h => Ay [] (F0 N v17 v10 v18 a18) Qd rfl (CM rfl (qp rfl (Ac ?_)))
           exact sn [] h
       ·refine Bp h (fun h => ?_) fun h => ?_
        ·refine wq rfl (qe rfl ?_)
         obtain rfl := sj h
         refine Ag (sm [] [(2, iD 7)] [] rfl rfl) (As ?_)
         exact ⟨⟨[_], tm, rfl⟩, tv⟩
        ·refine Aq (Ak Ax rfl (CB rfl (qm rfl (Ac ?_))))
         exact sn [] h
      ·refine B1 ?_
       exact sn [] h
     ·refine Ag hs (wp rfl (qf BO rfl (ql Fb rfl (AG Da rfl (qm rfl (Ac ?_))))))
      refine Ba (L := Bo N p0) h (fun v20 => mk [(1, oD (.ptr 1 0)), (68, pD (.sl (p0.fd.map BF))), (69, iD ((p0.fd.length : Int))), (70, iD v20)] [(1, .box (Am p0))]) (fun v21 => mk [] []) (fun _ _ => rfl) (sm [] _ _ rfl rfl) (fun j20 n20 v20 h => ?_) (fun v21 s h hs => ?_)
      ·unfold Bo at h
       refine wq rfl (Bc rfl (Ac (AP ?_)))
       refine Bp h (fun h => ?_) fun h => ?_
       ·refine Aq (AP (AQ (wq rfl ?_)))
        refine BW h fun v23 a23 b23 h => qi Da B4 a23 (Ai b23) rfl (qK E8 B4 rfl (qz JK rfl (qs B4 rfl (Ac (wq rfl (qL D2 D0 rfl (qL E8 B4 rfl ?_)))))))
        refine Cg h fun v24 a24 h => Ay [] (MF N p0 v23 v24 a24) VX rfl (qa rfl (Ac (wq rfl (qm rfl (BJ rfl (Ac ?_))))))
        refine Bp h (fun h => ?_) fun h => ?_
        ·refine wq rfl (qm rfl (qe rfl ?_))
         obtain rfl := sj h
         refine Ag (sm [] [(2, iD v24)] [] rfl rfl) (As ?_)
         exact ⟨⟨[_], tm, rfl⟩, tv⟩
        ·refine Aq (Ak Ax rfl (CB rfl (qm rfl (Ac ?_))))
         exact sn [] h
       ·refine B1 ?_
        exact sn [] h
      ·refine Ag hs (wq rfl (qe rfl ?_))
       obtain rfl := sj h
       refine Ag (sm [] [(2, iD 0)] [] rfl rfl) (As ?_)
       exact ⟨⟨[_], tm, rfl⟩, tv⟩
theorem G9 (N : Nat) (p0 : List Int) (p1 : Int → Option Bool) (r : Int) (h : CO N p0 p1 = some r) : Ar zA0 147 [pD (.sl (p0.map Au)), oD (.clo (IS (MX false Au) tB p1))] [] (iD r) := by
 unfold CO at h
 refine cw (n := 19) (rs := [.tmp 4]) Tryz.func147 fun w0 S0 => ?_
 refine wq rfl (qa rfl (Ac (wp rfl (qm rfl (AG AC rfl (qm rfl (Ac ?_)))))))
 refine Ba (L := A0 N p0 p1) h (fun v1 => mk [(0, pD (.sl (p0.map Au))), (1, oD (.clo (IS (MX false Au) tB p1))), (7, iD ((p0.length : Int))), (8, iD v1)] []) (fun v2 => mk [] []) (fun _ _ => rfl) (sm [] _ _ rfl rfl) (fun j1 n1 v1 h => ?_) (fun v2 s h hs => ?_)
 ·unfold A0 at h
  refine wq rfl (Bc rfl (Ac (AP ?_)))
  refine Bp h (fun h => ?_) fun h => ?_
  ·refine Aq (AP (AQ (wq rfl (qm rfl (qa rfl (Ac (wq rfl (qw 3 rfl ?_))))))))
   refine BW h fun v4 a4 b4 h => qi AC CU a4 (Ai b4) rfl (qk Bg rfl ?_)
   refine Cg h fun v5 a5 h => Lm (ds0 := [_]) (ar := (MX false Au) v4) (.p rfl) rfl rfl ⟨rfl, tv⟩ rfl rfl rfl (Lj (Lg _ _ Sp) a5) ?_
   refine Ac ?_
   refine Bp h (fun h => ?_) fun h => ?_
   ·refine wq rfl (qm rfl (qe rfl ?_))
    obtain rfl := sj h
    refine Ag (sm [] [(4, iD v1)] [] rfl rfl) (As ?_)
    exact ⟨⟨[_], tm, rfl⟩, tv⟩
   ·refine Aq (Ak Ax rfl (CB rfl (qm rfl (Ac ?_))))
    exact sn [] h
  ·refine B1 ?_
   exact sn [] h
 ·refine Ag hs (wq rfl (qe rfl ?_))
  obtain rfl := sj h
  refine Ag (sm [] [(4, iD ((-1)))] [] rfl rfl) (As ?_)
  exact ⟨⟨[_], tm, rfl⟩, tv⟩
theorem Gr (N : Nat) (p0 : List Int) (p1 : Int → Option Bool) (r : Bool) (h : BR N p0 p1 = some r) : Ar zA0 108 [pD (.sl (p0.map Au)), oD (.clo (IS (MX false Au) tB p1))] [] (bD r) := by
 unfold BR at h
 refine cw (n := 9) (rs := [.tmp 4]) Tryz.func108 fun w0 S0 => ?_
 refine wq rfl (qa rfl (Ac (wq rfl (qw 2 rfl ?_))))
 refine Cg h fun v1 a1 h => Ay [] (G9 N p0 p1 v1 a1) Wa rfl (DO rfl (qe rfl ?_))
 obtain rfl := sj h
 refine Ag (sm [] [(4, bD ((decide (0 ≤ v1))))] [] rfl rfl) (As ?_)
 exact ⟨⟨[_], tm, rfl⟩, tv⟩
theorem JW (N : Nat) (p0 : Int) (r : Bool) (h : DU N p0 = some r) : Ar zA0 109 [iD p0] [] (bD r) := by
 unfold DU at h
 refine cw (n := 9) (rs := [.tmp 2]) Tryz.func109 fun w0 S0 => ?_
 refine wq rfl (qe rfl ?_)
 refine AK h (fun v1 => mk [(2, bD v1)] []) (fun j1 h => ?_) (fun v1 h => ?_)
 ·refine Ak Ax rfl (qm rfl (Bc rfl (qm rfl ?_)))
  refine CS 5 h rfl (fun h => ?_) fun h => ?_
  ·refine qw 2 rfl (qp rfl (qe rfl ?_))
   exact sn [] h
  ·refine qm rfl (Ei rfl (qp rfl (qe rfl ?_)))
   exact sn [] h
 ·obtain rfl := sj h
  refine Ag (sm [] [(2, bD v1)] [] rfl rfl) (As ?_)
  exact ⟨⟨[_], tm, rfl⟩, tv⟩
theorem K8 (N : Nat) (p0 : Aa) (p1 : List Int) (r : Int) (h : Et N p0 p1 = some r) : Ar zA0 71 [.e (.agg (Am p0)), pD (.sl (p1.map Au))] [] (iD r) := by
 unfold Et at h
 refine cw (n := 15) (rs := [.tmp 4]) Tryz.func71 fun w0 S0 => ?_
 refine wq rfl (qb rfl (qa rfl (Ac (AP (AQ (wq rfl (qm rfl (AG AC rfl (qf BI rfl (ql Bi rfl (AG AC rfl (BJ rfl (qe rfl ?_)))))))))))))
 refine Bp h (fun h => ?_) fun h => ?_
 ·refine wq rfl (qe rfl ?_)
  obtain rfl := sj h
  refine Ag (sm [] [(4, iD 6)] [] rfl rfl) (As ?_)
  exact ⟨⟨[_], tm, rfl⟩, tv⟩
 ·refine wq rfl (qm rfl ?_)
  refine Cg h fun v2 a2 h => Ay [] (Ar.weak (ds' := [pD (.sl (p1.map Au)), oD (.fnc 109)]) (Gr N p1 ((fun (x : Int) => DU N x)) v2 a2) ⟨(fun _ _ _ hh => hh), (fun _ _ _ hh => NN VV (fun ar t ht => by obtain ⟨x, r, rfl, hq, rfl⟩ := I4 ht; exact JW N x r hq) hh), tv⟩) Vl rfl ?_
  refine qa rfl (Ac ?_)
  refine Bp h (fun h => ?_) fun h => ?_
  ·refine wq rfl (qe rfl ?_)
   obtain rfl := sj h
   refine Ag (sm [] [(4, iD 7)] [] rfl rfl) (As ?_)
   exact ⟨⟨[_], tm, rfl⟩, tv⟩
  ·refine Aq (wq rfl (qe rfl ?_))
   obtain rfl := sj h
   refine Ag (sm [] [(4, iD 0)] [] rfl rfl) (As ?_)
   exact ⟨⟨[_], tm, rfl⟩, tv⟩
theorem Fh (N : Nat) (p0 : List Al) (p1 : Al → Option Bool) (r : Int) (h : Bn N p0 p1 = some r) : Ar zA0 148 [pD (.sl (p0.map AM)), oD (.clo (IS (MX true AM) tB p1))] [] (iD r) := by
 unfold Bn at h
 refine cw (n := 19) (rs := [.tmp 4]) Tryz.func148 fun w0 S0 => ?_
 refine wq rfl (qa rfl (Ac (wp rfl (qm rfl (AG Hi rfl (qm rfl (Ac ?_)))))))
 refine Ba (L := AL N p0 p1) h (fun v1 => mk [(0, pD (.sl (p0.map AM))), (1, oD (.clo (IS (MX true AM) tB p1))), (7, iD ((p0.length : Int))), (8, iD v1)] []) (fun v2 => mk [] []) (fun _ _ => rfl) (sm [] _ _ rfl rfl) (fun j1 n1 v1 h => ?_) (fun v2 s h hs => ?_)
 ·unfold AL at h
  refine wq rfl (Bc rfl (Ac (AP ?_)))
  refine Bp h (fun h => ?_) fun h => ?_
  ·refine Aq (AP (AQ (wq rfl (qm rfl (qa rfl (Ac (wq rfl (qw 3 rfl ?_))))))))
   refine BW h fun v4 a4 b4 h => qi Hi GN a4 (Ai b4) rfl (qK Ju GN rfl ?_)
   refine Cg h fun v5 a5 h => Lm (ds0 := [_]) (ar := (MX true AM) v4) (.p rfl) rfl rfl ⟨rfl, tv⟩ rfl rfl rfl (Lj (Lg _ _ P5) a5) ?_
   refine Ac ?_
   refine Bp h (fun h => ?_) fun h => ?_
   ·refine wq rfl (qm rfl (qe rfl ?_))
    obtain rfl := sj h
    refine Ag (sm [] [(4, iD v1)] [] rfl rfl) (As ?_)
    exact ⟨⟨[_], tm, rfl⟩, tv⟩
   ·refine Aq (Ak Ax rfl (CB rfl (qm rfl (Ac ?_))))
    exact sn [] h
  ·refine B1 ?_
   exact sn [] h
 ·refine Ag hs (wq rfl (qe rfl ?_))
  obtain rfl := sj h
  refine Ag (sm [] [(4, iD ((-1)))] [] rfl rfl) (As ?_)
  exact ⟨⟨[_], tm, rfl⟩, tv⟩
theorem EX (N : Nat) (p0 : List Al) (p1 : Al → Option Bool) (r : Bool) (h : Bd N p0 p1 = some r) : Ar zA0 110 [pD (.sl (p0.map AM)), oD (.clo (IS (MX true AM) tB p1))] [] (bD r) := by
 unfold Bd at h
 refine cw (n := 9) (rs := [.tmp 4]) Tryz.func110 fun w0 S0 => ?_
 refine wq rfl (qa rfl (Ac (wq rfl (qw 2 rfl ?_))))
 refine Cg h fun v1 a1 h => Ay [] (Fh N p0 p1 v1 a1) We rfl (DO rfl (qe rfl ?_))
 obtain rfl := sj h
 refine Ag (sm [] [(4, bD ((decide (0 ≤ v1))))] [] rfl rfl) (As ?_)
 exact ⟨⟨[_], tm, rfl⟩, tv⟩
theorem I7 (N : Nat) (p0 : Al) (r : Bool) (h : Dw N p0 = some r) : Ar zA0 111 [.e (.agg (Cb p0))] [] (bD r) := by
 unfold Dw at h
 refine cw (n := 6) (rs := [.tmp 2]) Tryz.func111 fun w0 S0 => ?_
 refine wq rfl (qb rfl (qa rfl (Ac (wq rfl (qf DF rfl (ql Bg rfl (AN rfl (qe rfl ?_))))))))
 obtain rfl := sj h
 refine Ag (sm [] [(2, bD ((p0.fa == 4)))] [] rfl rfl) (As ?_)
 exact ⟨⟨[_], tm, rfl⟩, tv⟩
theorem EC (N : Nat) (p0 : List Int) (r : (List Int)) (h : BS N p0 = some r) : Ar zA0 149 [pD (.sl (p0.map Au))] [(1, r.map Au)] (oD (.own 0)) := by
 unfold BS at h
 refine cw (n := 8) (rs := [.tmp 2]) Tryz.func149 fun w0 S0 => ?_
 refine wq rfl (qa rfl (Ac (wp rfl (qm rfl ?_))))
 refine Nw (.p rfl) rfl AC ?_
 refine Ac ?_
 refine NB rfl (fun c2 => ?_) ?_
 ·have c2 := zI4.1 c2
  rw [c2] at h
  have h : (some (([] : List Int))) = some r := h
  refine wq rfl (qe rfl ?_)
  obtain rfl := sj h
  refine Ag ((E0 2 2001 1 rfl rfl rfl).trans (sm [(1000, 2001)] [(2, oD (.own 1000))] [(1000, .vec 1 ((([] : List Int)).map Au))] rfl rfl)) (As ?_)
  exact ⟨⟨[_], tm, rfl⟩, ⟨rfl, tv⟩⟩
 ·refine Aq (wq rfl (Fm AC CU Ok rfl (qm rfl ?_)))
  refine HH h fun c1 h => KA (f := Au) AC AC CU QY Ok (fun _ => rfl) c1 rfl (qe rfl ?_)
  obtain rfl := sj h
  refine Ag (sm [(1000, 7)] [(2, oD (.own 1000))] [(1000, .vec 1 (((([] : List Int)) ++ p0).map Au))] rfl rfl) (As ?_)
  exact ⟨⟨[_], tm, rfl⟩, ⟨rfl, tv⟩⟩
theorem Ki (N : Nat) (p0 : Int) (p1 : Int) (r : Int × Int) (h : FE N p0 p1 = some r) : Ar zA0 190 [pD (.val (.int .u32 p0)), pD (.val (.int .u32 p1))] [] (.tup [.one (.pure (.val (.int .u32 r.1))), .one (.pure (.val (.int .u32 r.2)))]) := by
 unfold FE at h
 refine cw (n := 17) (rs := [.tmp 4, .tmp 5]) Tryz.func190 fun w0 S0 => ?_
 refine wq rfl (qa rfl (qa rfl (Ac (wq rfl (qm rfl (Kt QC Uq rfl (qm rfl (Kt QC Uq rfl (MR rfl (qa rfl (Ac (wq rfl (qm rfl (KP rfl (by decide) (Kt TW Qa rfl (qm rfl (Kt TW Qa rfl (qa rfl (qe rfl ?_)))))))))))))))))))
 obtain rfl := sj h
 refine Ag (sm [] [(4, pD (.val (.int .u32 ((wI .u32 ((FM .u64 ((wI .u64 ((wI .u64 p0) * (wI .u64 p1)))) 32))))))), (5, pD (.val (.int .u32 ((wI .u32 ((wI .u64 ((wI .u64 p0) * (wI .u64 p1)))))))))] [] rfl rfl) (As ?_)
 exact ⟨⟨[_, _], ⟨.tmp _ _ rfl, tm⟩, rfl⟩, tv⟩
theorem J0 (N : Nat) (p0 : Int) (p1 : Int) (r : Int × Int) (h : FD N p0 p1 = some r) : Ar zA0 191 [pD (.val (.int .u64 p0)), pD (.val (.int .u64 p1))] [] (.tup [.one (.pure (.val (.int .u64 r.1))), .one (.pure (.val (.int .u64 r.2)))]) := by
 unfold FD at h
 refine cw (n := 51) (rs := [.tmp 4, .tmp 5]) Tryz.func191 fun w0 S0 => ?_
 refine wq rfl (qa rfl (qa rfl (Ac (wq rfl (qm rfl (Nb rfl (qa rfl (Ac (wq rfl (qm rfl (KP rfl (by decide) (qa rfl (Ac (wq rfl (qm rfl (Nb rfl (qa rfl (Ac (wq rfl (qm rfl (KP rfl (by decide) (qa rfl (Ac (wq rfl (qw 2 rfl (MR rfl (qa rfl (Ac (wq rfl (qw 2 rfl ?_))))))))))))))))))))))))))))))
 refine MR rfl (qm rfl (KP rfl (by decide) (CB rfl (qa rfl (Ac (wq rfl (qm rfl (Nb rfl (qa rfl (Ac (wq rfl (qm rfl (KP rfl (by decide) (qa rfl (Ac (wq rfl (qw 3 rfl (MR rfl (CB rfl (qa rfl (Ac (wq rfl (qw 2 rfl (MR rfl (qm rfl (CB rfl (qm rfl (KP rfl (by decide) (CB rfl (qa rfl (Ac (AP ?_))))))))))))))))))))))))))))))))
 refine Ak Ax rfl (qw 2 rfl (MR rfl (qe rfl ?_)))
 obtain rfl := sj h
 refine Ag (sm [] [(4, pD (.val (.int .u64 ((wI .u64 ((wI .u64 ((wI .u64 ((FM .u64 p0 32) * (FM .u64 p1 32))) + (FM .u64 ((wI .u64 ((wI .u64 ((FM .u64 p0 32) * (FB .u64 p1 4294967295))) + (FM .u64 ((wI .u64 ((FB .u64 p0 4294967295) * (FB .u64 p1 4294967295)))) 32)))) 32))) + (FM .u64 ((wI .u64 ((FB .u64 ((wI .u64 ((wI .u64 ((FM .u64 p0 32) * (FB .u64 p1 4294967295))) + (FM .u64 ((wI .u64 ((FB .u64 p0 4294967295) * (FB .u64 p1 4294967295)))) 32)))) 4294967295) + (wI .u64 ((FB .u64 p0 4294967295) * (FM .u64 p1 32)))))) 32))))))), (5, pD (.val (.int .u64 ((wI .u64 (p0 * p1))))))] [] rfl rfl) (As ?_)
 exact ⟨⟨[_, _], ⟨.tmp _ _ rfl, tm⟩, rfl⟩, tv⟩
theorem K5 (N : Nat) (p0 : Int) (p1 : Int) (r : Int × Int) (h : Gg N p0 p1 = some r) : Ar zA0 175 [pD (.val (.int .u64 p0)), pD (.val (.int .u64 p1))] [] (.tup [.one (.pure (.val (.int .u64 r.1))), .one (.pure (.val (.int .u64 r.2)))]) := by
 unfold Gg at h
 refine cw (n := 30) (rs := [.tmp 4, .tmp 5]) Tryz.func175 fun w0 S0 => ?_
 refine wq rfl (qa rfl (qa rfl (Ac (AP ?_))))
 refine Bp h (fun h => ?_) fun h => ?_
 ·refine wq rfl (qm rfl (Kt Sx Qa rfl (qm rfl (Kt Sx Qa rfl ?_))))
  refine Cg h fun v2 a2 h => Ay [] (Ki N ((wI .u32 p0)) ((wI .u32 p1)) v2 a2) V1 rfl (qm rfl (qx rfl (qx rfl (qa rfl (qa rfl (Ac (wq rfl (qm rfl (Kt QC Qy rfl (qm rfl (Kt QC Qy rfl (qa rfl (qe rfl ?_)))))))))))))
  obtain rfl := sj h
  refine Ag (sm [] [(4, pD (.val (.int .u64 ((wI .u64 v2.1))))), (5, pD (.val (.int .u64 ((wI .u64 v2.2)))))] [] rfl rfl) (As ?_)
  exact ⟨⟨[_, _], ⟨.tmp _ _ rfl, tm⟩, rfl⟩, tv⟩
 ·refine Aq (wq rfl (qw 2 rfl ?_))
  refine Cg h fun v3 a3 h => Ay [] (J0 N p0 p1 v3 a3) WA rfl (qm rfl (qx rfl (qx rfl (qa rfl (qa rfl (Ac (wq rfl (qw 2 rfl (qa rfl (qe rfl ?_))))))))))
  obtain rfl := sj h
  refine Ag (sm [] [(4, pD (.val (.int .u64 v3.1))), (5, pD (.val (.int .u64 v3.2)))] [] rfl rfl) (As ?_)
  exact ⟨⟨[_, _], ⟨.tmp _ _ rfl, tm⟩, rfl⟩, tv⟩
theorem HR (N : Nat) (p0 : List Int) (p1 : Int) (r : (List Int)) (h : Dp N p0 p1 = some r) : Ar zA0 150 [pD (.sl (p0.map Au)), iD p1] [(1, r.map Au)] (oD (.own 0)) := by
 unfold Dp at h
 refine cw (n := 48) (rs := [.tmp 4]) Tryz.func150 fun w0 S0 => ?_
 refine wq rfl (qe rfl ?_)
 refine AK h (fun v1 => mk [(0, pD (.sl (p0.map Au))), (1, iD p1)] []) (fun j1 h => ?_) (fun v1 h => ?_)
 ·refine wq rfl (qm rfl (Bc rfl (Ac ?_)))
  refine Bp h (fun h => ?_) fun h => ?_
  ·refine Ak Ax rfl ?_
   cases h
  ·refine Aq ?_
   exact sn [] h
 ·refine wq rfl (qm rfl (AG AC rfl (Kt XA Qy rfl (qm rfl (Kt XA Qy rfl ?_)))))
  refine Cg h fun v3 a3 h => Ay [] (K5 N ((wI .u64 ((p0.length : Int)))) ((wI .u64 p1)) v3 a3) WF rfl (qm rfl (qx rfl (qx rfl (qa rfl (qe rfl ?_)))))
  refine AK h (fun v4 => mk [(0, pD (.sl (p0.map Au))), (6, pD (.val (.int .u64 v3.2)))] []) (fun j4 h => ?_) (fun v4 h => ?_)
  ·refine AK h (fun v5 => mk [(0, pD (.sl (p0.map Au))), (6, pD (.val (.int .u64 v3.2))), (26, bD v5)] []) (fun j5 h => ?_) (fun v5 h => ?_)
   ·refine Ak Ax rfl (qm rfl (Ei rfl (qm rfl ?_)))
    refine CS 23 h rfl (fun h => ?_) fun h => ?_
    ·refine qw 2 rfl (qp rfl (Ac ?_))
     exact sn [] h
    ·refine qm rfl (Ei rfl (qp rfl (Ac ?_)))
     exact sn [] h
   ·refine Bp h (fun h => ?_) fun h => ?_
    ·refine Ak Ax rfl ?_
     cases h
    ·refine Aq ?_
     exact sn [] h
  ·refine wq rfl (qm rfl (Kt Sx Xl rfl ?_))
   refine HH h fun c8 h => KV (.p rfl) rfl rfl rfl AC CU QY (GO rfl) Ok rfl rfl rfl c8.1 c8.2.1 c8.2.2 (Qh Au _ ((0 : Int))) ?_
   refine qa rfl (Ac (wq rfl (qw 2 rfl ?_)))
   refine P7 Au (zA7 ((wI .i64 v3.2)).toNat ((0 : Int))) p0 (.p rfl) rfl (Ma Au _ _ (zA7 ((wI .i64 v3.2)).toNat ((0 : Int)))) rfl rfl (SK Au _ _ (fun _ => rfl)) tv AC CU ?_
   refine qa rfl (Ac (AP ?_))
   refine Ba (L := CN N) h (fun v9 => mk [(7, oD (.own 2001)), (8, iD v9.2)] [(2001, .vec 1 (v9.1.map Au))]) (fun v10 => mk [(7, oD (.own 2002))] [(2002, .vec 1 (v10.map Au))]) (fun _ _ => rfl) (sm [(2001, 30)] _ _ rfl rfl) (fun j9 n9 v9 h => ?_) (fun v10 s h hs => ?_)
   ·unfold CN at h
    refine wp rfl (qw 2 rfl (PU AC rfl (Bc rfl (Ac ?_))))
    refine Bp h (fun h => ?_) fun h => ?_
    ·refine Aq (AQ (Ak Ax rfl (qw 3 rfl ?_)))
     obtain ⟨c12, h⟩ := Gx h
     have w13 : ((v9.2).toNat) + ((v9.1.length - (v9.2).toNat)) ≤ v9.1.length := by have := c12.2.1; have := c12.2.2; omega
     refine OH Au v9.1 (.p rfl) rfl (Ma Au _ _ v9.1) rfl AC CU (.some _ _ _ _ c12.1) (.none _) ⟨rfl, tv⟩ tv c12.2.1 (by rw [zA4]; exact c12.2.2) (zA4 _) rfl ?_
     refine qw 2 rfl ?_
     obtain ⟨c14, h⟩ := Gx h
     have w15 : 0 + ((v9.2).toNat) ≤ v9.1.length := by have := c14.2.1; have := c14.2.2; omega
     refine OH Au v9.1 (.p rfl) rfl (Ma Au _ _ v9.1) rfl AC CU (.none _) (.some _ _ _ _ c14.1) tv ⟨rfl, tv⟩ c14.2.1 (by rw [zA4]; exact c14.2.2) (zA4 _) rfl ?_
     refine P7 Au v9.1 (((v9.1.drop 0).take ((v9.2).toNat))) (.p rfl) rfl (Q6 Au _ _ ((v9.2).toNat) ((v9.1.length - (v9.2).toNat)) v9.1 w13) rfl rfl (Q0 Au _ _ 0 ((v9.2).toNat) v9.1 w15) ⟨rfl, tv⟩ AC CU ?_
     refine CB rfl (qa rfl (AH (by kernel_rfl) ?_))
     exact sn [] h
    ·refine B1 ?_
     exact sn [(2002, 2001)] h
   ·refine Ag hs (wq rfl (qm rfl (qe rfl ?_)))
    obtain rfl := sj h
    refine Ag (sm [(1000, 2002)] [(4, oD (.own 1000))] [(1000, .vec 1 (v10.map Au))] rfl rfl) (As ?_)
    exact ⟨⟨[_], tm, rfl⟩, ⟨rfl, tv⟩⟩
theorem Kj (N : Nat) (p0 : AI) (r : Bool) (h : EN N p0 = some r) : Ar zA0 151 [.e (.agg (CG p0))] [] (bD r) := by
 unfold EN at h
 refine cw (n := 11) (rs := [.tmp 2]) Tryz.func151 fun w0 S0 => ?_
 refine wq rfl (qb rfl (qe rfl ?_))
 refine AK h (fun v1 => mk [(2, bD v1)] []) (fun j1 h => ?_) (fun v1 h => ?_)
 ·refine Ak Ax rfl (qf DZ rfl (ql Bg rfl (AN rfl (qm rfl ?_))))
  refine CS 6 h rfl (fun h => ?_) fun h => ?_
  ·refine qw 3 rfl (qp rfl (qe rfl ?_))
   exact sn [] h
  ·refine qf DZ rfl (ql Bg rfl (AN rfl (qp rfl (qe rfl ?_))))
   exact sn [] h
 ·obtain rfl := sj h
  refine Ag (sm [] [(2, bD v1)] [] rfl rfl) (As ?_)
  exact ⟨⟨[_], tm, rfl⟩, tv⟩
theorem OJ (N : Nat) (p0 : Aa) (r : Ae × Int) (h : FX N p0 = some r) : Ar zA0 112 [.e (.agg (Am p0))] [(1, r.1.fh.map Au), (1, r.1.fe.map Au), (1, r.1.ff.map DL)] (.tup [.agg [.own 0, .own 1, .own 2], .one (iC r.2)]) := by
 unfold FX at h
 refine cw (n := 50) (rs := [.cell 2 40, .tmp 3]) Tryz.func112 fun w0 S0 => ?_
 refine wq rfl (qb rfl (qz Do rfl (qa rfl (Ac (wp rfl (qL D2 D0 rfl ?_))))))
 refine Cg h fun v1 a1 h => Ay [] (D9 N p0 v1 a1) TQ rfl (qa rfl (Ac (wq rfl (qm rfl (BJ rfl (Ac ?_))))))
 refine Bp h (fun h => ?_) fun h => ?_
 ·refine wq rfl (BD Do GP rfl (qm rfl (qs AS rfl (qe rfl ?_))))
  obtain rfl := sj h
  refine Ag ((Av 2 0 2001 1 _ rfl rfl rfl rfl).trans ((Av 2 1 2002 1 _ rfl rfl rfl rfl).trans ((Av 2 2 2003 1 _ rfl rfl rfl rfl).trans (sm [(1000, 2001), (1001, 2002), (1002, 2003)] [(2, oD (.ptr 2 0)), (3, iD v1)] [(2, .box [.own 1000, .own 1001, .own 1002]), (1000, .vec 1 ((([] : List Int)).map Au)), (1001, .vec 1 ((([] : List Int)).map Au)), (1002, .vec 1 ((([] : List Int)).map DL))] rfl rfl)))) (As ?_)
  exact ⟨⟨[_, _], ⟨.cellN _ _ _ _ _ _ _ rfl rfl B8 AS rfl rfl (Io rfl), tm⟩, rfl⟩, ⟨rfl, rfl, rfl, tv⟩⟩
 ·refine Aq (wq rfl (qf FV rfl (ql Bi rfl ?_)))
  refine Cg h fun v3 a3 h => Ay [2004] (EC N p0.fk v3 a3) Sf rfl (Fm AC CU Ok rfl (qf FV rfl (ql Bi rfl (AG AC rfl ?_))))
  refine Cg h fun v4 a4 h => F5 [2005] [17] (HR N (([(-1)] : List Int)) ((p0.fk.length : Int)) v4 a4) V0 (PN (fun _ => rfl) Er) rfl (qf BO rfl (ql Fb rfl (AG Da rfl ?_)))
  refine HH h fun c5 h => KV (.p rfl) rfl rfl rfl DP DW Nn (GO rfl) Lw rfl rfl rfl c5.1 c5.2.1 c5.2.2 (Qh DL _ ((0 : Int))) ?_
  refine BD Do GP rfl (qz Do rfl (qs AS rfl (AH (by kernel_rfl) (wp rfl (qf BO rfl (ql Fb rfl (AG Da rfl (qm rfl (Ac ?_)))))))))
  refine Ba (L := C4 N p0) h (fun v6 => mk [(1, oD (.ptr 1 0)), (2, oD (.ptr 2 0)), (5, oD (.ptr 5 0)), (28, pD (.sl (p0.fd.map BF))), (29, iD ((p0.fd.length : Int))), (30, iD v6.2)] [(1, .box (Am p0)), (2, .box [.pure (.nil0), .pure (.nil0), .pure (.nil0)]), (5, .box [.own 2006, .own 2007, .own 2008]), (2006, .vec 1 (v3.map Au)), (2007, .vec 1 (v4.map Au)), (2008, .vec 1 (v6.1.map DL))]) (fun v7 => mk [(2, oD (.ptr 2 0)), (5, oD (.ptr 5 0))] [(2, .box [.pure (.nil0), .pure (.nil0), .pure (.nil0)]), (5, .box [.own 2009, .own 2010, .own 2011]), (2009, .vec 1 (v3.map Au)), (2010, .vec 1 (v4.map Au)), (2011, .vec 1 (v7.map DL))]) (fun _ _ => rfl) (sm [(2006, 2004), (2007, 2005), (2008, 25)] _ _ rfl rfl) (fun j6 n6 v6 h => ?_) (fun v7 s h hs => ?_)
  ·unfold C4 at h
   refine wq rfl (Bc rfl (Ac (AP ?_)))
   refine Bp h (fun h => ?_) fun h => ?_
   ·refine Aq ?_
    refine AK h (fun v9 => mk [(1, oD (.ptr 1 0)), (2, oD (.ptr 2 0)), (5, oD (.ptr 5 0)), (28, pD (.sl (p0.fd.map BF))), (29, iD ((p0.fd.length : Int))), (30, iD v6.2)] [(1, .box (Am p0)), (2, .box [.pure (.nil0), .pure (.nil0), .pure (.nil0)]), (5, .box [.own 2012, .own 2013, .own 2014]), (2012, .vec 1 (v3.map Au)), (2013, .vec 1 (v4.map Au)), (2014, .vec 1 (v9.map DL))]) (fun j9 h => ?_) (fun v9 h => ?_)
    ·refine AQ (wq rfl (qm rfl ?_))
     refine BW h fun v10 a10 b10 h => qi Da B4 a10 (Ai b10) rfl (qK E8 B4 rfl (qz JK rfl (qa rfl (qs B4 rfl (Ac (wq rfl (qL E8 B4 rfl ?_)))))))
     refine Cg h fun v11 a11 h => Ay [] (Kj N v10 v11 a11) Ug rfl (Ac ?_)
     refine Bp h (fun h => ?_) fun h => ?_
     ·refine Ak Ax rfl (qf CP rfl (ql GX rfl (qm rfl (qf FV rfl (ql Bi rfl (qf Cp rfl (ql Bg rfl ?_)))))))
      refine BW h fun v13 a13 b13 h => qi AC CU a13 (Ai b13) rfl (qk Bg rfl ?_)
      refine HH h fun c14 h => Ii rfl c14 ?_
      refine BW h fun v15 a15 b15 h => qI DP DW a15 (Ai b15) rfl ?_
      refine EG rfl rfl rfl rfl (Ai b15) rfl DW rfl (GO rfl) (EI DL v6.1 _ ((DE .u8 1 v13))) ?_
      refine AH (by kernel_rfl) ?_
      exact sn [(2012, 2006), (2013, 2007), (2014, 2008)] h
     ·refine Aq ?_
      exact sn [(2012, 2006), (2013, 2007), (2014, 2008)] h
    ·refine Ak Ax rfl (CB rfl (qm rfl (Ac ?_)))
     exact sn [(2006, 2012), (2007, 2013), (2008, 2014)] h
   ·refine B1 ?_
    exact sn [(2009, 2006), (2010, 2007), (2011, 2008)] h
  ·refine Ag hs (wq rfl (qL B8 AS rfl (qs AS rfl (qe rfl ?_))))
   obtain rfl := sj h
   refine Ag (sm [(1000, 2009), (1001, 2010), (1002, 2011)] [(2, oD (.ptr 2 0)), (3, iD 0)] [(2, .box [.own 1000, .own 1001, .own 1002]), (1000, .vec 1 (v3.map Au)), (1001, .vec 1 (v4.map Au)), (1002, .vec 1 (v7.map DL))] rfl rfl) (As ?_)
   exact ⟨⟨[_, _], ⟨.cellN _ _ _ _ _ _ _ rfl rfl B8 AS rfl rfl (Io rfl), tm⟩, rfl⟩, ⟨rfl, rfl, rfl, tv⟩⟩
theorem Mo (N : Nat) (p0 : Ae) (p1 : Int) (r : Int) (h : E6 N p0 p1 = some r) : Ar zA0 176 [.e (.agg (Bm p0)), iD p1] [] (pD (.val (.int .u8 r))) := by
 unfold E6 at h
 refine cw (n := 27) (rs := [.tmp 4]) Tryz.func176 fun w0 S0 => ?_
 refine wq rfl (qb rfl (qa rfl (Ac (wq rfl (qf Dc rfl (ql Bi rfl (qm rfl ?_)))))))
 refine BW h fun v1 a1 b1 h => qi AC CU a1 (Ai b1) rfl (qk Bg rfl ?_)
 refine HH h fun c2 h => Ii rfl c2 (qe rfl ?_)
 refine AK h (fun v3 => mk [(5, pD (.val (.int .u8 v3)))] []) (fun j3 h => ?_) (fun v3 h => ?_)
 ·refine wq rfl (qf BX rfl (ql Bi rfl (qm rfl ?_)))
  refine BW h fun v4 a4 b4 h => qi AC CU a4 (Ai b4) rfl (qk Bg rfl (DO rfl (Ac ?_)))
  refine Bp h (fun h => ?_) fun h => ?_
  ·refine Ak Ax rfl (qm rfl (qf BX rfl (ql Bi rfl (qm rfl ?_))))
   refine BW h fun v6 a6 b6 h => qi AC CU a6 (Ai b6) rfl (qk Bg rfl ?_)
   refine HH h fun c7 h => Ii rfl c7 (RF rfl (qe rfl ?_))
   exact sn [] h
  ·refine Aq ?_
   exact sn [] h
 ·refine wq rfl (qm rfl (qe rfl ?_))
  obtain rfl := sj h
  refine Ag (sm [] [(4, pD (.val (.int .u8 v3)))] [] rfl rfl) (As ?_)
  exact ⟨⟨[_], tm, rfl⟩, tv⟩
theorem KQ (N : Nat) (p0 : Aa) (p1 : Ae) (r : Int) (h : Fc N p0 p1 = some r) : Ar zA0 152 [.e (.agg (Am p0)), .e (.agg (Bm p1))] [] (iD r) := by
 unfold Fc at h
 refine cw (n := 135) (rs := [.tmp 4]) Tryz.func152 fun w0 S0 => ?_
 refine wq rfl (qb rfl (qb rfl (qa rfl (Ac (wp rfl (qL D2 D0 rfl ?_))))))
 refine Cg h fun v1 a1 h => Ay [] (D9 N p0 v1 a1) TQ rfl (qa rfl (Ac (wq rfl (qm rfl (BJ rfl (Ac ?_))))))
 refine Bp h (fun h => ?_) fun h => ?_
 ·refine wq rfl (qm rfl (qe rfl ?_))
  obtain rfl := sj h
  refine Ag (sm [] [(4, iD v1)] [] rfl rfl) (As ?_)
  exact ⟨⟨[_], tm, rfl⟩, tv⟩
 ·refine Aq (AP ?_)
  refine AK h (fun v3 => mk [(2, oD (.ptr 2 0)), (3, oD (.ptr 3 0)), (41, bD v3)] [(2, .box (Am p0)), (3, .box (Bm p1))]) (fun j3 h => ?_) (fun v3 h => ?_)
  ·refine Ak Ax rfl (qf Dc rfl (ql Bi rfl (AG AC rfl (qf BI rfl (ql Bi rfl (AG AC rfl (BJ rfl (qm rfl ?_))))))))
   refine CS 24 h rfl (fun h => ?_) fun h => ?_
   ·refine qw 7 rfl (qp rfl (qw 8 rfl (qp rfl (Ac ?_))))
    exact sn [] h
   ·refine qf BX rfl (ql Bi rfl (AG AC rfl (qf BI rfl (ql Bi rfl (AG AC rfl (BJ rfl (qp rfl (qm rfl ?_))))))))
    refine CS 33 h rfl (fun h => ?_) fun h => ?_
    ·refine qw 7 rfl (qp rfl (Ac ?_))
     exact sn [] h
    ·refine qf CP rfl (ql GX rfl (AG DP rfl (qf BO rfl (ql Fb rfl (AG Da rfl (BJ rfl (qp rfl (Ac ?_))))))))
     exact sn [] h
  ·refine Bp h (fun h => ?_) fun h => ?_
   ·refine wq rfl (qe rfl ?_)
    obtain rfl := sj h
    refine Ag (sm [] [(4, iD 6)] [] rfl rfl) (As ?_)
    exact ⟨⟨[_], tm, rfl⟩, tv⟩
   ·refine Aq (wp rfl (qf BI rfl (ql Bi rfl (AG AC rfl (qm rfl (Ac ?_))))))
    refine Ba (L := C7 N p0 p1) h (fun v7 => mk [(2, oD (.ptr 2 0)), (3, oD (.ptr 3 0)), (43, pD (.sl (p0.fc.map Au))), (44, iD ((p0.fc.length : Int))), (45, iD v7)] [(2, .box (Am p0)), (3, .box (Bm p1))]) (fun v8 => mk [(2, oD (.ptr 2 0)), (3, oD (.ptr 3 0))] [(2, .box (Am p0)), (3, .box (Bm p1))]) (fun _ _ => rfl) (sm [] _ _ rfl rfl) (fun j7 n7 v7 h => ?_) (fun v8 s h hs => ?_)
    ·unfold C7 at h
     refine wq rfl (Bc rfl (Ac (AP ?_)))
     refine Bp h (fun h => ?_) fun h => ?_
     ·refine Aq (AP (AQ (wq rfl (qm rfl ?_))))
      refine BW h fun v10 a10 b10 h => qi AC CU a10 (Ai b10) rfl (qk Bg rfl (qa rfl (qa rfl (Ac (AP ?_)))))
      refine AK h (fun v11 => mk [(2, oD (.ptr 2 0)), (3, oD (.ptr 3 0)), (6, iD v7), (43, pD (.sl (p0.fc.map Au))), (44, iD ((p0.fc.length : Int))), (45, iD v7), (81, bD v11)] [(2, .box (Am p0)), (3, .box (Bm p1))]) (fun j11 h => ?_) (fun v11 h => ?_)
      ·refine Ak Ax rfl (qf Dc rfl (ql Bi rfl (qm rfl ?_)))
       refine BW h fun v12 a12 b12 h => qi AC CU a12 (Ai b12) rfl (qk Bg rfl (Bc rfl (qm rfl ?_)))
       refine CS 56 h rfl (fun h => ?_) fun h => ?_
       ·refine qw 7 rfl (qp rfl (qw 7 rfl (qp rfl (qw 8 rfl (qp rfl (Ac ?_))))))
        exact sn [] h
       ·refine qf Dc rfl (ql Bi rfl (qm rfl ?_))
        refine BW h fun v14 a14 b14 h => qi AC CU a14 (Ai b14) rfl (qk Bg rfl (qm rfl (DO rfl (qp rfl (qm rfl ?_)))))
        refine CS 65 h rfl (fun h => ?_) fun h => ?_
        ·refine qw 6 rfl (qp rfl (qw 8 rfl (qp rfl (Ac ?_))))
         exact sn [] h
        ·refine qf BX rfl (ql Bi rfl (qm rfl ?_))
         refine BW h fun v16 a16 b16 h => qi AC CU a16 (Ai b16) rfl (qk Bg rfl (Bc rfl (qp rfl (qm rfl ?_))))
         refine CS 73 h rfl (fun h => ?_) fun h => ?_
         ·refine qw 7 rfl (qp rfl (Ac ?_))
          exact sn [] h
         ·refine qf BX rfl (ql Bi rfl (qm rfl ?_))
          refine BW h fun v18 a18 b18 h => qi AC CU a18 (Ai b18) rfl (qk Bg rfl (qm rfl (DO rfl (qp rfl (Ac ?_)))))
          exact sn [] h
      ·refine Bp h (fun h => ?_) fun h => ?_
       ·refine wq rfl (qe rfl ?_)
        obtain rfl := sj h
        refine Ag (sm [] [(4, iD 7)] [] rfl rfl) (As ?_)
        exact ⟨⟨[_], tm, rfl⟩, tv⟩
       ·refine Aq (wq rfl (qf Dc rfl (ql Bi rfl (qm rfl ?_))))
        refine BW h fun v20 a20 b20 h => qi AC CU a20 (Ai b20) rfl (qk Bg rfl (qf BX rfl (ql Bi rfl (qm rfl ?_))))
        refine BW h fun v21 a21 b21 h => qi AC CU a21 (Ai b21) rfl (qk Bg rfl (AN rfl (AH (by kernel_rfl) ?_)))
        refine Bp h (fun h => ?_) fun h => ?_
        ·refine wq rfl (qe rfl ?_)
         obtain rfl := sj h
         refine Ag (sm [] [(4, iD 1)] [] rfl rfl) (As ?_)
         exact ⟨⟨[_], tm, rfl⟩, tv⟩
        ·refine Aq (Ak Ax rfl (CB rfl (qm rfl (Ac ?_))))
         exact sn [] h
     ·refine B1 ?_
      exact sn [] h
    ·refine Ag hs (wp rfl (qf BO rfl (ql Fb rfl (AG Da rfl (qm rfl (Ac ?_))))))
     refine Ba (L := CI N p0 p1) h (fun v23 => mk [(2, oD (.ptr 2 0)), (3, oD (.ptr 3 0)), (95, pD (.sl (p0.fd.map BF))), (96, iD ((p0.fd.length : Int))), (97, iD v23)] [(2, .box (Am p0)), (3, .box (Bm p1))]) (fun v24 => mk [] []) (fun _ _ => rfl) (sm [] _ _ rfl rfl) (fun j23 n23 v23 h => ?_) (fun v24 s h hs => ?_)
     ·unfold CI at h
      refine wq rfl (Bc rfl (Ac (AP ?_)))
      refine Bp h (fun h => ?_) fun h => ?_
      ·refine Aq (AP (AQ (wq rfl (qm rfl ?_))))
       refine BW h fun v26 a26 b26 h => qi Da B4 a26 (Ai b26) rfl (qK E8 B4 rfl (qz JK rfl (qa rfl (qs B4 rfl (Ac (wq rfl (qa rfl (qe rfl ?_))))))))
       refine AK h (fun v27 => mk [(2, oD (.ptr 2 0)), (3, oD (.ptr 3 0)), (8, iD v23), (10, pD (.val (.int .u8 v27.1))), (11, pD (.val (.int .u8 v27.2))), (95, pD (.sl (p0.fd.map BF))), (96, iD ((p0.fd.length : Int))), (97, iD v23)] [(2, .box (Am p0)), (3, .box (Bm p1))]) (fun j27 h => ?_) (fun v27 h => ?_)
       ·refine wq rfl (qL E8 B4 rfl ?_)
        refine Cg h fun v28 a28 h => Ay [] (Kj N v26 v28 a28) Ug rfl (Ac ?_)
        refine Bp h (fun h => ?_) fun h => ?_
        ·refine Ak Ax rfl (qL B8 AS rfl (qf Cp rfl (ql Bg rfl ?_)))
         refine Cg h fun v30 a30 h => Ay [] (Mo N p1 v26.fj v30 a30) Wo rfl (qf BI rfl (ql Bi rfl (qf Cp rfl (ql Bg rfl ?_))))
         refine BW h fun v31 a31 b31 h => qi AC CU a31 (Ai b31) rfl (qk Bg rfl ?_)
         refine HH h fun c32 h => Ii rfl c32 (K1 rfl (qa rfl (qa rfl (AH (by kernel_rfl) ?_))))
         exact sn [] h
        ·refine Aq ?_
         exact sn [] h
       ·refine AK h (fun v33 => mk [(2, oD (.ptr 2 0)), (3, oD (.ptr 3 0)), (95, pD (.sl (p0.fd.map BF))), (96, iD ((p0.fd.length : Int))), (97, iD v23), (133, bD v33)] [(2, .box (Am p0)), (3, .box (Bm p1))]) (fun j33 h => ?_) (fun v33 h => ?_)
        ·refine Ak Ax rfl (qm rfl (qf CP rfl (ql GX rfl (qm rfl ?_))))
         refine BW h fun v34 a34 b34 h => qi DP DW a34 (Ai b34) rfl (qk Hq rfl (Hd rfl (BJ rfl (qm rfl ?_))))
         refine CS 124 h rfl (fun h => ?_) fun h => ?_
         ·refine qw 8 rfl (qp rfl (Ac ?_))
          exact sn [] h
         ·refine qf CP rfl (ql GX rfl (qm rfl ?_))
          refine BW h fun v36 a36 b36 h => qi DP DW a36 (Ai b36) rfl (qk Hq rfl (qm rfl (Hd rfl (BJ rfl (qp rfl (Ac ?_))))))
          exact sn [] h
        ·refine Bp h (fun h => ?_) fun h => ?_
         ·refine wq rfl (qe rfl ?_)
          obtain rfl := sj h
          refine Ag (sm [] [(4, iD 1)] [] rfl rfl) (As ?_)
          exact ⟨⟨[_], tm, rfl⟩, tv⟩
         ·refine Aq (Ak Ax rfl (CB rfl (qm rfl (Ac ?_))))
          exact sn [] h
      ·refine B1 ?_
       exact sn [] h
     ·refine Ag hs (wq rfl (qe rfl ?_))
      obtain rfl := sj h
      refine Ag (sm [] [(4, iD 0)] [] rfl rfl) (As ?_)
      exact ⟨⟨[_], tm, rfl⟩, tv⟩
theorem Gf (N : Nat) (p0 : List Int) (r : (List Int)) (h : BP N p0 = some r) : Ar zA0 177 [pD (.sl (p0.map DL))] [(1, r.map DL)] (oD (.own 0)) := by
 unfold BP at h
 refine cw (n := 8) (rs := [.tmp 2]) Tryz.func177 fun w0 S0 => ?_
 refine wq rfl (qa rfl (Ac (wp rfl (qm rfl ?_))))
 refine Nw (.p rfl) rfl DP ?_
 refine Ac ?_
 refine NB rfl (fun c2 => ?_) ?_
 ·have c2 := zI4.1 c2
  rw [c2] at h
  have h : (some (([] : List Int))) = some r := h
  refine wq rfl (qe rfl ?_)
  obtain rfl := sj h
  refine Ag ((E0 2 2001 1 rfl rfl rfl).trans (sm [(1000, 2001)] [(2, oD (.own 1000))] [(1000, .vec 1 ((([] : List Int)).map DL))] rfl rfl)) (As ?_)
  exact ⟨⟨[_], tm, rfl⟩, ⟨rfl, tv⟩⟩
 ·refine Aq (wq rfl (Fm DP DW Lw rfl (qm rfl ?_)))
  refine HH h fun c1 h => KA (f := DL) DP DP DW Nn Lw (fun _ => rfl) c1 rfl (qe rfl ?_)
  obtain rfl := sj h
  refine Ag (sm [(1000, 7)] [(2, oD (.own 1000))] [(1000, .vec 1 (((([] : List Int)) ++ p0).map DL))] rfl rfl) (As ?_)
  exact ⟨⟨[_], tm, rfl⟩, ⟨rfl, tv⟩⟩
theorem Jh (N : Nat) (p0 : Ae) (r : Ae) (h : Es N p0 = some r) : Ar zA0 153 [.e (.agg (Bm p0))] [(1, r.fh.map Au), (1, r.fe.map Au), (1, r.ff.map DL)] (.e (.agg [.own 0, .own 1, .own 2])) := by
 unfold Es at h
 refine cw (n := 13) (rs := [.cell 2 40]) Tryz.func153 fun w0 S0 => ?_
 refine wq rfl (qb rfl (qz Do rfl (Ac (wq rfl (qf Dc rfl (ql Bi rfl ?_))))))
 refine Cg h fun v1 a1 h => Ay [2001] (EC N p0.fh v1 a1) Sf rfl (qf BX rfl (ql Bi rfl ?_))
 refine Cg h fun v2 a2 h => Ay [2002] (EC N p0.fe v2 a2) Sf rfl (qf CP rfl (ql GX rfl ?_))
 refine Cg h fun v3 a3 h => Ay [2003] (Gf N p0.ff v3 a3) VH rfl (BD Do GP rfl (qs AS rfl (AH (by kernel_rfl) ?_)))
 obtain rfl := sj h
 refine Ag (sm [(1000, 2001), (1001, 2002), (1002, 2003)] [(2, oD (.ptr 2 0))] [(2, .box [.own 1000, .own 1001, .own 1002]), (1000, .vec 1 (v1.map Au)), (1001, .vec 1 (v2.map Au)), (1002, .vec 1 (v3.map DL))] rfl rfl) (As ?_)
 exact ⟨⟨[_], ⟨.cellN _ _ _ _ _ _ _ rfl rfl B8 AS rfl rfl (Io rfl), tv⟩, rfl⟩, ⟨rfl, rfl, rfl, tv⟩⟩
theorem N6 (N : Nat) (p0 : Al) (r : Bool) (h : Fn N p0 = some r) : Ar zA0 178 [.e (.agg (Cb p0))] [] (bD r) := by
 unfold Fn at h
 refine cw (n := 27) (rs := [.tmp 2]) Tryz.func178 fun w0 S0 => ?_
 refine wq rfl (qb rfl (qa rfl (Ac (AP ?_))))
 refine AK h (fun v1 => mk [(1, oD (.ptr 1 0)), (18, bD v1)] [(1, .box (Cb p0))]) (fun j1 h => ?_) (fun v1 h => ?_)
 ·refine Ak Ax rfl (qf DM rfl (ql Bg rfl (qf Fw rfl (ql Bg rfl ?_))))
  refine VF (.p rfl) rfl rfl ?_
  refine Bc rfl (qm rfl ?_)
  refine CS 9 h rfl (fun h => ?_) fun h => ?_
  ·refine qw 3 rfl (qp rfl (qw 4 rfl (qp rfl (Ac ?_))))
   exact sn [] h
  ·refine qf DF rfl (ql Bg rfl (Bc rfl (qp rfl (qm rfl ?_))))
   refine CS 14 h rfl (fun h => ?_) fun h => ?_
   ·refine qw 3 rfl (qp rfl (Ac ?_))
    exact sn [] h
   ·refine qf DF rfl (ql Bg rfl (Ei rfl (qp rfl (Ac ?_))))
    exact sn [] h
 ·refine Bp h (fun h => ?_) fun h => ?_
  ·refine wq rfl (qe rfl ?_)
   obtain rfl := sj h
   refine Ag (sm [] [(2, bD false)] [] rfl rfl) (As ?_)
   exact ⟨⟨[_], tm, rfl⟩, tv⟩
  ·refine Aq ?_
   refine AK h (fun v5 => mk [(2, bD v5)] []) (fun j5 h => ?_) (fun v5 h => ?_)
   ·refine Ak Ax rfl (qf DF rfl (ql Bg rfl (AN rfl (qm rfl ?_))))
    refine CS 22 h rfl (fun h => ?_) fun h => ?_
    ·refine qw 3 rfl (qp rfl (qe rfl ?_))
     exact sn [] h
    ·refine qf Fw rfl (ql Bg rfl (AN rfl (qp rfl (qe rfl ?_))))
     exact sn [] h
   ·obtain rfl := sj h
    refine Ag (sm [] [(2, bD v5)] [] rfl rfl) (As ?_)
    exact ⟨⟨[_], tm, rfl⟩, tv⟩
theorem Mn (N : Nat) (p0 : Aa) (p1 : Al) (r : Bool) (h : E2 N p0 p1 = some r) : Ar zA0 179 [.e (.agg (Am p0)), .e (.agg (Cb p1))] [] (bD r) := by
 unfold E2 at h
 refine cw (n := 36) (rs := [.tmp 4]) Tryz.func179 fun w0 S0 => ?_
 refine wq rfl (qb rfl (qb rfl (qa rfl (Ac (wp rfl (qf DF rfl (ql Bg rfl (AN rfl (Ac ?_)))))))))
 refine Bp h (fun h => ?_) fun h => ?_
 ·refine wq rfl (qf DM rfl (ql Bg rfl (qf BO rfl (ql Fb rfl (AG Da rfl (Bc rfl (qe rfl ?_)))))))
  obtain rfl := sj h
  refine Ag (sm [] [(4, bD ((decide (p1.fm < (p0.fd.length : Int)))))] [] rfl rfl) (As ?_)
  exact ⟨⟨[_], tm, rfl⟩, tv⟩
 ·refine Aq ?_
  refine AK h (fun v2 => mk [(4, bD v2)] []) (fun j2 h => ?_) (fun v2 h => ?_)
  ·refine Ak Ax rfl (qf DM rfl (ql Bg rfl (qf BI rfl (ql Bi rfl (AG AC rfl (Bc rfl (qm rfl ?_)))))))
   refine CS 20 h rfl (fun h => ?_) fun h => ?_
   ·refine qf DF rfl (ql Bg rfl (BJ rfl (qm rfl ?_)))
    refine CS 24 h rfl (fun h => ?_) fun h => ?_
    ·refine qw 9 rfl (qp rfl (qp rfl (qa rfl (AH (by kernel_rfl) ?_))))
     exact sn [] h
    ·refine qf Fw rfl (ql Bg rfl (qf BI rfl (ql Bi rfl (qf DM rfl (ql Bg rfl ?_)))))
     refine BW h fun v5 a5 b5 h => qi AC CU a5 (Ai b5) rfl (qk Bg rfl (Bc rfl (qp rfl (qp rfl (qa rfl (AH (by kernel_rfl) ?_))))))
     exact sn [] h
   ·refine qw 4 rfl (qu rfl (qu rfl (qu rfl (qu rfl (qu rfl (qu rfl (qu rfl (qu rfl (qu rfl (qn rfl (qp rfl (qa rfl (AH (by kernel_rfl) ?_)))))))))))))
    exact sn [] h
  ·obtain rfl := sj h
   refine Ag (sm [] [(4, bD v2)] [] rfl rfl) (As ?_)
   exact ⟨⟨[_], tm, rfl⟩, tv⟩
theorem Jq (N : Nat) (p0 : AI) (r : Bool) (h : Ev N p0 = some r) : Ar zA0 197 [.e (.agg (CG p0))] [] (bD r) := by
 unfold Ev at h
 refine cw (n := 11) (rs := [.tmp 2]) Tryz.func197 fun w0 S0 => ?_
 refine wq rfl (qb rfl (qe rfl ?_))
 refine AK h (fun v1 => mk [(2, bD v1)] []) (fun j1 h => ?_) (fun v1 h => ?_)
 ·refine Ak Ax rfl (qf DZ rfl (ql Bg rfl (AN rfl (qm rfl ?_))))
  refine CS 6 h rfl (fun h => ?_) fun h => ?_
  ·refine qw 3 rfl (qp rfl (qe rfl ?_))
   exact sn [] h
  ·refine qf DZ rfl (ql Bg rfl (AN rfl (qp rfl (qe rfl ?_))))
   exact sn [] h
 ·obtain rfl := sj h
  refine Ag (sm [] [(2, bD v1)] [] rfl rfl) (As ?_)
  exact ⟨⟨[_], tm, rfl⟩, tv⟩
theorem NY (N : Nat) (p0 : Aa) (p1 : Ae) (p2 : Al) (r : Bool × (List Int) × (List Int)) (h : Gl N p0 p1 p2 = some r) : DG zA0 192 [.e (.agg (Am p0)), oD (.ptr 90000 0), .e (.agg (Cb p2))] [(.box [.own 90001, .own 90002, .own 90003], .box [.own 90001, .own 90002, .own 90003]), (.vec 1 (p1.fh.map Au), .vec 1 (p1.fh.map Au)), (.vec 1 (p1.fe.map Au), .vec 1 (r.2.1.map Au)), (.vec 1 (p1.ff.map DL), .vec 1 (r.2.2.map DL))] [] (bD r.1) := by
 unfold Gl at h
 refine DA (n := 70) (rs := [.tmp 6]) Tryz.func192 rfl rfl rfl (GO rfl) (GO rfl) rfl rfl (GO rfl) rfl (GO rfl) fun w0 S0 GL => ?_
 refine Ag (sm [] [(0, .e (.agg (Am p0))), (1, oD (.ptr 90000 0)), (2, .e (.agg (Cb p2)))] [(90000, .box [.own 90001, .own 90002, .own 90003]), (90001, .vec 1 (p1.fh.map Au)), (90002, .vec 1 (p1.fe.map Au)), (90003, .vec 1 (p1.ff.map DL))] rfl rfl) (wq rfl (qb rfl (qb rfl (qa rfl (Ac (AP ?_))))))
 refine AK h (fun v1 => mk [(1, oD (.ptr 90000 0)), (3, oD (.ptr 3 0)), (5, oD (.ptr 5 0)), (30, bD v1)] [(3, .box (Am p0)), (5, .box (Cb p2)), (90000, .box [.own 90001, .own 90002, .own 90003]), (90001, .vec 1 (p1.fh.map Au)), (90002, .vec 1 (p1.fe.map Au)), (90003, .vec 1 (p1.ff.map DL))]) (fun j1 h => ?_) (fun v1 h => ?_)
 ·refine Ak Ax rfl (qm rfl (HK rfl (qf BX rfl (ql Bi rfl (qf DM rfl (ql Bg rfl ?_))))))
  refine BW h fun v2 a2 b2 h => qI AC CU a2 (Ai b2) rfl (qj Bg (Ai b2) rfl (DO rfl (qm rfl ?_)))
  refine CS 18 h rfl (fun h => ?_) fun h => ?_
  ·refine qw 11 rfl (qp rfl (AH (by kernel_rfl) ?_))
   exact sn [] h
  ·refine qm rfl (HK rfl (qf Dc rfl (ql Bi rfl (qf DM rfl (ql Bg rfl ?_)))))
   refine BW h fun v4 a4 b4 h => qI AC CU a4 (Ai b4) rfl (qj Bg (Ai b4) rfl (qf Fw rfl (ql Bg rfl (AN rfl (qp rfl (AH (by kernel_rfl) ?_))))))
   exact sn [] h
 ·refine Bp h (fun h => ?_) fun h => ?_
  ·refine wq rfl (qe rfl ?_)
   obtain rfl := sj h
   refine Ag (sm [] [(6, bD false)] [(90000, .box [.own 90001, .own 90002, .own 90003]), (90001, .vec 1 (p1.fh.map Au)), (90002, .vec 1 (p1.fe.map Au)), (90003, .vec 1 (p1.ff.map DL))] rfl rfl) (As ?_)
   exact ⟨⟨[_], tm, rfl⟩, ⟨rfl, rfl, rfl, rfl, tv⟩, tv⟩
  ·refine Aq (wq rfl (qm rfl (HK rfl (qf BX rfl (ql Bi rfl (qf DM rfl (ql Bg rfl (qf Fw rfl (ql Bg rfl ?_)))))))))
   refine BW h fun v6 a6 b6 h => qI AC CU a6 (Ai b6) rfl ?_
   refine EG rfl rfl rfl rfl (Ai b6) rfl CU rfl (GO rfl) (EI Au p1.fe _ p2.fr) ?_
   refine AH (by kernel_rfl) (wp rfl (qf BO rfl (ql Fb rfl (AG Da rfl (qm rfl (Ac ?_))))))
   refine Ba (L := CK N p0 p2) h (fun v7 => mk [(1, oD (.ptr 90000 0)), (5, oD (.ptr 5 0)), (41, pD (.sl (p0.fd.map BF))), (42, iD ((p0.fd.length : Int))), (43, iD v7.2)] [(5, .box (Cb p2)), (90000, .box [.own 90001, .own 90002, .own 90003]), (90001, .vec 1 (p1.fh.map Au)), (90002, .vec 1 ((p1.fe.set ((p2.fm).toNat) p2.fr).map Au)), (90003, .vec 1 (v7.1.map DL))]) (fun v8 => mk [] [(90000, .box [.own 90001, .own 90002, .own 90003]), (90001, .vec 1 (p1.fh.map Au)), (90002, .vec 1 ((p1.fe.set ((p2.fm).toNat) p2.fr).map Au)), (90003, .vec 1 (v8.map DL))]) (fun _ _ => rfl) (sm [] _ _ rfl rfl) (fun j7 n7 v7 h => ?_) (fun v8 s h hs => ?_)
   ·unfold CK at h
    refine wq rfl (Bc rfl (Ac (AP ?_)))
    refine Bp h (fun h => ?_) fun h => ?_
    ·refine Aq ?_
     refine AK h (fun v10 => mk [(1, oD (.ptr 90000 0)), (5, oD (.ptr 5 0)), (41, pD (.sl (p0.fd.map BF))), (42, iD ((p0.fd.length : Int))), (43, iD v7.2)] [(5, .box (Cb p2)), (90000, .box [.own 90001, .own 90002, .own 90003]), (90001, .vec 1 (p1.fh.map Au)), (90002, .vec 1 ((p1.fe.set ((p2.fm).toNat) p2.fr).map Au)), (90003, .vec 1 (v10.map DL))]) (fun j10 h => ?_) (fun v10 h => ?_)
     ·refine AQ (wq rfl (qm rfl ?_))
      refine BW h fun v11 a11 b11 h => qi Da B4 a11 (Ai b11) rfl (qK E8 B4 rfl (qz JK rfl (qa rfl (qs B4 rfl (Ac ?_)))))
      refine AK h (fun v12 => mk [(1, oD (.ptr 90000 0)), (5, oD (.ptr 5 0)), (7, iD v7.2), (41, pD (.sl (p0.fd.map BF))), (42, iD ((p0.fd.length : Int))), (43, iD v7.2), (56, bD v12)] [(5, .box (Cb p2)), (90000, .box [.own 90001, .own 90002, .own 90003]), (90001, .vec 1 (p1.fh.map Au)), (90002, .vec 1 ((p1.fe.set ((p2.fm).toNat) p2.fr).map Au)), (90003, .vec 1 (v7.1.map DL))]) (fun j12 h => ?_) (fun v12 h => ?_)
      ·refine Ak Ax rfl (qf Cp rfl (ql Bg rfl (qf DM rfl (ql Bg rfl (AN rfl (qm rfl ?_))))))
       refine CS 53 h rfl (fun h => ?_) fun h => ?_
       ·refine qL E8 B4 rfl ?_
        refine Cg h fun v14 a14 h => Ay [] (Jq N v11 v14 a14) Uo rfl (qp rfl (Ac ?_))
        exact sn [] h
       ·refine qw 2 rfl (qp rfl (Ac ?_))
        exact sn [] h
      ·refine Bp h (fun h => ?_) fun h => ?_
       ·refine Ak Ax rfl (qm rfl (HK rfl (qf CP rfl (ql GX rfl (qm rfl ?_)))))
        refine BW h fun v16 a16 b16 h => qI DP DW a16 (Ai b16) rfl (qj Hq (Ai b16) rfl (qf Fw rfl (ql Bg rfl ?_)))
        refine HH h fun c17 h => Ii rfl c17 (RF rfl ?_)
        refine BW h fun v18 a18 b18 h => qI DP DW a18 (Ai b18) rfl ?_
        refine EG rfl rfl rfl rfl (Ai b18) rfl DW rfl (GO rfl) (EI DL v7.1 _ ((K7 .u8 v16 ((DE .u8 1 p2.fr))))) ?_
        refine AH (by kernel_rfl) ?_
        exact sn [] h
       ·refine Aq ?_
        exact sn [] h
     ·refine Ak Ax rfl (CB rfl (qm rfl (Ac ?_)))
      exact sn [] h
    ·refine B1 ?_
     exact sn [] h
   ·refine Ag hs (wq rfl (qe rfl ?_))
    obtain rfl := sj h
    refine Ag (sm [] [(6, bD true)] [(90000, .box [.own 90001, .own 90002, .own 90003]), (90001, .vec 1 (p1.fh.map Au)), (90002, .vec 1 ((p1.fe.set ((p2.fm).toNat) p2.fr).map Au)), (90003, .vec 1 (v8.map DL))] rfl rfl) (As ?_)
    exact ⟨⟨[_], tm, rfl⟩, ⟨rfl, rfl, rfl, rfl, tv⟩, tv⟩
theorem LG (N : Nat) (p0 : Ae) (p1 : Int) (r : Int) (h : EH N p0 p1 = some r) : Ar zA0 198 [.e (.agg (Bm p0)), iD p1] [] (pD (.val (.int .u8 r))) := by
 unfold EH at h
 refine cw (n := 27) (rs := [.tmp 4]) Tryz.func198 fun w0 S0 => ?_
 refine wq rfl (qb rfl (qa rfl (Ac (wq rfl (qf Dc rfl (ql Bi rfl (qm rfl ?_)))))))
 refine BW h fun v1 a1 b1 h => qi AC CU a1 (Ai b1) rfl (qk Bg rfl ?_)
 refine HH h fun c2 h => Ii rfl c2 (qe rfl ?_)
 refine AK h (fun v3 => mk [(5, pD (.val (.int .u8 v3)))] []) (fun j3 h => ?_) (fun v3 h => ?_)
 ·refine wq rfl (qf BX rfl (ql Bi rfl (qm rfl ?_)))
  refine BW h fun v4 a4 b4 h => qi AC CU a4 (Ai b4) rfl (qk Bg rfl (DO rfl (Ac ?_)))
  refine Bp h (fun h => ?_) fun h => ?_
  ·refine Ak Ax rfl (qm rfl (qf BX rfl (ql Bi rfl (qm rfl ?_))))
   refine BW h fun v6 a6 b6 h => qi AC CU a6 (Ai b6) rfl (qk Bg rfl ?_)
   refine HH h fun c7 h => Ii rfl c7 (RF rfl (qe rfl ?_))
   exact sn [] h
  ·refine Aq ?_
   exact sn [] h
 ·refine wq rfl (qm rfl (qe rfl ?_))
  obtain rfl := sj h
  refine Ag (sm [] [(4, pD (.val (.int .u8 v3)))] [] rfl rfl) (As ?_)
  exact ⟨⟨[_], tm, rfl⟩, tv⟩
theorem G5 (N : Nat) (p0 : Int) (r : Int) (h : B9 N p0 = some r) : Ar zA0 200 [pD (.val (.int .u8 p0))] [] (iD r) := by
 unfold B9 at h
 refine cw (n := 6) (rs := [.tmp 2]) Tryz.func200 fun w0 S0 => ?_
 refine wq rfl (qa rfl (Ac (wq rfl (qm rfl ?_))))
 refine Cg h fun v1 a1 h => QF (.p rfl) rfl rfl Nk a1 ?_
 refine Kt Xy Xl rfl (qe rfl ?_)
 obtain rfl := sj h
 refine Ag (sm [] [(2, iD ((wI .i64 v1)))] [] rfl rfl) (As ?_)
 exact ⟨⟨[_], tm, rfl⟩, tv⟩
theorem Kc (N : Nat) (p0 : AI) (p1 : Int) (p2 : Int) (r : Bool) (h : EF N p0 p1 p2 = some r) : Ar zA0 199 [.e (.agg (CG p0)), pD (.val (.int .u8 p1)), iD p2] [] (bD r) := by
 unfold EF at h
 refine cw (n := 25) (rs := [.tmp 6]) Tryz.func199 fun w0 S0 => ?_
 refine wq rfl (qb rfl (qa rfl (Ac (wp rfl (qm rfl (qe rfl ?_))))))
 refine Ba (L := CA N p0 p2) h (fun v1 => mk [(2, iD p2), (3, oD (.ptr 3 0)), (7, pD (.val (.int .u8 v1)))] [(3, .box (CG p0))]) (fun v2 => mk [] []) (fun _ _ => rfl) (sm [] _ _ rfl rfl) (fun j1 n1 v1 h => ?_) (fun v2 s h hs => ?_)
 ·unfold CA at h
  refine wp rfl (qm rfl (BJ rfl (Ac ?_)))
  refine Bp h (fun h => ?_) fun h => ?_
  ·refine Aq (AP (AQ (wq rfl (qf Ec rfl (ql Fq rfl (qm rfl ?_))))))
   refine Cg h fun v4 a4 h => Ay [] (G5 N v1 v4 a4) Wv rfl ?_
   refine BW h fun v5 a5 b5 h => qi D6 J1 a5 (Ai b5) rfl (qk JX rfl (qm rfl ?_))
   refine BW h fun v6 a6 b6 h => qi H9 Ve a6 (Ai b6) rfl (qk Ul rfl (CM rfl (AH (by kernel_rfl) ?_)))
   refine Bp h (fun h => ?_) fun h => ?_
   ·refine wq rfl (qe rfl ?_)
    obtain rfl := sj h
    refine Ag (sm [] [(6, bD false)] [] rfl rfl) (As ?_)
    exact ⟨⟨[_], tm, rfl⟩, tv⟩
   ·refine Aq (Ak Ax rfl (qw 2 rfl (K1 rfl (Nb rfl (qe rfl ?_)))))
    exact sn [] h
  ·refine B1 ?_
   exact sn [] h
 ·refine Ag hs (wq rfl (qe rfl ?_))
  obtain rfl := sj h
  refine Ag (sm [] [(6, bD true)] [] rfl rfl) (As ?_)
  exact ⟨⟨[_], tm, rfl⟩, tv⟩
theorem Nj (N : Nat) (p0 : Aa) (p1 : Ae) (p2 : Int) (r : Bool × (List Int)) (h : Ft N p0 p1 p2 = some r) : DG zA0 193 [.e (.agg (Am p0)), oD (.ptr 90000 0), iD p2] [(.box [.own 90001, .own 90002, .own 90003], .box [.own 90001, .own 90002, .own 90003]), (.vec 1 (p1.fh.map Au), .vec 1 (p1.fh.map Au)), (.vec 1 (p1.fe.map Au), .vec 1 (p1.fe.map Au)), (.vec 1 (p1.ff.map DL), .vec 1 (r.2.map DL))] [] (bD r.1) := by
 unfold Ft at h
 refine DA (n := 68) (rs := [.tmp 6]) Tryz.func193 rfl rfl rfl (GO rfl) (GO rfl) rfl rfl (GO rfl) rfl (GO rfl) fun w0 S0 GL => ?_
 refine Ag (sm [] [(0, .e (.agg (Am p0))), (1, oD (.ptr 90000 0)), (2, iD p2)] [(90000, .box [.own 90001, .own 90002, .own 90003]), (90001, .vec 1 (p1.fh.map Au)), (90002, .vec 1 (p1.fe.map Au)), (90003, .vec 1 (p1.ff.map DL))] rfl rfl) (wq rfl (qb rfl (qa rfl (Ac (wq rfl (qf BO rfl (ql Fb rfl (qm rfl ?_))))))))
 refine BW h fun v1 a1 b1 h => qi Da B4 a1 (Ai b1) rfl (qK E8 B4 rfl (qz JK rfl (qs B4 rfl (Ac (wp rfl (qL E8 B4 rfl ?_))))))
 refine Cg h fun v2 a2 h => Ay [] (Jq N v1 v2 a2) Uo rfl (CM rfl (Ac ?_))
 refine Bp h (fun h => ?_) fun h => ?_
 ·refine wq rfl (qe rfl ?_)
  obtain rfl := sj h
  refine Ag (sm [] [(6, bD false)] [(90000, .box [.own 90001, .own 90002, .own 90003]), (90001, .vec 1 (p1.fh.map Au)), (90002, .vec 1 (p1.fe.map Au)), (90003, .vec 1 (p1.ff.map DL))] rfl rfl) (As ?_)
  exact ⟨⟨[_], tm, rfl⟩, ⟨rfl, rfl, rfl, rfl, tv⟩, tv⟩
 ·refine Aq (wq rfl (qm rfl (HK rfl (qL B8 AS rfl (qf Cp rfl (ql Bg rfl ?_))))))
  refine Cg h fun v4 a4 h => F5 [] [90001, 90002, 90003] (LG N p1 v1.fj v4 a4) Vy Er rfl (qa rfl (AH (by kernel_rfl) (wq rfl (qm rfl (HK rfl (qf CP rfl (ql GX rfl (qm rfl ?_))))))))
  refine BW h fun v5 a5 b5 h => qI DP DW a5 (Ai b5) rfl (qj Hq (Ai b5) rfl (qm rfl (Hd rfl (qa rfl (Ac (AP ?_))))))
  refine AK h (fun v6 => mk [(1, oD (.ptr 90000 0)), (2, iD p2), (8, pD (.val (.int .u8 v4))), (60, bD v6)] [(90000, .box [.own 90001, .own 90002, .own 90003]), (90001, .vec 1 (p1.fh.map Au)), (90002, .vec 1 (p1.fe.map Au)), (90003, .vec 1 (p1.ff.map DL))]) (fun j6 h => ?_) (fun v6 h => ?_)
  ·refine Ak Ax rfl (qm rfl (HK rfl (qf CP rfl (ql GX rfl (qm rfl ?_)))))
   refine BW h fun v7 a7 b7 h => qI DP DW a7 (Ai b7) rfl (qj Hq (Ai b7) rfl (qm rfl (AN rfl (qm rfl ?_))))
   refine CS 42 h rfl (fun h => ?_) fun h => ?_
   ·refine qw 4 rfl (qu rfl (qu rfl (qu rfl (qu rfl (qu rfl (qu rfl (qu rfl (qu rfl (qu rfl (qu rfl (qu rfl (qu rfl (qn rfl (qp rfl (AH (by kernel_rfl) ?_)))))))))))))))
    exact sn [] h
   ·refine qf DZ rfl (ql Bg rfl (AN rfl (qm rfl ?_)))
    refine CS 46 h rfl (fun h => ?_) fun h => ?_
    ·refine qL E8 B4 rfl (qw 2 rfl (HK rfl (qf Dc rfl (ql Bi rfl (qf Cp rfl (ql Bg rfl ?_))))))
     refine BW h fun v10 a10 b10 h => qI AC CU a10 (Ai b10) rfl (qj Bg (Ai b10) rfl ?_)
     refine Cg h fun v11 a11 h => Ay [] (Kc N v1 ((Cl .u8 v5 v4)) v10 v11 a11) Wu rfl (CM rfl (qp rfl (qp rfl (AH (by kernel_rfl) ?_))))
     exact sn [] h
    ·refine qw 12 rfl (qp rfl (qp rfl (AH (by kernel_rfl) ?_)))
     exact sn [] h
  ·refine Bp h (fun h => ?_) fun h => ?_
   ·refine wq rfl (qe rfl ?_)
    obtain rfl := sj h
    refine Ag (sm [] [(6, bD false)] [(90000, .box [.own 90001, .own 90002, .own 90003]), (90001, .vec 1 (p1.fh.map Au)), (90002, .vec 1 (p1.fe.map Au)), (90003, .vec 1 (p1.ff.map DL))] rfl rfl) (As ?_)
    exact ⟨⟨[_], tm, rfl⟩, ⟨rfl, rfl, rfl, rfl, tv⟩, tv⟩
   ·refine Aq (wq rfl (qm rfl (HK rfl (qf CP rfl (ql GX rfl (qw 2 rfl ?_))))))
    refine BW h fun v13 a13 b13 h => qI DP DW a13 (Ai b13) rfl ?_
    refine EG rfl rfl rfl rfl (Ai b13) rfl DW rfl (GO rfl) (EI DL p1.ff _ v4) ?_
    refine Ac (wq rfl (qe rfl ?_))
    obtain rfl := sj h
    refine Ag (sm [] [(6, bD true)] [(90000, .box [.own 90001, .own 90002, .own 90003]), (90001, .vec 1 (p1.fh.map Au)), (90002, .vec 1 (p1.fe.map Au)), (90003, .vec 1 ((p1.ff.set ((p2).toNat) v4).map DL))] rfl rfl) (As ?_)
    exact ⟨⟨[_], tm, rfl⟩, ⟨rfl, rfl, rfl, rfl, tv⟩, tv⟩
theorem Of (N : Nat) (p0 : Aa) (p1 : Ae) (p2 : Al) (r : Ae × Bool) (h : Fl N p0 p1 p2 = some r) : Ar zA0 180 [.e (.agg (Am p0)), .e (.agg (Bm p1)), .e (.agg (Cb p2))] [(1, r.1.fh.map Au), (1, r.1.fe.map Au), (1, r.1.ff.map DL)] (.tup [.agg [.own 0, .own 1, .own 2], .one (.pure (.val (.bool r.2)))]) := by
 unfold Fl at h
 refine cw (n := 51) (rs := [.cell 6 40, .tmp 7]) Tryz.func180 fun w0 S0 => ?_
 refine wq rfl (qb rfl (qb rfl (qb rfl (qz Do rfl (qa rfl (Ac (wq rfl (qL B8 AS rfl ?_))))))))
 refine Cg h fun v1 a1 h => Ay [2001, 2002, 2003] (Jh N p1 v1 a1) T3 rfl (qz Do rfl (qs AS rfl (Ac (wp rfl (qf DF rfl (ql Bg rfl (Ac (AQ (wq rfl (AN rfl (qe rfl ?_)))))))))))
 refine Bp h (fun h => ?_) fun h => ?_
 ·refine wq rfl (qL B8 AS rfl (qL D2 D0 rfl (qL Ju GN rfl ?_)))
  refine Cg h fun v3 a3 h => Fy (ds0 := [_, _, _]) [8, 2001, 2002, 2003] [] [false, false, true, true] (NY N p0 v1 p2 v3 a3) (.p rfl) Wz rfl ⟨rfl, rfl, rfl, tv⟩ rfl rfl (Ee rfl) ⟨rfl, rfl, rfl, rfl, tv⟩ rfl (C3 rfl) tv ⟨(fun _ => rfl), (fun _ => rfl), (fun h => by cases h), (fun h => by cases h), tv⟩ rfl rfl rfl ?_
  refine qs AS rfl (qa rfl (AH (by kernel_rfl) ?_))
  obtain rfl := sj h
  refine Ag (sm [(1000, 2001), (1001, 2002), (1002, 2003)] [(6, oD (.ptr 6 0)), (7, bD v3.1)] [(6, .box [.own 1000, .own 1001, .own 1002]), (1000, .vec 1 (v1.fh.map Au)), (1001, .vec 1 (v3.2.1.map Au)), (1002, .vec 1 (v3.2.2.map DL))] rfl rfl) (As ?_)
  exact ⟨⟨[_, _], ⟨.cellN _ _ _ _ _ _ _ rfl rfl B8 AS rfl rfl (Io rfl), tm⟩, rfl⟩, ⟨rfl, rfl, rfl, tv⟩⟩
 ·refine wq rfl (AN rfl (qe rfl ?_))
  refine Bp h (fun h => ?_) fun h => ?_
  ·refine wq rfl (qL B8 AS rfl (qL D2 D0 rfl (qf DM rfl (ql Bg rfl ?_))))
   refine Cg h fun v5 a5 h => Fy (ds0 := [_, _, _]) [8, 2001, 2002, 2003] [] [false, false, false, true] (Nj N p0 v1 p2.fm v5 a5) (.p rfl) V8 rfl ⟨rfl, rfl, rfl, tv⟩ rfl rfl (Ee rfl) ⟨rfl, rfl, rfl, rfl, tv⟩ rfl (C3 rfl) tv ⟨(fun _ => rfl), (fun _ => rfl), (fun _ => rfl), (fun h => by cases h), tv⟩ rfl rfl rfl ?_
   refine qs AS rfl (qa rfl (AH (by kernel_rfl) ?_))
   obtain rfl := sj h
   refine Ag (sm [(1000, 2001), (1001, 2002), (1002, 2003)] [(6, oD (.ptr 6 0)), (7, bD v5.1)] [(6, .box [.own 1000, .own 1001, .own 1002]), (1000, .vec 1 (v1.fh.map Au)), (1001, .vec 1 (v1.fe.map Au)), (1002, .vec 1 (v5.2.map DL))] rfl rfl) (As ?_)
   exact ⟨⟨[_, _], ⟨.cellN _ _ _ _ _ _ _ rfl rfl B8 AS rfl rfl (Io rfl), tm⟩, rfl⟩, ⟨rfl, rfl, rfl, tv⟩⟩
  ·refine Aq (wq rfl (qf BX rfl (ql Bi rfl (qf DM rfl (ql Bg rfl ?_)))))
   refine BW h fun v6 a6 b6 h => qI AC CU a6 (Ai b6) rfl (qj Bg (Ai b6) rfl (qa rfl (Ac (wp rfl (qm rfl (Bc rfl (Ac ?_)))))))
   refine Bp h (fun h => ?_) fun h => ?_
   ·refine wq rfl (qL B8 AS rfl (qs AS rfl (qe rfl ?_)))
    obtain rfl := sj h
    refine Ag (sm [(1000, 2001), (1001, 2002), (1002, 2003)] [(6, oD (.ptr 6 0)), (7, bD false)] [(6, .box [.own 1000, .own 1001, .own 1002]), (1000, .vec 1 (v1.fh.map Au)), (1001, .vec 1 (v1.fe.map Au)), (1002, .vec 1 (v1.ff.map DL))] rfl rfl) (As ?_)
    exact ⟨⟨[_, _], ⟨.cellN _ _ _ _ _ _ _ rfl rfl B8 AS rfl rfl (Io rfl), tm⟩, rfl⟩, ⟨rfl, rfl, rfl, tv⟩⟩
   ·refine Aq (wq rfl (qf BX rfl (ql Bi rfl (qf DM rfl (ql Bg rfl ?_)))))
    refine BW h fun v8 a8 b8 h => qI AC CU a8 (Ai b8) rfl ?_
    refine EG rfl rfl rfl rfl (Ai b8) rfl CU rfl (GO rfl) (EI Au v1.fe _ ((-1))) ?_
    refine Ac ?_
    refine AK h (fun v9 => mk [(6, oD (.ptr 6 0)), (8, oD (.ptr 8 0))] [(6, .box [.pure (.nil0), .pure (.nil0), .pure (.nil0)]), (8, .box [.own 2004, .own 2005, .own 2006]), (2004, .vec 1 (v9.map Au)), (2005, .vec 1 ((v1.fe.set ((p2.fm).toNat) ((-1))).map Au)), (2006, .vec 1 (v1.ff.map DL))]) (fun j9 h => ?_) (fun v9 h => ?_)
    ·refine wq rfl (qf DF rfl (ql Bg rfl (AN rfl (Ac ?_))))
     refine Bp h (fun h => ?_) fun h => ?_
     ·refine Ak Ax rfl (qf Dc rfl (ql Bi rfl (qf DM rfl (ql Bg rfl (qm rfl ?_)))))
      refine BW h fun v11 a11 b11 h => qI AC CU a11 (Ai b11) rfl ?_
      refine EG rfl rfl rfl rfl (Ai b11) rfl CU rfl (GO rfl) (EI Au v1.fh _ v6) ?_
      refine Ac ?_
      exact sn [(2004, 2001), (2005, 2002), (2006, 2003)] h
     ·refine Aq ?_
      exact sn [(2004, 2001), (2005, 2002), (2006, 2003)] h
    ·refine wq rfl (qL B8 AS rfl (qs AS rfl (qe rfl ?_)))
     obtain rfl := sj h
     refine Ag (sm [(1000, 2004), (1001, 2005), (1002, 2006)] [(6, oD (.ptr 6 0)), (7, bD true)] [(6, .box [.own 1000, .own 1001, .own 1002]), (1000, .vec 1 (v9.map Au)), (1001, .vec 1 ((v1.fe.set ((p2.fm).toNat) ((-1))).map Au)), (1002, .vec 1 (v1.ff.map DL))] rfl rfl) (As ?_)
     exact ⟨⟨[_, _], ⟨.cellN _ _ _ _ _ _ _ rfl rfl B8 AS rfl rfl (Io rfl), tm⟩, rfl⟩, ⟨rfl, rfl, rfl, tv⟩⟩
theorem Ka (N : Nat) (p0 : Aa) (p1 : Ae) (p2 : Al) (r : Ae × Int) (h : EL N p0 p1 p2 = some r) : Ar zA0 154 [.e (.agg (Am p0)), .e (.agg (Bm p1)), .e (.agg (Cb p2))] [(1, r.1.fh.map Au), (1, r.1.fe.map Au), (1, r.1.ff.map DL)] (.tup [.agg [.own 0, .own 1, .own 2], .one (iC r.2)]) := by
 unfold EL at h
 refine cw (n := 32) (rs := [.cell 6 40, .tmp 7]) Tryz.func154 fun w0 S0 => ?_
 refine wq rfl (qb rfl (qb rfl (qb rfl (qz Do rfl (qa rfl (Ac (AP (AQ (wq rfl (qL Ju GN rfl ?_))))))))))
 refine Cg h fun v1 a1 h => Ay [] (N6 N p2 v1 a1) VO rfl (CM rfl (qe rfl ?_))
 refine Bp h (fun h => ?_) fun h => ?_
 ·refine wq rfl (BD Do GP rfl (qs AS rfl (qe rfl ?_)))
  obtain rfl := sj h
  refine Ag ((Av 6 0 2001 1 _ rfl rfl rfl rfl).trans ((Av 6 1 2002 1 _ rfl rfl rfl rfl).trans ((Av 6 2 2003 1 _ rfl rfl rfl rfl).trans (sm [(1000, 2001), (1001, 2002), (1002, 2003)] [(6, oD (.ptr 6 0)), (7, iD 1)] [(6, .box [.own 1000, .own 1001, .own 1002]), (1000, .vec 1 ((([] : List Int)).map Au)), (1001, .vec 1 ((([] : List Int)).map Au)), (1002, .vec 1 ((([] : List Int)).map DL))] rfl rfl)))) (As ?_)
  exact ⟨⟨[_, _], ⟨.cellN _ _ _ _ _ _ _ rfl rfl B8 AS rfl rfl (Io rfl), tm⟩, rfl⟩, ⟨rfl, rfl, rfl, tv⟩⟩
 ·refine wq rfl (qL D2 D0 rfl (qL Ju GN rfl ?_))
  refine Cg h fun v3 a3 h => Ay [] (Mn N p0 p2 v3 a3) Wn rfl (CM rfl (qe rfl ?_))
  refine Bp h (fun h => ?_) fun h => ?_
  ·refine wq rfl (BD Do GP rfl (qs AS rfl (qe rfl ?_)))
   obtain rfl := sj h
   refine Ag ((Av 6 0 2004 1 _ rfl rfl rfl rfl).trans ((Av 6 1 2005 1 _ rfl rfl rfl rfl).trans ((Av 6 2 2006 1 _ rfl rfl rfl rfl).trans (sm [(1000, 2004), (1001, 2005), (1002, 2006)] [(6, oD (.ptr 6 0)), (7, iD 4)] [(6, .box [.own 1000, .own 1001, .own 1002]), (1000, .vec 1 ((([] : List Int)).map Au)), (1001, .vec 1 ((([] : List Int)).map Au)), (1002, .vec 1 ((([] : List Int)).map DL))] rfl rfl)))) (As ?_)
   exact ⟨⟨[_, _], ⟨.cellN _ _ _ _ _ _ _ rfl rfl B8 AS rfl rfl (Io rfl), tm⟩, rfl⟩, ⟨rfl, rfl, rfl, tv⟩⟩
  ·refine Aq (wq rfl (qL D2 D0 rfl (qL B8 AS rfl (qL Ju GN rfl ?_))))
   refine Cg h fun v5 a5 h => Ay [2007, 2008, 2009] (Of N p0 p1 p2 v5 a5) VA rfl (qm rfl (qx rfl (qx rfl (qz Do rfl (qs AS rfl (qa rfl (Ac (wp rfl (qm rfl (CM rfl (Ac ?_)))))))))))
   refine Bp h (fun h => ?_) fun h => ?_
   ·refine wq rfl (BD Do GP rfl (qs AS rfl (qe rfl ?_)))
    obtain rfl := sj h
    refine Ag ((Av 6 0 2010 1 _ rfl rfl rfl rfl).trans ((Av 6 1 2011 1 _ rfl rfl rfl rfl).trans ((Av 6 2 2012 1 _ rfl rfl rfl rfl).trans (sm [(1000, 2010), (1001, 2011), (1002, 2012)] [(6, oD (.ptr 6 0)), (7, iD 11)] [(6, .box [.own 1000, .own 1001, .own 1002]), (1000, .vec 1 ((([] : List Int)).map Au)), (1001, .vec 1 ((([] : List Int)).map Au)), (1002, .vec 1 ((([] : List Int)).map DL))] rfl rfl)))) (As ?_)
    exact ⟨⟨[_, _], ⟨.cellN _ _ _ _ _ _ _ rfl rfl B8 AS rfl rfl (Io rfl), tm⟩, rfl⟩, ⟨rfl, rfl, rfl, tv⟩⟩
   ·refine Aq (wq rfl (qL B8 AS rfl (qs AS rfl (qe rfl ?_))))
    obtain rfl := sj h
    refine Ag (sm [(1000, 2007), (1001, 2008), (1002, 2009)] [(6, oD (.ptr 6 0)), (7, iD 0)] [(6, .box [.own 1000, .own 1001, .own 1002]), (1000, .vec 1 (v5.1.fh.map Au)), (1001, .vec 1 (v5.1.fe.map Au)), (1002, .vec 1 (v5.1.ff.map DL))] rfl rfl) (As ?_)
    exact ⟨⟨[_, _], ⟨.cellN _ _ _ _ _ _ _ rfl rfl B8 AS rfl rfl (Io rfl), tm⟩, rfl⟩, ⟨rfl, rfl, rfl, tv⟩⟩
theorem PY (N : Nat) (p0 : Aa) (p1 : Ae) (p2 : List Al) (r : (List Ae) × Int × Int) (h : Gv N p0 p1 p2 = some r) : Ar zA0 113 [.e (.agg (Am p0)), .e (.agg (Bm p1)), pD (.sl (p2.map AM))] [(3, r.1.map EW)] (.tup [.one (.own 0), .one (iC r.2.1), .one (iC r.2.2)]) := by
 unfold Gv at h
 refine cw (n := 53) (rs := [.tmp 6, .tmp 7, .tmp 8]) Tryz.func113 fun w0 S0 => ?_
 refine wq rfl (qb rfl (qb rfl (qa rfl (qa rfl (qa rfl (Ac (wp rfl (qL D2 D0 rfl (qL B8 AS rfl ?_)))))))))
 refine Cg h fun v1 a1 h => Ay [] (KQ N p0 p1 v1 a1) Uh rfl (qa rfl (Ac (wq rfl (qm rfl (BJ rfl (Ac ?_))))))
 refine Bp h (fun h => ?_) fun h => ?_
 ·refine wq rfl (qm rfl (qa rfl (qa rfl (qe rfl ?_))))
  obtain rfl := sj h
  refine Ag ((E0 6 2001 3 rfl rfl rfl).trans (sm [(1000, 2001)] [(6, oD (.own 1000)), (7, iD 0), (8, iD v1)] [(1000, .vec 3 ((([] : List Ae)).map EW))] rfl rfl)) (As ?_)
  exact ⟨⟨[_, _, _], ⟨.tmp _ _ rfl, ⟨.tmp _ _ rfl, tm⟩⟩, rfl⟩, ⟨rfl, tv⟩⟩
 ·refine Aq (wq rfl (qL B8 AS rfl ?_))
  refine Cg h fun v3 a3 h => Ay [2002, 2003, 2004] (Jh N p1 v3 a3) T3 rfl (FI (Cd 2002 _ _ rfl rfl) (FI (Cd 2003 _ _ rfl rfl) (FI (Cd 2004 _ _ rfl rfl) (Fm HE AS Do rfl (qa rfl (Ac (wp rfl (qm rfl (AG Hi rfl (qm rfl (Ac ?_)))))))))))
  refine Ba (L := El N p0 p2) h (fun v4 => mk [(2, pD (.sl (p2.map AM))), (3, oD (.ptr 3 0)), (10, oD (.own 2005)), (24, pD (.sl (p2.map AM))), (25, iD ((p2.length : Int))), (26, iD v4.2)] [(3, .box (Am p0)), (2005, .vec 3 (v4.1.map EW))]) (fun v5 => mk [(2, pD (.sl (p2.map AM))), (10, oD (.own 2006))] [(2006, .vec 3 (v5.map EW))]) (fun _ _ => rfl) (sm [(2005, 23)] _ _ rfl rfl) (fun j4 n4 v4 h => ?_) (fun v5 s h hs => ?_)
  ·unfold El at h
   refine wq rfl (Bc rfl (Ac (AP ?_)))
   refine Bp h (fun h => ?_) fun h => ?_
   ·refine Aq (AP (AQ (wq rfl (qm rfl ?_))))
    refine BW h fun v7 a7 b7 h => qi Hi GN a7 (Ai b7) rfl (qK Ju GN rfl (qz QL rfl (qa rfl (qs GN rfl (Ac (wq rfl (qL D2 D0 rfl (qw 2 rfl ?_))))))))
    refine BW h fun v8 a8 b8 h => qI HE AS a8 (Ai b8) rfl (qJ B8 AS (Ai b8) rfl (qL Ju GN rfl ?_))
    refine Cg h fun v9 a9 h => Ay [2007, 2008, 2009] (Ka N p0 v8 v7 v9 a9) TX rfl (qm rfl (qx rfl (qx rfl (qz Do rfl (qs AS rfl (qa rfl (AH (by kernel_rfl) (wp rfl (qm rfl (BJ rfl (Ac ?_)))))))))))
    refine Bp h (fun h => ?_) fun h => ?_
    ·refine wq rfl (qw 2 rfl (qa rfl (qa rfl (qe rfl ?_))))
     obtain rfl := sj h
     refine Ag ((E0 6 2010 3 rfl rfl rfl).trans (sm [(1000, 2010)] [(6, oD (.own 1000)), (7, iD v4.2), (8, iD v9.2)] [(1000, .vec 3 ((([] : List Ae)).map EW))] rfl rfl)) (As ?_)
     exact ⟨⟨[_, _, _], ⟨.tmp _ _ rfl, ⟨.tmp _ _ rfl, tm⟩⟩, rfl⟩, ⟨rfl, tv⟩⟩
    ·refine Aq (Ak Ax rfl (qm rfl (qL B8 AS rfl (FI (Cd 2007 _ _ rfl rfl) (FI (Cd 2008 _ _ rfl rfl) (FI (Cd 2009 _ _ rfl rfl) (Fm HE AS Do rfl ?_)))))))
     refine HH h fun c11 h => Kr (f := EW) HE HE AS Um Do c11 rfl (qa rfl (Ac (Ak Ax rfl (CB rfl (qm rfl (Ac ?_))))))
     exact sn [(2005, 48)] h
   ·refine B1 ?_
    exact sn [(2006, 2005)] h
  ·refine Ag hs (wq rfl (qw 2 rfl (AG Hi rfl (qa rfl (qa rfl (qe rfl ?_))))))
   obtain rfl := sj h
   refine Ag (sm [(1000, 2006)] [(6, oD (.own 1000)), (7, iD ((p2.length : Int))), (8, iD 0)] [(1000, .vec 3 (v5.map EW))] rfl rfl) (As ?_)
   exact ⟨⟨[_, _, _], ⟨.tmp _ _ rfl, ⟨.tmp _ _ rfl, tm⟩⟩, rfl⟩, ⟨rfl, tv⟩⟩
theorem Hu (N : Nat) (p0 : Aa) (p1 : List Al) (r : Ae × Int) (h : Dj N p0 p1 = some r) : Ar zA0 72 [.e (.agg (Am p0)), pD (.sl (p1.map AM))] [] (.tup [.agg (Bm r.1), .one (iC r.2)]) := by
 unfold Dj at h
 refine cw (n := 30) (rs := [.cell 4 40, .tmp 5]) Tryz.func72 fun w0 S0 => ?_
 refine wq rfl (qb rfl (qz Do rfl (qa rfl (Ac (wp rfl (qm rfl ?_))))))
 refine Cg h fun v1 a1 h => Ay [] (Ar.weak (ds' := [pD (.sl (p1.map AM)), oD (.fnc 111)]) (EX N p1 ((fun (x : Al) => Dw N x)) v1 a1) ⟨(fun _ _ _ hh => hh), (fun _ _ _ hh => NN WJ (fun ar t ht => by obtain ⟨x, r, rfl, hq, rfl⟩ := I4 ht; exact I7 N x r hq) hh), tv⟩) VY rfl ?_
 refine Ac ?_
 refine Bp h (fun h => ?_) fun h => ?_
 ·refine wq rfl (BD Do GP rfl (qs AS rfl (qe rfl ?_)))
  obtain rfl := sj h
  refine Ag ((I2 4 _ rfl).trans (sm [] [(4, oD (.ptr 4 0)), (5, iD 1)] [(4, .box [sC ((([] : List Int)).map Au), sC ((([] : List Int)).map Au), sC ((([] : List Int)).map DL)])] rfl rfl)) (As ?_)
  exact ⟨⟨[_, _], ⟨.cellN _ _ _ _ _ _ _ rfl rfl B8 AS rfl rfl (Io rfl), tm⟩, rfl⟩, tv⟩
 ·refine Aq (wq rfl (qL D2 D0 rfl ?_))
  refine Cg h fun v3 a3 h => Ay [2001, 2002, 2003] (OJ N p0 v3 a3) VL rfl (qm rfl (qx rfl (qx rfl (qz Do rfl (qs AS rfl (qa rfl (Ac (wp rfl (qm rfl (BJ rfl (Ac ?_)))))))))))
  refine Bp h (fun h => ?_) fun h => ?_
  ·refine wq rfl (BD Do GP rfl (qm rfl (qs AS rfl (qe rfl ?_))))
   obtain rfl := sj h
   refine Ag ((I2 4 _ rfl).trans (sm [] [(4, oD (.ptr 4 0)), (5, iD v3.2)] [(4, .box [sC ((([] : List Int)).map Au), sC ((([] : List Int)).map Au), sC ((([] : List Int)).map DL)])] rfl rfl)) (As ?_)
   exact ⟨⟨[_, _], ⟨.cellN _ _ _ _ _ _ _ rfl rfl B8 AS rfl rfl (Io rfl), tm⟩, rfl⟩, tv⟩
  ·refine Aq (wq rfl (qL D2 D0 rfl (qL B8 AS rfl (qm rfl (FI (Cd 2001 _ _ rfl rfl) (FI (Cd 2002 _ _ rfl rfl) (FI (Cd 2003 _ _ rfl rfl) ?_)))))))
   refine Cg h fun v5 a5 h => Ay [2004] (PY N p0 v3.1 p1 v5 a5) Wl rfl (qm rfl (qx rfl (qx rfl (qx rfl (qa rfl (Ac (wq rfl (qL B8 AS rfl (qm rfl (qs AS rfl (qe rfl ?_)))))))))))
   obtain rfl := sj h
   refine Ag (sm [] [(4, oD (.ptr 4 0)), (5, iD v5.2.2)] [(4, .box (Bm v3.1))] rfl rfl) (As ?_)
   exact ⟨⟨[_, _], ⟨.cellN _ _ _ _ _ _ _ rfl rfl B8 AS rfl rfl (Io rfl), tm⟩, rfl⟩, tv⟩
theorem Kl (N : Nat) (p0 : Int) (r : ByteArray) (h : EJ N p0 = some r) : Ar zA0 119 [iD p0] [] (pD (.val (.string r))) := by
 unfold EJ at h
 refine cw (n := 14) (rs := [.tmp 2]) Tryz.func119 fun w0 S0 => ?_
 refine wq rfl (qa rfl (Ac (wq rfl ?_)))
 refine R2 [(1, .const (.string ⟨#[114, 101, 97, 100]⟩), _), (2, .const (.string ⟨#[98, 101, 103, 105, 110]⟩), _), (3, .const (.string ⟨#[100, 111, 110, 101]⟩), _), (4, .const (.string ⟨#[97, 98, 111, 114, 116]⟩), _), (5, .const (.string ⟨#[114, 101, 115, 117, 109, 101]⟩), _), (6, .const (.string ⟨#[115, 119, 105, 116, 99, 104]⟩), _), (7, .const (.string ⟨#[108, 101, 97, 115, 101]⟩), _)] (.p rfl) rfl ⟨rfl, rfl, rfl, rfl, rfl, rfl, rfl, tv⟩ Ut rfl rfl Sw WN rfl ?_
 refine qz Ut rfl (qs Wd rfl (Ac (AP ?_)))
 refine AK h (fun v1 => mk [(0, iD p0), (3, oD (.ptr 3 0)), (10, bD v1)] [(3, .box [.pure (.val (.string (⟨#[]⟩))), .pure (.val (.string ((⟨#[114, 101, 97, 100]⟩ : ByteArray)))), .pure (.val (.string ((⟨#[98, 101, 103, 105, 110]⟩ : ByteArray)))), .pure (.val (.string ((⟨#[100, 111, 110, 101]⟩ : ByteArray)))), .pure (.val (.string ((⟨#[97, 98, 111, 114, 116]⟩ : ByteArray)))), .pure (.val (.string ((⟨#[114, 101, 115, 117, 109, 101]⟩ : ByteArray)))), .pure (.val (.string ((⟨#[115, 119, 105, 116, 99, 104]⟩ : ByteArray)))), .pure (.val (.string ((⟨#[108, 101, 97, 115, 101]⟩ : ByteArray))))])]) (fun j1 h => ?_) (fun v1 h => ?_)
 ·refine Ak Ax rfl (qm rfl (Bc rfl (qm rfl ?_)))
  refine CS 7 h rfl (fun h => ?_) fun h => ?_
  ·refine qw 2 rfl (qp rfl (Ac ?_))
   exact sn [] h
  ·refine qm rfl (DO rfl (qp rfl (Ac ?_)))
   exact sn [] h
 ·refine Bp h (fun h => ?_) fun h => ?_
  ·refine wq rfl (qe rfl ?_)
   obtain rfl := sj h
   refine Ag (sm [] [(2, pD (.val (.string ((⟨#[]⟩ : ByteArray)))))] [] rfl rfl) (As ?_)
   exact ⟨⟨[_], tm, rfl⟩, tv⟩
  ·refine Aq (wq rfl (qm rfl (FI (IA 3 [.val (.string (⟨#[]⟩)), .val (.string ((⟨#[114, 101, 97, 100]⟩ : ByteArray))), .val (.string ((⟨#[98, 101, 103, 105, 110]⟩ : ByteArray))), .val (.string ((⟨#[100, 111, 110, 101]⟩ : ByteArray))), .val (.string ((⟨#[97, 98, 111, 114, 116]⟩ : ByteArray))), .val (.string ((⟨#[114, 101, 115, 117, 109, 101]⟩ : ByteArray))), .val (.string ((⟨#[115, 119, 105, 116, 99, 104]⟩ : ByteArray))), .val (.string ((⟨#[108, 101, 97, 115, 101]⟩ : ByteArray)))] rfl rfl) ?_)))
   refine BW h fun v4 a4 b4 h => RL (.p rfl) rfl rfl Sw WN rfl a4 (Ai (f := fun q : ByteArray => T.val (.string q)) b4) ?_
   refine qk Xx rfl (qe rfl ?_)
   obtain rfl := sj h
   refine Ag (sm [] [(2, pD (.val (.string v4)))] [] rfl rfl) (As ?_)
   exact ⟨⟨[_], tm, rfl⟩, tv⟩
theorem Iw (N : Nat) (p0 : Ab) (r : (List Int)) (h : DJ N p0 = some r) : Ar zA0 120 [.e (.agg (BA p0))] [(1, r.map Au)] (oD (.own 0)) := by
 unfold DJ at h
 refine cw (n := 35) (rs := [.tmp 2]) Tryz.func120 fun w0 S0 => ?_
 refine wq rfl (qb rfl (qa rfl (Ac (wp rfl (qf DN rfl (ql Bg rfl (Ac (AQ (wq rfl (AN rfl (qe rfl ?_)))))))))))
 refine Bp h (fun h => ?_) fun h => ?_
 ·refine wq rfl (qf Hn rfl (ql Bg rfl (qf Hw rfl (ql Bg rfl (qf H7 rfl (ql Bg rfl (Fm Cn In TY rfl (qe rfl ?_))))))))
  obtain rfl := sj h
  refine Ag (sm [(1000, 13)] [(2, oD (.own 1000))] [(1000, .vec 1 ((([p0.fA, p0.fB, p0.fF] : List Int)).map Au))] rfl rfl) (As ?_)
  exact ⟨⟨[_], tm, rfl⟩, ⟨rfl, tv⟩⟩
 ·refine wq rfl (AN rfl (qe rfl ?_))
  refine Bp h (fun h => ?_) fun h => ?_
  ·refine wq rfl (qf H2 rfl (ql Bg rfl (qf J7 rfl (ql Bg rfl (qf I3 rfl (ql Bg rfl (Fm Cn In TY rfl (qe rfl ?_))))))))
   obtain rfl := sj h
   refine Ag (sm [(1000, 22)] [(2, oD (.own 1000))] [(1000, .vec 1 ((([p0.fu, p0.fr, p0.fJ] : List Int)).map Au))] rfl rfl) (As ?_)
   exact ⟨⟨[_], tm, rfl⟩, ⟨rfl, tv⟩⟩
  ·refine wq rfl (AN rfl (qe rfl ?_))
   refine Bp h (fun h => ?_) fun h => ?_
   ·refine wq rfl (qf JP rfl (ql Bg rfl (qf Fv rfl (ql HI rfl (Fm Cn In TY rfl (qe rfl ?_))))))
    obtain rfl := sj h
    refine Ag (sm [(1000, 29)] [(2, oD (.own 1000))] [(1000, .vec 1 ((([p0.fM, p0.fw] : List Int)).map Au))] rfl rfl) (As ?_)
    exact ⟨⟨[_], tm, rfl⟩, ⟨rfl, tv⟩⟩
   ·refine Aq (wq rfl (qf JQ rfl (ql Bg rfl (qf Fv rfl (ql HI rfl (Fm Cn In TY rfl (qe rfl ?_)))))))
    obtain rfl := sj h
    refine Ag (sm [(1000, 34)] [(2, oD (.own 1000))] [(1000, .vec 1 ((([p0.fm, p0.fw] : List Int)).map Au))] rfl rfl) (As ?_)
    exact ⟨⟨[_], tm, rfl⟩, ⟨rfl, tv⟩⟩
theorem My (N : Nat) (p0 : Int) (p1 : Int) (p2 : List Int) (r : Ab) (h : Eo N p0 p1 p2 = some r) : Ar zA0 121 [iD p0, iD p1, pD (.sl (p2.map Au))] [] (.e (.agg (BA r))) := by
 unfold Eo at h
 refine cw (n := 59) (rs := [.cell 6 37]) Tryz.func121 fun w0 S0 => ?_
 refine wq rfl (qz HB rfl (Ac (wq rfl (qw 2 rfl (BD HB QR rfl (qz HB rfl (qs C2 rfl (Ac ?_))))))))
 refine AK h (fun v1 => mk [(6, oD (.ptr 6 0)), (7, oD (.ptr 7 0))] [(6, .box [iC 0, iC 0, iC 0, iC 0, iC 0, iC 0, iC 0, iC 0, iC 0, iC 0, iC 0]), (7, .box [iC p0, iC p1, iC v1.1, iC v1.2.1, iC v1.2.2.1, iC v1.2.2.2.1, iC v1.2.2.2.2.1, iC v1.2.2.2.2.2.1, iC v1.2.2.2.2.2.2.1, iC v1.2.2.2.2.2.2.2.1, iC v1.2.2.2.2.2.2.2.2])]) (fun j1 h => ?_) (fun v1 h => ?_)
 ·refine wq rfl (qm rfl (Ac (AQ (wq rfl (AN rfl (qe rfl ?_))))))
  refine Bp h (fun h => ?_) fun h => ?_
  ·refine Ak Ax rfl (qm rfl ?_)
   refine BW h fun v3 a3 b3 h => qi Cn In a3 (Ai b3) rfl (qk HI rfl (qm rfl ?_))
   refine BW h fun v4 a4 b4 h => qi Cn In a4 (Ai b4) rfl (qk HI rfl (qm rfl ?_))
   refine BW h fun v5 a5 b5 h => qi Cn In a5 (Ai b5) rfl (qk HI rfl (qf Hn rfl (qs CU rfl (qf Hw rfl (qs CU rfl (qf H7 rfl (qs CU rfl (AH (by kernel_rfl) ?_))))))))
   exact sn [] h
  ·refine wq rfl (AN rfl (qe rfl ?_))
   refine Bp h (fun h => ?_) fun h => ?_
   ·refine Ak Ax rfl (qm rfl ?_)
    refine BW h fun v7 a7 b7 h => qi Cn In a7 (Ai b7) rfl (qk HI rfl (qm rfl ?_))
    refine BW h fun v8 a8 b8 h => qi Cn In a8 (Ai b8) rfl (qk HI rfl (qm rfl ?_))
    refine BW h fun v9 a9 b9 h => qi Cn In a9 (Ai b9) rfl (qk HI rfl (qf H2 rfl (qs CU rfl (qf J7 rfl (qs CU rfl (qf I3 rfl (qs CU rfl (AH (by kernel_rfl) ?_))))))))
    exact sn [] h
   ·refine wq rfl (AN rfl (qe rfl ?_))
    refine Bp h (fun h => ?_) fun h => ?_
    ·refine Ak Ax rfl (qm rfl ?_)
     refine BW h fun v11 a11 b11 h => qi Cn In a11 (Ai b11) rfl (qk HI rfl (qm rfl ?_))
     refine BW h fun v12 a12 b12 h => qi Cn In a12 (Ai b12) rfl (qk HI rfl (qf JP rfl (qs CU rfl (qf Fv rfl (qs In rfl (AH (by kernel_rfl) ?_))))))
     exact sn [] h
    ·refine Ak Ax rfl (qm rfl ?_)
     refine BW h fun v13 a13 b13 h => qi Cn In a13 (Ai b13) rfl (qk HI rfl (qm rfl ?_))
     refine BW h fun v14 a14 b14 h => qi Cn In a14 (Ai b14) rfl (qk HI rfl (qf JQ rfl (qs CU rfl (qf Fv rfl (qs In rfl (AH (by kernel_rfl) ?_))))))
     exact sn [] h
 ·refine wq rfl (qL F1 C2 rfl (qs C2 rfl (Ac ?_)))
  obtain rfl := sj h
  refine Ag (sm [] [(6, oD (.ptr 6 0))] [(6, .box [iC p0, iC p1, iC v1.1, iC v1.2.1, iC v1.2.2.1, iC v1.2.2.2.1, iC v1.2.2.2.2.1, iC v1.2.2.2.2.2.1, iC v1.2.2.2.2.2.2.1, iC v1.2.2.2.2.2.2.2.1, iC v1.2.2.2.2.2.2.2.2])] rfl rfl) (As ?_)
  exact ⟨⟨[_], ⟨.cellN _ _ _ _ _ _ _ rfl rfl F1 C2 rfl rfl (Io rfl), tv⟩, rfl⟩, tv⟩
theorem Gk (N : Nat) (p0 : List Int) (p1 : Int → Option Bool) (r : Int) (h : Ch N p0 p1 = some r) : Ar zA0 157 [pD (.sl (p0.map Au)), oD (.clo (IS (MX false Au) tB p1))] [] (iD r) := by
 unfold Ch at h
 refine cw (n := 19) (rs := [.tmp 4]) Tryz.func157 fun w0 S0 => ?_
 refine wq rfl (qa rfl (Ac (wp rfl (qm rfl (AG Cn rfl (qm rfl (Ac ?_)))))))
 refine Ba (L := AV N p0 p1) h (fun v1 => mk [(0, pD (.sl (p0.map Au))), (1, oD (.clo (IS (MX false Au) tB p1))), (7, iD ((p0.length : Int))), (8, iD v1)] []) (fun v2 => mk [] []) (fun _ _ => rfl) (sm [] _ _ rfl rfl) (fun j1 n1 v1 h => ?_) (fun v2 s h hs => ?_)
 ·unfold AV at h
  refine wq rfl (Bc rfl (Ac (AP ?_)))
  refine Bp h (fun h => ?_) fun h => ?_
  ·refine Aq (AP (AQ (wq rfl (qm rfl (qa rfl (Ac (wq rfl (qw 3 rfl ?_))))))))
   refine BW h fun v4 a4 b4 h => qi Cn In a4 (Ai b4) rfl (qk HI rfl ?_)
   refine Cg h fun v5 a5 h => Lm (ds0 := [_]) (ar := (MX false Au) v4) (.p rfl) rfl rfl ⟨rfl, tv⟩ rfl rfl rfl (Lj (Lg _ _ Sp) a5) ?_
   refine Ac ?_
   refine Bp h (fun h => ?_) fun h => ?_
   ·refine wq rfl (qm rfl (qe rfl ?_))
    obtain rfl := sj h
    refine Ag (sm [] [(4, iD v1)] [] rfl rfl) (As ?_)
    exact ⟨⟨[_], tm, rfl⟩, tv⟩
   ·refine Aq (Ak Ax rfl (CB rfl (qm rfl (Ac ?_))))
    exact sn [] h
  ·refine B1 ?_
   exact sn [] h
 ·refine Ag hs (wq rfl (qe rfl ?_))
  obtain rfl := sj h
  refine Ag (sm [] [(4, iD ((-1)))] [] rfl rfl) (As ?_)
  exact ⟨⟨[_], tm, rfl⟩, tv⟩
theorem FP (N : Nat) (p0 : List Int) (p1 : Int → Option Bool) (r : Bool) (h : Bf N p0 p1 = some r) : Ar zA0 122 [pD (.sl (p0.map Au)), oD (.clo (IS (MX false Au) tB p1))] [] (bD r) := by
 unfold Bf at h
 refine cw (n := 9) (rs := [.tmp 4]) Tryz.func122 fun w0 S0 => ?_
 refine wq rfl (qa rfl (Ac (wq rfl (qw 2 rfl ?_))))
 refine Cg h fun v1 a1 h => Ay [] (Gk N p0 p1 v1 a1) Vq rfl (DO rfl (qe rfl ?_))
 obtain rfl := sj h
 refine Ag (sm [] [(4, bD ((decide (0 ≤ v1))))] [] rfl rfl) (As ?_)
 exact ⟨⟨[_], tm, rfl⟩, tv⟩
theorem Lb (N : Nat) (p0 : Int) (r : Bool) (h : DQ N p0 = some r) : Ar zA0 123 [iD p0] [] (bD r) := by
 unfold DQ at h
 refine cw (n := 5) (rs := [.tmp 2]) Tryz.func123 fun w0 S0 => ?_
 refine wq rfl (qa rfl (Ac (wq rfl (qm rfl (Bc rfl (qe rfl ?_))))))
 obtain rfl := sj h
 refine Ag (sm [] [(2, bD ((decide (p0 < 0))))] [] rfl rfl) (As ?_)
 exact ⟨⟨[_], tm, rfl⟩, tv⟩
theorem Ms (N : Nat) (p0 : Ab) (r : Bool) (h : E9 N p0 = some r) : Ar zA0 86 [.e (.agg (BA p0))] [] (bD r) := by
 unfold E9 at h
 refine cw (n := 28) (rs := [.tmp 2]) Tryz.func86 fun w0 S0 => ?_
 refine wq rfl (qb rfl (qa rfl (Ac (AP ?_))))
 refine AK h (fun v1 => mk [(1, oD (.ptr 1 0)), (12, bD v1)] [(1, .box (BA p0))]) (fun j1 h => ?_) (fun v1 h => ?_)
 ·refine Ak Ax rfl (qf DN rfl (ql Bg rfl ?_))
  refine Cg h fun v2 a2 h => Ay [] (Kl N p0.fa v2 a2) Uu rfl ?_
  refine Ex (.p rfl) rfl rfl (LS _ _ _ _) rfl ?_
  refine qm rfl ?_
  refine CS 8 h rfl (fun h => ?_) fun h => ?_
  ·refine qw 3 rfl (qp rfl (Ac ?_))
   exact sn [] h
  ·refine qf GQ rfl (ql HI rfl (Bc rfl (qp rfl (Ac ?_))))
   exact sn [] h
 ·refine Bp h (fun h => ?_) fun h => ?_
  ·refine wq rfl (qe rfl ?_)
   obtain rfl := sj h
   refine Ag (sm [] [(2, bD false)] [] rfl rfl) (As ?_)
   exact ⟨⟨[_], tm, rfl⟩, tv⟩
  ·refine Aq (wq rfl (qL F1 C2 rfl ?_))
   refine Cg h fun v5 a5 h => Ay [2001] (Iw N p0 v5 a5) Ud rfl (qe rfl ?_)
   refine AK h (fun v6 => mk [(2, bD v6)] []) (fun j6 h => ?_) (fun v6 h => ?_)
   ·refine Ak Ax rfl (qL F1 C2 rfl (qf GQ rfl (ql HI rfl (qf DN rfl (ql Bg rfl (qm rfl ?_))))))
    refine Cg h fun v7 a7 h => F5 [] [2001] (My N p0.fi p0.fa v5 v7 a7) V3 Er rfl ?_
    refine Un [.int .i64 p0.fi, .int .i64 p0.fa, .int .i64 p0.fA, .int .i64 p0.fB, .int .i64 p0.fF, .int .i64 p0.fm, .int .i64 p0.fw, .int .i64 p0.fJ, .int .i64 p0.fu, .int .i64 p0.fr, .int .i64 p0.fM] [.int .i64 v7.fi, .int .i64 v7.fa, .int .i64 v7.fA, .int .i64 v7.fB, .int .i64 v7.fF, .int .i64 v7.fm, .int .i64 v7.fw, .int .i64 v7.fJ, .int .i64 v7.fu, .int .i64 v7.fr, .int .i64 v7.fM] (.p rfl) rfl rfl T9 rfl ?_
    refine qm rfl ?_
    refine CS 23 h rfl (fun h => ?_) fun h => ?_
    ·refine qm rfl ?_
     refine Cg h fun v9 a9 h => F5 [] [2001] (Ar.weak (ds' := [pD (.sl (v5.map Au)), oD (.fnc 123)]) (FP N v5 ((fun (x : Int) => DQ N x)) v9 a9) ⟨(fun _ _ _ hh => hh), (fun _ _ _ hh => NN Wy (fun ar t ht => by obtain ⟨x, r, rfl, hq, rfl⟩ := I4 ht; exact Lb N x r hq) hh), tv⟩) VQ Er rfl ?_
     refine CM rfl (qp rfl (qa rfl (AH (by kernel_rfl) ?_)))
     exact sn [] h
    ·refine qw 3 rfl (qp rfl (qa rfl (AH (by kernel_rfl) ?_)))
     exact sn [] h
   ·obtain rfl := sj h
    refine Ag (sm [] [(2, bD v6)] [] rfl rfl) (As ?_)
    exact ⟨⟨[_], tm, rfl⟩, tv⟩
theorem Gn (N : Nat) (p0 : List Ab) (r : Int) (h : Dv N p0 = some r) : Ar zA0 43 [pD (.sl (p0.map AE))] [] (iD r) := by
 unfold Dv at h
 refine cw (n := 34) (rs := [.tmp 2]) Tryz.func43 fun w0 S0 => ?_
 refine wq rfl (qa rfl (Ac (wp rfl (qm rfl (AG Dz rfl (Ei rfl (Ac ?_)))))))
 refine Bp h (fun h => ?_) fun h => ?_
 ·refine wq rfl (qe rfl ?_)
  obtain rfl := sj h
  refine Ag (sm [] [(2, iD 3)] [] rfl rfl) (As ?_)
  exact ⟨⟨[_], tm, rfl⟩, tv⟩
 ·refine Aq (wp rfl (qm rfl (AG Dz rfl (qm rfl (Ac ?_)))))
  refine Ba (L := DI N p0) h (fun v2 => mk [(0, pD (.sl (p0.map AE))), (8, pD (.sl (p0.map AE))), (9, iD ((p0.length : Int))), (10, iD v2)] []) (fun v3 => mk [] []) (fun _ _ => rfl) (sm [] _ _ rfl rfl) (fun j2 n2 v2 h => ?_) (fun v3 s h hs => ?_)
  ·unfold DI at h
   refine wq rfl (Bc rfl (Ac (AP ?_)))
   refine Bp h (fun h => ?_) fun h => ?_
   ·refine Aq (AP (AQ (wq rfl (qm rfl ?_))))
    refine BW h fun v5 a5 b5 h => qi Dz C2 a5 (Ai b5) rfl (qK F1 C2 rfl (qz HB rfl (qa rfl (qs C2 rfl (Ac ?_)))))
    refine AK h (fun v6 => mk [(0, pD (.sl (p0.map AE))), (8, pD (.sl (p0.map AE))), (9, iD ((p0.length : Int))), (10, iD v2), (32, bD v6)] []) (fun j6 h => ?_) (fun v6 h => ?_)
    ·refine Ak Ax rfl (qL F1 C2 rfl ?_)
     refine Cg h fun v7 a7 h => Ay [] (Ms N v5 v7 a7) Xp rfl (CM rfl (qm rfl ?_))
     refine CS 18 h rfl (fun h => ?_) fun h => ?_
     ·refine qw 3 rfl (qu rfl (qu rfl (qu rfl (qu rfl (qu rfl (qu rfl (qu rfl (qu rfl (qu rfl (qn rfl (qp rfl (AH (by kernel_rfl) ?_))))))))))))
      exact sn [] h
     ·refine qm rfl (Ei rfl (qm rfl ?_))
      refine CS 21 h rfl (fun h => ?_) fun h => ?_
      ·refine qf GQ rfl (ql HI rfl (qw 2 rfl (K1 rfl ?_)))
       refine BW h fun v10 a10 b10 h => qi Dz C2 a10 (Ai b10) rfl (qg GQ rfl (qk HI rfl (Bc rfl (qp rfl (qp rfl (AH (by kernel_rfl) ?_))))))
       exact sn [] h
      ·refine qw 9 rfl (qp rfl (qp rfl (AH (by kernel_rfl) ?_)))
       exact sn [] h
    ·refine Bp h (fun h => ?_) fun h => ?_
     ·refine wq rfl (qe rfl ?_)
      obtain rfl := sj h
      refine Ag (sm [] [(2, iD 1)] [] rfl rfl) (As ?_)
      exact ⟨⟨[_], tm, rfl⟩, tv⟩
     ·refine Aq (Ak Ax rfl (CB rfl (qm rfl (Ac ?_))))
      exact sn [] h
   ·refine B1 ?_
    exact sn [] h
  ·refine Ag hs (wq rfl (qe rfl ?_))
   obtain rfl := sj h
   refine Ag (sm [] [(2, iD 0)] [] rfl rfl) (As ?_)
   exact ⟨⟨[_], tm, rfl⟩, tv⟩
theorem JV (N : Nat) (r : A9) (h : ED N = some r) : DG zA0 64 [] [] [.box [iC r.fE, iC r.fG, .pure (.val (.bool r.fH)), .mref 1], .mp (D5 (Value.int .i64) Ga r.fI)] (oD (.ptr 0 0)) := by
 unfold ED at h
 refine DA (n := 4) (rs := [.tmp 0]) Tryz.func64 rfl rfl rfl (GO rfl) (GO rfl) rfl rfl (GO rfl) rfl (GO rfl) fun w0 S0 GL => ?_
 refine Ag (sm [] [] [] rfl rfl) (wq rfl (qa rfl (Ac (wq rfl ?_))))
 refine Q3 (.p rfl) rfl ?_
 refine BD Wk Vm rfl (qb rfl (qe rfl ?_))
 obtain rfl := sj h
 refine Ag (sm [(1000, 3), (1001, 1)] [(0, oD (.ptr 1000 0))] [(1000, .box [iC 0, iC 0, .pure (.val (.bool false)), .mref 1001]), (1001, .mp (D5 (Value.int .i64) Ga (([] : List (Int × Int)))))] rfl rfl) (As ?_)
 exact ⟨⟨[_], tm, rfl⟩, tv, ⟨rfl, rfl, tv⟩⟩
theorem Nm (N : Nat) (p0 : Aa) (p1 : Ab) (r : Bool) (h : Eh N p0 p1 = some r) : Ar zA0 62 [.e (.agg (Am p0)), .e (.agg (BA p1))] [] (bD r) := by
 unfold Eh at h
 refine cw (n := 47) (rs := [.tmp 4]) Tryz.func62 fun w0 S0 => ?_
 refine wq rfl (qb rfl (qb rfl (qa rfl (Ac (wp rfl (qf Hn rfl (ql Bg rfl (qf BO rfl (ql Fb rfl (AG Da rfl (DO rfl (Ac ?_))))))))))))
 refine Bp h (fun h => ?_) fun h => ?_
 ·refine wq rfl (qe rfl ?_)
  obtain rfl := sj h
  refine Ag (sm [] [(4, bD false)] [] rfl rfl) (As ?_)
  exact ⟨⟨[_], tm, rfl⟩, tv⟩
 ·refine Aq (wq rfl (qf BO rfl (ql Fb rfl (qf Hn rfl (ql Bg rfl ?_)))))
  refine BW h fun v2 a2 b2 h => qi Da B4 a2 (Ai b2) rfl (qK E8 B4 rfl (qz JK rfl (qs B4 rfl (Ac ?_))))
  refine AK h (fun v3 => mk [(4, bD v3)] []) (fun j3 h => ?_) (fun v3 h => ?_)
  ·refine Ak Ax rfl (qf Hw rfl (ql Bg rfl (qf Hk rfl (ql Fq rfl (AG D6 rfl (Bc rfl (qm rfl ?_)))))))
   refine CS 24 h rfl (fun h => ?_) fun h => ?_
   ·refine qf H7 rfl (ql Bg rfl (qf BI rfl (ql Bi rfl (qf G4 rfl (ql Bg rfl ?_)))))
    refine BW h fun v5 a5 b5 h => qi AC CU a5 (Ai b5) rfl (qk Bg rfl (Bc rfl (qp rfl (qm rfl ?_))))
    refine CS 35 h rfl (fun h => ?_) fun h => ?_
    ·refine qf Hk rfl (ql Fq rfl (qf Hw rfl (ql Bg rfl ?_)))
     refine BW h fun v7 a7 b7 h => qi D6 J1 a7 (Ai b7) rfl (qk JX rfl (qf H7 rfl (ql Bg rfl ?_)))
     refine BW h fun v8 a8 b8 h => qi H9 Ve a8 (Ai b8) rfl (qk Ul rfl (qp rfl (qa rfl (AH (by kernel_rfl) ?_))))
     exact sn [] h
    ·refine qw 10 rfl (qp rfl (qa rfl (AH (by kernel_rfl) ?_)))
     exact sn [] h
   ·refine qw 9 rfl (qp rfl (qw 11 rfl (qp rfl (qa rfl (AH (by kernel_rfl) ?_)))))
    exact sn [] h
  ·obtain rfl := sj h
   refine Ag (sm [] [(4, bD v3)] [] rfl rfl) (As ?_)
   exact ⟨⟨[_], tm, rfl⟩, tv⟩
theorem FY (N : Nat) (p0 : Ab) (r : Bool) (h : C9 N p0 = some r) : Ar zA0 80 [.e (.agg (BA p0))] [] (bD r) := by
 unfold C9 at h
 refine cw (n := 11) (rs := [.tmp 2]) Tryz.func80 fun w0 S0 => ?_
 refine wq rfl (qb rfl (qe rfl ?_))
 refine AK h (fun v1 => mk [(2, bD v1)] []) (fun j1 h => ?_) (fun v1 h => ?_)
 ·refine Ak Ax rfl (qf DN rfl (ql Bg rfl (DO rfl (qm rfl ?_))))
  refine CS 6 h rfl (fun h => ?_) fun h => ?_
  ·refine qf DN rfl (ql Bg rfl (MQ rfl (qp rfl (qe rfl ?_))))
   exact sn [] h
  ·refine qw 3 rfl (qp rfl (qe rfl ?_))
   exact sn [] h
 ·obtain rfl := sj h
  refine Ag (sm [] [(2, bD v1)] [] rfl rfl) (As ?_)
  exact ⟨⟨[_], tm, rfl⟩, tv⟩
theorem zFS (N : Nat) (p0 : Ah) (p1 : Ab) (r : Bool) (h : BT N p0 p1 = some r) : DG zA0 81 [oD (.ptr 90000 0), .e (.agg (BA p1))] [(.box (Aw p0), .box (Aw p0))] [] (bD r) := by
 unfold BT at h
 refine DA (n := 66) (rs := [.tmp 4]) Tryz.func81 rfl rfl rfl (GO rfl) (GO rfl) rfl rfl (GO rfl) rfl (GO rfl) fun w0 S0 GL => ?_
 refine Ag (sm [] [(0, oD (.ptr 90000 0)), (1, .e (.agg (BA p1)))] [(90000, .box (Aw p0))] rfl rfl) (wq rfl (qb rfl (qa rfl (Ac (AP ?_)))))
 refine AK h (fun v1 => mk [(0, oD (.ptr 90000 0)), (3, oD (.ptr 3 0)), (23, bD v1)] [(3, .box (BA p1)), (90000, .box (Aw p0))]) (fun j1 h => ?_) (fun v1 h => ?_)
 ·refine Ak Ax rfl (qf JQ rfl (ql Bg rfl (qm rfl (HK rfl (qf IW rfl (ql Bg rfl (BJ rfl (qm rfl ?_))))))))
  refine CS 12 h rfl (fun h => ?_) fun h => ?_
  ·refine qw 10 rfl (qp rfl (AH (by kernel_rfl) ?_))
   exact sn [] h
  ·refine qm rfl (HK rfl (qf IW rfl (ql Bg rfl (qm rfl (HK rfl (qf Ni rfl (ql Pj rfl (AG Hi rfl (DO rfl (qp rfl (AH (by kernel_rfl) ?_)))))))))))
   exact sn [] h
 ·refine Bp h (fun h => ?_) fun h => ?_
  ·refine wq rfl (qe rfl ?_)
   obtain rfl := sj h
   refine Ag (sm [] [(4, bD false)] [(90000, .box (Aw p0))] rfl rfl) (As ?_)
   exact ⟨⟨[_], tm, rfl⟩, ⟨rfl, tv⟩, tv⟩
  ·refine Aq (wp rfl (qf DN rfl (ql Bg rfl (Ac (AQ (wq rfl (AN rfl (qe rfl ?_))))))))
   refine Bp h (fun h => ?_) fun h => ?_
   ·refine wq rfl (qm rfl (HK rfl (qf Ht rfl (ql Bg rfl (AN rfl (qe rfl ?_))))))
    obtain rfl := sj h
    refine Ag (sm [] [(4, bD ((p0.fy == 0)))] [(90000, .box (Aw p0))] rfl rfl) (As ?_)
    exact ⟨⟨[_], tm, rfl⟩, ⟨rfl, tv⟩, tv⟩
   ·refine wq rfl (AN rfl (qe rfl ?_))
    refine Bp h (fun h => ?_) fun h => ?_
    ·refine wq rfl (qm rfl (HK rfl (qf Ht rfl (ql Bg rfl (AN rfl (qe rfl ?_))))))
     obtain rfl := sj h
     refine Ag (sm [] [(4, bD ((p0.fy == 1)))] [(90000, .box (Aw p0))] rfl rfl) (As ?_)
     exact ⟨⟨[_], tm, rfl⟩, ⟨rfl, tv⟩, tv⟩
    ·refine wq rfl (AN rfl (qe rfl ?_))
     refine Bp h (fun h => ?_) fun h => ?_
     ·refine AK h (fun v7 => mk [(4, bD v7)] [(90000, .box (Aw p0))]) (fun j7 h => ?_) (fun v7 h => ?_)
      ·refine Ak Ax rfl (qm rfl (HK rfl (qf Ht rfl (ql Bg rfl (AN rfl (qm rfl ?_))))))
       refine CS 47 h rfl (fun h => ?_) fun h => ?_
       ·refine qm rfl (HK rfl (qf Ni rfl (ql Pj rfl (qm rfl (HK rfl (qf IW rfl (ql Bg rfl ?_)))))))
        refine BW h fun v9 a9 b9 h => qi Hi GN a9 (Ai b9) rfl (qg DF rfl (qk Bg rfl (AN rfl (qp rfl (qa rfl (AH (by kernel_rfl) ?_))))))
        exact sn [] h
       ·refine qw 12 rfl (qp rfl (qa rfl (AH (by kernel_rfl) ?_)))
        exact sn [] h
      ·obtain rfl := sj h
       refine Ag (sm [] [(4, bD v7)] [(90000, .box (Aw p0))] rfl rfl) (As ?_)
       exact ⟨⟨[_], tm, rfl⟩, ⟨rfl, tv⟩, tv⟩
     ·refine Aq (wq rfl (qm rfl (HK rfl (qf Ht rfl (ql Bg rfl (AN rfl (qe rfl ?_)))))))
      obtain rfl := sj h
      refine Ag (sm [] [(4, bD ((p0.fy == 2)))] [(90000, .box (Aw p0))] rfl rfl) (As ?_)
      exact ⟨⟨[_], tm, rfl⟩, ⟨rfl, tv⟩, tv⟩
theorem IP (N : Nat) (p0 : A9) (p1 : Ab) (r : Bool × A9 × (List (Int × Int))) (h : De N p0 p1 = some r) : DG zA0 66 [oD (.ptr 90000 0), .e (.agg (BA p1))] [(.box [iC p0.fE, iC p0.fG, .pure (.val (.bool p0.fH)), .mref 90001], .box [iC r.2.1.fE, iC r.2.1.fG, .pure (.val (.bool r.2.1.fH)), .mref 90001]), (.mp (D5 (Value.int .i64) Ga p0.fI), .mp (D5 (Value.int .i64) Ga r.2.2))] [] (bD r.1) := by
 unfold De at h
 refine DA (n := 67) (rs := [.tmp 4]) Tryz.func66 rfl rfl rfl (GO rfl) (GO rfl) rfl rfl (GO rfl) rfl (GO rfl) fun w0 S0 GL => ?_
 refine Ag (sm [] [(0, oD (.ptr 90000 0)), (1, .e (.agg (BA p1)))] [(90000, .box [iC p0.fE, iC p0.fG, .pure (.val (.bool p0.fH)), .mref 90001]), (90001, .mp (D5 (Value.int .i64) Ga p0.fI))] rfl rfl) (wq rfl (qb rfl (qe rfl ?_)))
 refine AK h (fun v1 => mk [] [(90000, .box [iC v1.2.1, iC v1.2.2.1, .pure (.val (.bool v1.2.2.2)), .mref 90001]), (90001, .mp (D5 (Value.int .i64) Ga v1.1))]) (fun j1 h => ?_) (fun v1 h => ?_)
 ·refine AQ (wq rfl (qL F1 C2 rfl ?_))
  refine Cg h fun v2 a2 h => Ay [] (FY N p1 v2 a2) TD rfl (qe rfl ?_)
  refine Bp h (fun h => ?_) fun h => ?_
  ·refine wp rfl (qf Fv rfl (ql HI rfl (qm rfl (HK rfl (qf OZ rfl (ql HI rfl (Bc rfl (AH (by kernel_rfl) ?_))))))))
   refine Bp h (fun h => ?_) fun h => ?_
   ·refine wq rfl (qe rfl ?_)
    obtain rfl := sj h
    refine Ag (sm [] [(4, bD false)] [(90000, .box [iC p0.fE, iC p0.fG, .pure (.val (.bool p0.fH)), .mref 90001]), (90001, .mp (D5 (Value.int .i64) Ga p0.fI))] rfl rfl) (As ?_)
    exact ⟨⟨[_], tm, rfl⟩, ⟨rfl, rfl, tv⟩, tv⟩
   ·refine Aq (Ak Ax rfl (qm rfl (qf Fv rfl (ql HI rfl (HK rfl (qf OZ rfl (qs In rfl (Ac ?_))))))))
    exact sn [] h
  ·refine wq rfl (qf DN rfl (ql Bg rfl (AN rfl (qe rfl ?_))))
   refine Bp h (fun h => ?_) fun h => ?_
   ·refine wp rfl (qf I3 rfl (ql Bg rfl (qm rfl (HK rfl (qf OS rfl (ql Up rfl (qf H2 rfl (ql Bg rfl ?_))))))))
    refine Rn (kv := (Value.int .i64)) (vt := Ga) (m := p0.fI) (dv := 0) (.p rfl) rfl rfl rfl (MS PW Ww) (by rw [PW]; rfl) Ok rfl rfl rfl ?_
    refine Bc rfl (AH (by kernel_rfl) ?_)
    refine Bp h (fun h => ?_) fun h => ?_
    ·refine wq rfl (qe rfl ?_)
     obtain rfl := sj h
     refine Ag (sm [] [(4, bD false)] [(90000, .box [iC p0.fE, iC p0.fG, .pure (.val (.bool p0.fH)), .mref 90001]), (90001, .mp (D5 (Value.int .i64) Ga p0.fI))] rfl rfl) (As ?_)
     exact ⟨⟨[_], tm, rfl⟩, ⟨rfl, rfl, tv⟩, tv⟩
    ·refine Aq (Ak Ax rfl (qm rfl (HK rfl (qf OS rfl (ql Up rfl (qf H2 rfl (ql Bg rfl (qf I3 rfl (ql Bg rfl ?_)))))))))
     refine RJ (kv := (Value.int .i64)) (vt := Ga) (m := p0.fI) (k := p1.fu) (v := p1.fJ) rfl (.inl rfl) rfl rfl rfl rfl (MS PW Ww) rfl ?_
     refine AH (by kernel_rfl) ?_
     exact sn [] h
   ·refine wq rfl (qf DN rfl (ql Bg rfl (AN rfl (qe rfl ?_))))
    refine Bp h (fun h => ?_) fun h => ?_
    ·refine AP ?_
     refine AK h (fun v8 => mk [(0, oD (.ptr 90000 0)), (3, oD (.ptr 3 0)), (58, bD v8)] [(3, .box (BA p1)), (90000, .box [iC p0.fE, iC p0.fG, .pure (.val (.bool p0.fH)), .mref 90001]), (90001, .mp (D5 (Value.int .i64) Ga p0.fI))]) (fun j8 h => ?_) (fun v8 h => ?_)
     ·refine Ak Ax rfl (qm rfl (HK rfl (qf O1 rfl (ql Ul rfl (qm rfl ?_)))))
      refine CS 50 h rfl (fun h => ?_) fun h => ?_
      ·refine qf Fv rfl (ql HI rfl (qm rfl (HK rfl (qf Oq rfl (ql HI rfl (MQ rfl (qp rfl (AH (by kernel_rfl) ?_))))))))
       exact sn [] h
      ·refine qw 7 rfl (qp rfl (AH (by kernel_rfl) ?_))
       exact sn [] h
     ·refine Bp h (fun h => ?_) fun h => ?_
      ·refine wq rfl (qe rfl ?_)
       obtain rfl := sj h
       refine Ag (sm [] [(4, bD false)] [(90000, .box [iC p0.fE, iC p0.fG, .pure (.val (.bool p0.fH)), .mref 90001]), (90001, .mp (D5 (Value.int .i64) Ga p0.fI))] rfl rfl) (As ?_)
       exact ⟨⟨[_], tm, rfl⟩, ⟨rfl, rfl, tv⟩, tv⟩
      ·refine Aq (Ak Ax rfl (qw 2 rfl (qf Fv rfl (ql HI rfl (HK rfl (qf Oq rfl (qs In rfl (HK rfl (qf O1 rfl (qs Ve rfl (Ac ?_)))))))))))
       exact sn [] h
    ·refine Aq ?_
     exact sn [] h
 ·refine wq rfl (qe rfl ?_)
  obtain rfl := sj h
  refine Ag (sm [] [(4, bD true)] [(90000, .box [iC v1.2.1, iC v1.2.2.1, .pure (.val (.bool v1.2.2.2)), .mref 90001]), (90001, .mp (D5 (Value.int .i64) Ga v1.1))] rfl rfl) (As ?_)
  exact ⟨⟨[_], tm, rfl⟩, ⟨rfl, rfl, tv⟩, tv⟩
theorem Mv (N : Nat) (p0 : List Int) (p1 : Int) (r : Int) (h : Ep N p0 p1 = some r) : Ar zA0 114 [pD (.sl (p0.map Au)), iD p1] [] (iD r) := by
 unfold Ep at h
 refine cw (n := 22) (rs := [.tmp 4]) Tryz.func114 fun w0 S0 => ?_
 refine wq rfl (qa rfl (Ac (wp rfl (qm rfl (AG AC rfl (qm rfl (Ac ?_)))))))
 refine Ba (L := DH N p0) h (fun v1 => mk [(1, iD v1.1), (7, pD (.sl (p0.map Au))), (8, iD ((p0.length : Int))), (9, iD v1.2)] []) (fun v2 => mk [] []) (fun _ _ => rfl) (sm [] _ _ rfl rfl) (fun j1 n1 v1 h => ?_) (fun v2 s h hs => ?_)
 ·unfold DH at h
  refine wq rfl (Bc rfl (Ac (AP ?_)))
  refine Bp h (fun h => ?_) fun h => ?_
  ·refine Aq (AP (AQ (wq rfl (qm rfl ?_))))
   refine BW h fun v4 a4 b4 h => qi AC CU a4 (Ai b4) rfl (qk Bg rfl (qa rfl (qa rfl (Ac (wp rfl (qw 2 rfl (Bc rfl (Ac ?_))))))))
   refine Bp h (fun h => ?_) fun h => ?_
   ·refine wq rfl (qm rfl (qe rfl ?_))
    obtain rfl := sj h
    refine Ag (sm [] [(4, iD v1.2)] [] rfl rfl) (As ?_)
    exact ⟨⟨[_], tm, rfl⟩, tv⟩
   ·refine Aq (Ak Ax rfl (qw 2 rfl (K1 rfl (qa rfl (Ac (Ak Ax rfl (CB rfl (qm rfl (Ac ?_)))))))))
    exact sn [] h
  ·refine B1 ?_
   exact sn [] h
 ·refine Ag hs (wq rfl (qe rfl ?_))
  obtain rfl := sj h
  refine Ag (sm [] [(4, iD ((-1)))] [] rfl rfl) (As ?_)
  exact ⟨⟨[_], tm, rfl⟩, tv⟩
theorem GB (N : Nat) (p0 : Ae) (p1 : Int) (p2 : Int) (r : Bool) (h : Cm N p0 p1 p2 = some r) : Ar zA0 115 [.e (.agg (Bm p0)), iD p1, iD p2] [] (bD r) := by
 unfold Cm at h
 refine cw (n := 23) (rs := [.tmp 6]) Tryz.func115 fun w0 S0 => ?_
 refine wq rfl (qb rfl (qe rfl ?_))
 refine AK h (fun v1 => mk [(6, bD v1)] []) (fun j1 h => ?_) (fun v1 h => ?_)
 ·refine Ak Ax rfl (qf Dc rfl (ql Bi rfl (qm rfl ?_)))
  refine BW h fun v2 a2 b2 h => qi AC CU a2 (Ai b2) rfl (qk Bg rfl (qm rfl (AN rfl (qm rfl ?_))))
  refine CS 14 h rfl (fun h => ?_) fun h => ?_
  ·refine qw 7 rfl (qp rfl (qe rfl ?_))
   exact sn [] h
  ·refine qf BX rfl (ql Bi rfl (qm rfl ?_))
   refine BW h fun v4 a4 b4 h => qi AC CU a4 (Ai b4) rfl (qk Bg rfl (qm rfl (AN rfl (qp rfl (qe rfl ?_)))))
   exact sn [] h
 ·obtain rfl := sj h
  refine Ag (sm [] [(6, bD v1)] [] rfl rfl) (As ?_)
  exact ⟨⟨[_], tm, rfl⟩, tv⟩
theorem La (N : Nat) (p0 : Aa) (p1 : Ae) (p2 : Ab) (r : Bool) (h : DS N p0 p1 p2 = some r) : Ar zA0 116 [.e (.agg (Am p0)), .e (.agg (Bm p1)), .e (.agg (BA p2))] [] (bD r) := by
 unfold DS at h
 refine cw (n := 46) (rs := [.tmp 6]) Tryz.func116 fun w0 S0 => ?_
 refine wq rfl (qb rfl (qb rfl (qb rfl (qa rfl (Ac (wq rfl (qf BO rfl (ql Fb rfl (qf Hn rfl (ql Bg rfl ?_))))))))))
 refine BW h fun v1 a1 b1 h => qi Da B4 a1 (Ai b1) rfl (qK E8 B4 rfl (qz JK rfl (qs B4 rfl (Ac (wp rfl (qL B8 AS rfl (qf G4 rfl (ql Bg rfl (qf H7 rfl (ql Bg rfl ?_))))))))))
 refine Cg h fun v2 a2 h => Ay [] (GB N p1 v1.fC p2.fF v2 a2) Sd rfl (CM rfl (Ac ?_))
 refine Bp h (fun h => ?_) fun h => ?_
 ·refine wq rfl (qe rfl ?_)
  obtain rfl := sj h
  refine Ag (sm [] [(6, bD false)] [] rfl rfl) (As ?_)
  exact ⟨⟨[_], tm, rfl⟩, tv⟩
 ·refine Aq (AP ?_)
  refine AK h (fun v4 => mk [(4, oD (.ptr 4 0)), (5, oD (.ptr 5 0)), (7, oD (.ptr 7 0)), (28, bD v4)] [(4, .box (Bm p1)), (5, .box (BA p2)), (7, .box (CG v1))]) (fun j4 h => ?_) (fun v4 h => ?_)
  ·refine Ak Ax rfl (qf DZ rfl (ql Bg rfl (AN rfl (qm rfl ?_))))
   refine CS 24 h rfl (fun h => ?_) fun h => ?_
   ·refine qw 3 rfl (qp rfl (Ac ?_))
    exact sn [] h
   ·refine qf DZ rfl (ql Bg rfl (AN rfl (qp rfl (Ac ?_))))
    exact sn [] h
  ·refine Bp h (fun h => ?_) fun h => ?_
   ·refine wq rfl (qf CP rfl (ql GX rfl (qf Hn rfl (ql Bg rfl ?_))))
    refine BW h fun v7 a7 b7 h => qi DP DW a7 (Ai b7) rfl (qk Hq rfl (qf Hw rfl (ql Bg rfl ?_)))
    refine HH h fun c8 h => KP rfl c8 (Nb rfl (AN rfl (qa rfl (AH (by kernel_rfl) ?_))))
    obtain rfl := sj h
    refine Ag (sm [] [(6, bD (((FB .u8 ((FM .u8 v7 p2.fB)) 1) == 1)))] [] rfl rfl) (As ?_)
    exact ⟨⟨[_], tm, rfl⟩, tv⟩
   ·refine Aq (wq rfl (qL B8 AS rfl (qf Cp rfl (ql Bg rfl (qf Hw rfl (ql Bg rfl ?_))))))
    refine Cg h fun v9 a9 h => Ay [] (GB N p1 v1.fj p2.fB v9 a9) Sd rfl (qe rfl ?_)
    obtain rfl := sj h
    refine Ag (sm [] [(6, bD v9)] [] rfl rfl) (As ?_)
    exact ⟨⟨[_], tm, rfl⟩, tv⟩
theorem NI (N : Nat) (p0 : Aa) (p1 : Ae) (p2 : Al) (r : Ae × Int) (h : Fs N p0 p1 p2 = some r) : Ar zA0 155 [.e (.agg (Am p0)), .e (.agg (Bm p1)), .e (.agg (Cb p2))] [(1, r.1.fh.map Au), (1, r.1.fe.map Au), (1, r.1.ff.map DL)] (.tup [.agg [.own 0, .own 1, .own 2], .one (iC r.2)]) := by
 unfold Fs at h
 refine cw (n := 22) (rs := [.cell 6 40, .tmp 7]) Tryz.func155 fun w0 S0 => ?_
 refine wq rfl (qb rfl (qb rfl (qb rfl (qz Do rfl (qa rfl (Ac (wp rfl (qL D2 D0 rfl (qL B8 AS rfl ?_)))))))))
 refine Cg h fun v1 a1 h => Ay [] (KQ N p0 p1 v1 a1) Uh rfl (qa rfl (Ac (wq rfl (qm rfl (BJ rfl (Ac ?_))))))
 refine Bp h (fun h => ?_) fun h => ?_
 ·refine wq rfl (BD Do GP rfl (qm rfl (qs AS rfl (qe rfl ?_))))
  obtain rfl := sj h
  refine Ag ((Av 6 0 2001 1 _ rfl rfl rfl rfl).trans ((Av 6 1 2002 1 _ rfl rfl rfl rfl).trans ((Av 6 2 2003 1 _ rfl rfl rfl rfl).trans (sm [(1000, 2001), (1001, 2002), (1002, 2003)] [(6, oD (.ptr 6 0)), (7, iD v1)] [(6, .box [.own 1000, .own 1001, .own 1002]), (1000, .vec 1 ((([] : List Int)).map Au)), (1001, .vec 1 ((([] : List Int)).map Au)), (1002, .vec 1 ((([] : List Int)).map DL))] rfl rfl)))) (As ?_)
  exact ⟨⟨[_, _], ⟨.cellN _ _ _ _ _ _ _ rfl rfl B8 AS rfl rfl (Io rfl), tm⟩, rfl⟩, ⟨rfl, rfl, rfl, tv⟩⟩
 ·refine Aq (wq rfl (qL D2 D0 rfl (qL B8 AS rfl (qL Ju GN rfl ?_))))
  refine Cg h fun v3 a3 h => Ay [2004, 2005, 2006] (Ka N p0 p1 p2 v3 a3) TX rfl (qx rfl (qx rfl (qs AS rfl (qe rfl ?_))))
  obtain rfl := sj h
  refine Ag (sm [(1000, 2004), (1001, 2005), (1002, 2006)] [(6, oD (.ptr 6 0)), (7, iD v3.2)] [(6, .box [.own 1000, .own 1001, .own 1002]), (1000, .vec 1 (v3.1.fh.map Au)), (1001, .vec 1 (v3.1.fe.map Au)), (1002, .vec 1 (v3.1.ff.map DL))] rfl rfl) (As ?_)
  exact ⟨⟨[_, _], ⟨.cellN _ _ _ _ _ _ _ rfl rfl B8 AS rfl rfl (Io rfl), tm⟩, rfl⟩, ⟨rfl, rfl, rfl, tv⟩⟩
theorem ET (N : Nat) (p0 : Ah) (p1 : Al) (r : Ah) (h : B0 N p0 p1 = some r) : DG zA0 117 [oD (.ptr 90000 0), .e (.agg (Cb p1))] [(.box (Aw p0), .box (Aw r))] [] (.tup []) := by
 unfold B0 at h
 refine DA (n := 25) (rs := []) Tryz.func117 rfl rfl rfl (GO rfl) (GO rfl) rfl rfl (GO rfl) rfl (GO rfl) fun w0 S0 GL => T6 ?_
 refine Ag (sm [] [(0, oD (.ptr 90000 0)), (1, .e (.agg (Cb p1)))] [(90000, .box (Aw p0))] rfl rfl) (wq rfl (qb rfl (Ac (wq rfl (qm rfl (HK rfl (qf NK rfl (qL D2 D0 rfl (qm rfl (HK rfl (qf JZ rfl (qL B8 AS rfl (qL Ju GN rfl ?_)))))))))))))
 refine Cg h fun v1 a1 h => Ay [2001, 2002, 2003] (NI N ((Aa.mk p0.fb.fc p0.fb.fk p0.fb.fp p0.fb.fd)) ((Ae.mk p0.fg.fh p0.fg.fe p0.fg.ff)) p1 v1 a1) VG rfl (qm rfl (qx rfl (qx rfl (qz Do rfl (qs AS rfl (qa rfl (AH (by kernel_rfl) (wq rfl (qm rfl (AN rfl (Ac ?_)))))))))))
 refine Bp h (fun h => ?_) fun h => ?_
 ·refine Ak Ax rfl (qm rfl (qL B8 AS rfl (HK rfl (qf JZ rfl (qs AS rfl (Ac ?_))))))
  obtain rfl := sj h
  refine ⟨_, ((Cd 2001 _ _ rfl rfl).trans ((Cd 2002 _ _ rfl rfl).trans ((Cd 2003 _ _ rfl rfl).trans (sm [] [] [(90000, .box [sC (p0.fb.fc.map Au), sC (p0.fb.fk.map Au), sC (p0.fb.fp.map Au), sC (p0.fb.fd.map BF), sC (p0.fq.map AM), iC p0.fi, iC p0.fy, sC (v1.1.fh.map Au), sC (v1.1.fe.map Au), sC (v1.1.ff.map DL)])] rfl rfl)))), ?_⟩
  exact ⟨⟨[], tv, rfl⟩, ⟨rfl, tv⟩, tv⟩
 ·refine Aq ?_
  obtain rfl := sj h
  refine ⟨_, (sm [] [] [(90000, .box (Aw p0))] rfl rfl), ?_⟩
  exact ⟨⟨[], tv, rfl⟩, ⟨rfl, tv⟩, tv⟩
theorem FH (N : Nat) (p0 : Ah) (p1 : Ab) (r : Ah) (h : BN N p0 p1 = some r) : DG zA0 82 [oD (.ptr 90000 0), .e (.agg (BA p1))] [(.box (Aw p0), .box (Aw r))] [] (.tup []) := by
 unfold BN at h
 refine DA (n := 62) (rs := []) Tryz.func82 rfl rfl rfl (GO rfl) (GO rfl) rfl rfl (GO rfl) rfl (GO rfl) fun w0 S0 GL => T6 ?_
 refine Ag (sm [] [(0, oD (.ptr 90000 0)), (1, .e (.agg (BA p1)))] [(90000, .box (Aw p0))] rfl rfl) (wq rfl (qb rfl (Ac (wq rfl (qm rfl (HK rfl (qf Ni rfl (ql Pj rfl (qm rfl (HK rfl (qf IW rfl (ql Bg rfl ?_))))))))))))
 refine BW h fun v1 a1 b1 h => qi Hi GN a1 (Ai b1) rfl (qK Ju GN rfl (qz QL rfl (qs GN rfl (AH (by kernel_rfl) (wq rfl (qf DN rfl (ql Bg rfl (Ac (AQ (wq rfl (AN rfl (qe rfl ?_))))))))))))
 refine Bp h (fun h => ?_) fun h => ?_
 ·refine wq rfl (qm rfl (HK rfl (qf Ht rfl (qs CU rfl (Ac (wq rfl (qf DF rfl (ql Bg rfl (AN rfl (Ac ?_))))))))))
  refine Bp h (fun h => ?_) fun h => ?_
  ·refine Ak Ax rfl (qm rfl (qL Ju GN rfl ?_))
   refine Cg h fun v4 a4 h => Fy (ds0 := [_, _]) [90000] [] [true] (ET N ((Ah.mk ((Aa.mk p0.fb.fc p0.fb.fk p0.fb.fp p0.fb.fd)) p0.fq p0.fi 1 ((Ae.mk p0.fg.fh p0.fg.fe p0.fg.ff)))) v1 v4 a4) (.p rfl) Rx rfl ⟨rfl, rfl, tv⟩ rfl rfl (by decide) ⟨rfl, tv⟩ rfl (C3 rfl) tv ⟨(fun h => by cases h), tv⟩ rfl rfl rfl ?_
   refine Ac ?_
   obtain rfl := sj h
   refine ⟨_, (sm [] [] [(90000, .box (Aw v4))] rfl rfl), ?_⟩
   exact ⟨⟨[], tv, rfl⟩, ⟨rfl, tv⟩, tv⟩
  ·refine Aq ?_
   obtain rfl := sj h
   refine ⟨_, (sm [] [] [(90000, .box [sC (p0.fb.fc.map Au), sC (p0.fb.fk.map Au), sC (p0.fb.fp.map Au), sC (p0.fb.fd.map BF), sC (p0.fq.map AM), iC p0.fi, iC 1, sC (p0.fg.fh.map Au), sC (p0.fg.fe.map Au), sC (p0.fg.ff.map DL)])] rfl rfl), ?_⟩
   exact ⟨⟨[], tv, rfl⟩, ⟨rfl, tv⟩, tv⟩
 ·refine wq rfl (AN rfl (qe rfl ?_))
  refine Bp h (fun h => ?_) fun h => ?_
  ·refine AK h (fun v6 => mk [(0, oD (.ptr 90000 0))] [(90000, .box (Aw v6))]) (fun j6 h => ?_) (fun v6 h => ?_)
   ·refine wq rfl (qf DF rfl (ql Bg rfl (BJ rfl (Ac ?_))))
    refine Bp h (fun h => ?_) fun h => ?_
    ·refine Ak Ax rfl (qm rfl (qL Ju GN rfl ?_))
     refine Cg h fun v8 a8 h => Fy (ds0 := [_, _]) [90000] [] [true] (ET N ((Ah.mk ((Aa.mk p0.fb.fc p0.fb.fk p0.fb.fp p0.fb.fd)) p0.fq p0.fi p0.fy ((Ae.mk p0.fg.fh p0.fg.fe p0.fg.ff)))) v1 v8 a8) (.p rfl) Rx rfl ⟨rfl, rfl, tv⟩ rfl rfl (by decide) ⟨rfl, tv⟩ rfl (C3 rfl) tv ⟨(fun h => by cases h), tv⟩ rfl rfl rfl ?_
     refine Ac ?_
     exact sn [] h
    ·refine Aq ?_
     exact sn [] h
   ·refine Ak Ax rfl (qw 3 rfl (HK rfl (qf IW rfl (ql Bg rfl (CB rfl (HK rfl (qf IW rfl (qs CU rfl (HK rfl (qf Ht rfl (qs CU rfl (Ac ?_))))))))))))
    obtain rfl := sj h
    refine ⟨_, (sm [] [] [(90000, .box [sC (v6.fb.fc.map Au), sC (v6.fb.fk.map Au), sC (v6.fb.fp.map Au), sC (v6.fb.fd.map BF), sC (v6.fq.map AM), iC ((wI .i64 (v6.fi + 1))), iC 0, sC (v6.fg.fh.map Au), sC (v6.fg.fe.map Au), sC (v6.fg.ff.map DL)])] rfl rfl), ?_⟩
    exact ⟨⟨[], tv, rfl⟩, ⟨rfl, tv⟩, tv⟩
  ·refine wq rfl (AN rfl (qe rfl ?_))
   refine Bp h (fun h => ?_) fun h => ?_
   ·refine Ak Ax rfl (qm rfl (HK rfl (qf Ht rfl (qs CU rfl (Ac ?_)))))
    obtain rfl := sj h
    refine ⟨_, (sm [] [] [(90000, .box [sC (p0.fb.fc.map Au), sC (p0.fb.fk.map Au), sC (p0.fb.fp.map Au), sC (p0.fb.fd.map BF), sC (p0.fq.map AM), iC p0.fi, iC 2, sC (p0.fg.fh.map Au), sC (p0.fg.fe.map Au), sC (p0.fg.ff.map DL)])] rfl rfl), ?_⟩
    exact ⟨⟨[], tv, rfl⟩, ⟨rfl, tv⟩, tv⟩
   ·refine wq rfl (AN rfl (qe rfl ?_))
    refine Bp h (fun h => ?_) fun h => ?_
    ·refine wq rfl (qm rfl (HK rfl (qf Ht rfl (qs CU rfl (Ac (Ak Ax rfl (qm rfl (qf DM rfl (ql Bg rfl (BD QL U5 rfl ?_))))))))))
     refine Cg h fun v11 a11 h => Fy (ds0 := [_, _]) [90000] [] [true] (ET N ((Ah.mk ((Aa.mk p0.fb.fc p0.fb.fk p0.fb.fp p0.fb.fd)) p0.fq p0.fi 0 ((Ae.mk p0.fg.fh p0.fg.fe p0.fg.ff)))) ((Al.mk 4 v1.fm 0)) v11 a11) (.p rfl) Rx rfl ⟨rfl, rfl, tv⟩ rfl rfl (by decide) ⟨rfl, tv⟩ rfl (C3 rfl) tv ⟨(fun h => by cases h), tv⟩ rfl rfl rfl ?_
     refine Ac ?_
     obtain rfl := sj h
     refine ⟨_, (sm [] [] [(90000, .box (Aw v11))] rfl rfl), ?_⟩
     exact ⟨⟨[], tv, rfl⟩, ⟨rfl, tv⟩, tv⟩
    ·refine Aq ?_
     obtain rfl := sj h
     refine ⟨_, (sm [] [] [(90000, .box (Aw p0))] rfl rfl), ?_⟩
     exact ⟨⟨[], tv, rfl⟩, ⟨rfl, tv⟩, tv⟩
theorem JU (N : Nat) (p0 : Ah) (p1 : A9) (p2 : List Int) (p3 : Ab) (r : Int × Ah × A9 × (List (Int × Int))) (h : Di N p0 p1 p2 p3 = some r) : DG zA0 73 [oD (.ptr 90000 0), oD (.ptr 90001 0), pD (.sl (p2.map Au)), .e (.agg (BA p3))] [(.box (Aw p0), .box (Aw r.2.1)), (.box [iC p1.fE, iC p1.fG, .pure (.val (.bool p1.fH)), .mref 90002], .box [iC r.2.2.1.fE, iC r.2.2.1.fG, .pure (.val (.bool r.2.2.1.fH)), .mref 90002]), (.mp (D5 (Value.int .i64) Ga p1.fI), .mp (D5 (Value.int .i64) Ga r.2.2.2))] [] (iD r.1) := by
 unfold Di at h
 refine DA (n := 79) (rs := [.tmp 8]) Tryz.func73 rfl rfl rfl (GO rfl) (GO rfl) rfl rfl (GO rfl) rfl (GO rfl) fun w0 S0 GL => ?_
 refine Ag (sm [] [(0, oD (.ptr 90000 0)), (1, oD (.ptr 90001 0)), (2, pD (.sl (p2.map Au))), (3, .e (.agg (BA p3)))] [(90000, .box (Aw p0)), (90001, .box [iC p1.fE, iC p1.fG, .pure (.val (.bool p1.fH)), .mref 90002]), (90002, .mp (D5 (Value.int .i64) Ga p1.fI))] rfl rfl) (wq rfl (qb rfl (qe rfl ?_)))
 refine AK h (fun v1 => mk [] [(90000, .box (Aw v1.2.1)), (90001, .box [iC v1.2.2.1, iC v1.2.2.2.1, .pure (.val (.bool v1.2.2.2.2)), .mref 90002]), (90002, .mp (D5 (Value.int .i64) Ga v1.1))]) (fun j1 h => ?_) (fun v1 h => ?_)
 ·refine AQ ?_
  refine AK h (fun v2 => mk [(0, oD (.ptr 90000 0)), (1, oD (.ptr 90001 0)), (2, pD (.sl (p2.map Au))), (7, oD (.ptr 7 0)), (10, bD v2)] [(7, .box (BA p3)), (90000, .box (Aw p0)), (90001, .box [iC p1.fE, iC p1.fG, .pure (.val (.bool p1.fH)), .mref 90002]), (90002, .mp (D5 (Value.int .i64) Ga p1.fI))]) (fun j2 h => ?_) (fun v2 h => ?_)
  ·refine Ak Ax rfl (qf DN rfl (ql Bg rfl (AN rfl (qm rfl ?_))))
   refine CS 14 h rfl (fun h => ?_) fun h => ?_
   ·refine qm rfl (HK rfl (qf NK rfl (qL D2 D0 rfl (qL F1 C2 rfl ?_))))
    refine Cg h fun v4 a4 h => Ay [] (Nm N ((Aa.mk p0.fb.fc p0.fb.fk p0.fb.fp p0.fb.fd)) p3 v4 a4) W0 rfl (CM rfl (qp rfl (qa rfl (AH (by kernel_rfl) ?_))))
    exact sn [] h
   ·refine qw 7 rfl (qp rfl (qa rfl (AH (by kernel_rfl) ?_)))
    exact sn [] h
  ·refine Bp h (fun h => ?_) fun h => ?_
   ·refine wq rfl (qe rfl ?_)
    obtain rfl := sj h
    refine Ag (sm [] [(8, iD 1)] [(90000, .box (Aw p0)), (90001, .box [iC p1.fE, iC p1.fG, .pure (.val (.bool p1.fH)), .mref 90002]), (90002, .mp (D5 (Value.int .i64) Ga p1.fI))] rfl rfl) (As ?_)
    exact ⟨⟨[_], tm, rfl⟩, ⟨rfl, rfl, rfl, tv⟩, tv⟩
   ·refine AK h (fun v6 => mk [(0, oD (.ptr 90000 0)), (1, oD (.ptr 90001 0)), (2, pD (.sl (p2.map Au))), (7, oD (.ptr 7 0)), (23, bD v6)] [(7, .box (BA p3)), (90000, .box (Aw p0)), (90001, .box [iC p1.fE, iC p1.fG, .pure (.val (.bool p1.fH)), .mref 90002]), (90002, .mp (D5 (Value.int .i64) Ga p1.fI))]) (fun j6 h => ?_) (fun v6 h => ?_)
    ·refine Ak Ax rfl (qL F1 C2 rfl ?_)
     refine Cg h fun v7 a7 h => Ay [] (FY N p3 v7 a7) TD rfl (qm rfl ?_)
     refine CS 26 h rfl (fun h => ?_) fun h => ?_
     ·refine qm rfl (qL F1 C2 rfl ?_)
      refine Cg h fun v9 a9 h => Fy (ds0 := [_, _]) [90000] [] [false] (zFS N ((Ah.mk ((Aa.mk p0.fb.fc p0.fb.fk p0.fb.fp p0.fb.fd)) p0.fq p0.fi p0.fy ((Ae.mk p0.fg.fh p0.fg.fe p0.fg.ff)))) p3 v9 a9) (.g rfl rfl) Vv rfl ⟨rfl, rfl, tv⟩ rfl rfl (by decide) ⟨rfl, tv⟩ rfl (C3 rfl) tv ⟨(fun _ => rfl), tv⟩ rfl rfl rfl ?_
      refine CM rfl (qp rfl (qe rfl ?_))
      exact sn [] h
     ·refine qw 4 rfl (qp rfl (qe rfl ?_))
      exact sn [] h
    ·refine Bp h (fun h => ?_) fun h => ?_
     ·refine wq rfl (qe rfl ?_)
      obtain rfl := sj h
      refine Ag (sm [] [(8, iD 2)] [(90000, .box (Aw p0)), (90001, .box [iC p1.fE, iC p1.fG, .pure (.val (.bool p1.fH)), .mref 90002]), (90002, .mp (D5 (Value.int .i64) Ga p1.fI))] rfl rfl) (As ?_)
      exact ⟨⟨[_], tm, rfl⟩, ⟨rfl, rfl, rfl, tv⟩, tv⟩
     ·refine wq rfl (qm rfl (qL F1 C2 rfl ?_))
      refine Cg h fun v11 a11 h => Fy (ds0 := [_, _]) [90001, 90002] [] [true, true] (IP N p1 p3 v11 a11) (.p rfl) WR rfl ⟨rfl, rfl, tv⟩ rfl rfl (Ee rfl) ⟨rfl, rfl, tv⟩ rfl (C3 rfl) tv ⟨(fun h => by cases h), (fun h => by cases h), tv⟩ rfl rfl rfl ?_
      refine CM rfl (qe rfl ?_)
      refine Bp h (fun h => ?_) fun h => ?_
      ·refine wq rfl (qe rfl ?_)
       obtain rfl := sj h
       refine Ag (sm [] [(8, iD 3)] [(90000, .box (Aw p0)), (90001, .box [iC v11.2.1.fE, iC v11.2.1.fG, .pure (.val (.bool v11.2.1.fH)), .mref 90002]), (90002, .mp (D5 (Value.int .i64) Ga v11.2.2))] rfl rfl) (As ?_)
       exact ⟨⟨[_], tm, rfl⟩, ⟨rfl, rfl, rfl, tv⟩, tv⟩
      ·refine wq rfl (qf DN rfl (ql Bg rfl (AN rfl (qe rfl ?_))))
       refine Bp h (fun h => ?_) fun h => ?_
       ·refine wq rfl (qm rfl (qf H2 rfl (ql Bg rfl ?_)))
        refine Cg h fun v14 a14 h => Ay [] (Mv N p2 p3.fu v14 a14) VS rfl (qe rfl ?_)
        refine AK h (fun v15 => mk [(57, bD v15)] [(90000, .box (Aw p0)), (90001, .box [iC v11.2.1.fE, iC v11.2.1.fG, .pure (.val (.bool v11.2.1.fH)), .mref 90002]), (90002, .mp (D5 (Value.int .i64) Ga v11.2.2))]) (fun j15 h => ?_) (fun v15 h => ?_)
        ·refine Ak Ax rfl (qm rfl (Bc rfl (qm rfl ?_)))
         refine CS 47 h rfl (fun h => ?_) fun h => ?_
         ·refine qw 9 rfl (qp rfl (AH (by kernel_rfl) ?_))
          exact sn [] h
         ·refine qm rfl (HK rfl (qf JZ rfl (qL B8 AS rfl (qm rfl (qf J7 rfl (ql Bg rfl ?_))))))
          refine Cg h fun v17 a17 h => Ay [] (GB N ((Ae.mk p0.fg.fh p0.fg.fe p0.fg.ff)) v14 p3.fr v17 a17) Sd rfl (CM rfl (qp rfl (AH (by kernel_rfl) ?_)))
          exact sn [] h
        ·refine Bp h (fun h => ?_) fun h => ?_
         ·refine wq rfl (qe rfl ?_)
          obtain rfl := sj h
          refine Ag (sm [] [(8, iD 4)] [(90000, .box (Aw p0)), (90001, .box [iC v11.2.1.fE, iC v11.2.1.fG, .pure (.val (.bool v11.2.1.fH)), .mref 90002]), (90002, .mp (D5 (Value.int .i64) Ga v11.2.2))] rfl rfl) (As ?_)
          exact ⟨⟨[_], tm, rfl⟩, ⟨rfl, rfl, rfl, tv⟩, tv⟩
         ·refine Aq ?_
          exact sn [] h
       ·refine wq rfl (qf DN rfl (ql Bg rfl (AN rfl (qe rfl ?_))))
        refine Bp h (fun h => ?_) fun h => ?_
        ·refine wq rfl (qm rfl (HK rfl (qf NK rfl (qL D2 D0 rfl (qm rfl (HK rfl (qf JZ rfl (qL B8 AS rfl (qL F1 C2 rfl ?_)))))))))
         refine Cg h fun v20 a20 h => Ay [] (La N ((Aa.mk p0.fb.fc p0.fb.fk p0.fb.fp p0.fb.fd)) ((Ae.mk p0.fg.fh p0.fg.fe p0.fg.ff)) p3 v20 a20) WH rfl (CM rfl (AH (by kernel_rfl) ?_))
         refine Bp h (fun h => ?_) fun h => ?_
         ·refine wq rfl (qe rfl ?_)
          obtain rfl := sj h
          refine Ag (sm [] [(8, iD 5)] [(90000, .box (Aw p0)), (90001, .box [iC v11.2.1.fE, iC v11.2.1.fG, .pure (.val (.bool v11.2.1.fH)), .mref 90002]), (90002, .mp (D5 (Value.int .i64) Ga v11.2.2))] rfl rfl) (As ?_)
          exact ⟨⟨[_], tm, rfl⟩, ⟨rfl, rfl, rfl, tv⟩, tv⟩
         ·refine Aq ?_
          exact sn [] h
        ·refine wq rfl (qL F1 C2 rfl ?_)
         refine Cg h fun v22 a22 h => Ay [] (FY N p3 v22 a22) TD rfl (qe rfl ?_)
         refine Bp h (fun h => ?_) fun h => ?_
         ·refine Ak Ax rfl (qm rfl (qL F1 C2 rfl ?_))
          refine Cg h fun v24 a24 h => Fy (ds0 := [_, _]) [90000] [] [true] (FH N ((Ah.mk ((Aa.mk p0.fb.fc p0.fb.fk p0.fb.fp p0.fb.fd)) p0.fq p0.fi p0.fy ((Ae.mk p0.fg.fh p0.fg.fe p0.fg.ff)))) p3 v24 a24) (.p rfl) Wq rfl ⟨rfl, rfl, tv⟩ rfl rfl (by decide) ⟨rfl, tv⟩ rfl (C3 rfl) tv ⟨(fun h => by cases h), tv⟩ rfl rfl rfl ?_
          refine Ac ?_
          exact sn [] h
         ·refine Aq ?_
          exact sn [] h
 ·refine wq rfl (qe rfl ?_)
  obtain rfl := sj h
  refine Ag (sm [] [(8, iD 0)] [(90000, .box (Aw v1.2.1)), (90001, .box [iC v1.2.2.1, iC v1.2.2.2.1, .pure (.val (.bool v1.2.2.2.2)), .mref 90002]), (90002, .mp (D5 (Value.int .i64) Ga v1.1))] rfl rfl) (As ?_)
  exact ⟨⟨[_], tm, rfl⟩, ⟨rfl, rfl, rfl, tv⟩, tv⟩
theorem Mq (N : Nat) (p0 : Aa) (p1 : List Int) (p2 : List Al) (p3 : List Ab) (r : Int × Int × (Option Ah) × Int) (h : E4 N p0 p1 p2 p3 = some r) : Ar zA0 35 [.e (.agg (Am p0)), pD (.sl (p1.map Au)), pD (.sl (p2.map AM)), pD (.sl (p3.map AE))] [] (.tup [.one (iC r.1), .one (iC r.2.1), .one (.pure (.rp (zH7 E7 r.2.2.1))), .one (iC r.2.2.2)]) := by
 unfold E4 at h
 refine cw (n := 69) (rs := [.tmp 8, .tmp 9, .tmp 10, .tmp 11]) Tryz.func35 fun w0 S0 => ?_
 refine wq rfl (qb rfl (qa rfl (qa rfl (qa rfl (qa rfl (Ac (wp rfl (qL D2 D0 rfl ?_))))))))
 refine Cg h fun v1 a1 h => Ay [] (D9 N p0 v1 a1) TQ rfl (qa rfl (Ac (wq rfl (qm rfl (BJ rfl (Ac ?_))))))
 refine Bp h (fun h => ?_) fun h => ?_
 ·refine wq rfl (qm rfl (qa rfl (qa rfl (qa rfl (qe rfl ?_)))))
  obtain rfl := sj h
  refine Ag (sm [] [(8, iD 0), (9, iD 0), (10, pD (.rp none)), (11, iD v1)] [] rfl rfl) (As ?_)
  exact ⟨⟨[_, _, _, _], ⟨.tmp _ _ rfl, ⟨.tmp _ _ rfl, ⟨.tmp _ _ rfl, tm⟩⟩⟩, rfl⟩, tv⟩
 ·refine Aq (wp rfl (qL D2 D0 rfl (qm rfl ?_)))
  refine Cg h fun v3 a3 h => Ay [] (K8 N p0 p1 v3 a3) Xs rfl (qa rfl (Ac (wq rfl (qm rfl (BJ rfl (Ac ?_))))))
  refine Bp h (fun h => ?_) fun h => ?_
  ·refine wq rfl (qm rfl (qa rfl (qa rfl (qa rfl (qe rfl ?_)))))
   obtain rfl := sj h
   refine Ag (sm [] [(8, iD 0), (9, iD 0), (10, pD (.rp none)), (11, iD v3)] [] rfl rfl) (As ?_)
   exact ⟨⟨[_, _, _, _], ⟨.tmp _ _ rfl, ⟨.tmp _ _ rfl, ⟨.tmp _ _ rfl, tm⟩⟩⟩, rfl⟩, tv⟩
  ·refine Aq (wq rfl (qL D2 D0 rfl (qm rfl ?_)))
   refine Cg h fun v5 a5 h => Ay [] (Hu N p0 p2 v5 a5) Vo rfl (qm rfl (qx rfl (qx rfl (qz Do rfl (qs AS rfl (qe rfl ?_))))))
   refine AK h (fun v6 => mk [(1, pD (.sl (p1.map Au))), (2, pD (.sl (p2.map AM))), (3, pD (.sl (p3.map AE))), (4, oD (.ptr 4 0)), (14, oD (.ptr 14 0)), (15, iD v6)] [(4, .box (Am p0)), (14, .box (Bm v5.1))]) (fun j6 h => ?_) (fun v6 h => ?_)
   ·refine wq rfl (qm rfl (AN rfl (Ac ?_)))
    refine Bp h (fun h => ?_) fun h => ?_
    ·refine Ak Ax rfl (qm rfl ?_)
     refine Cg h fun v8 a8 h => Ay [] (Gn N p3 v8 a8) Va rfl (qe rfl ?_)
     exact sn [] h
    ·refine Aq ?_
     exact sn [] h
   ·refine wp rfl (qm rfl (BJ rfl (Ac ?_)))
    refine Bp h (fun h => ?_) fun h => ?_
    ·refine wq rfl (qm rfl (qa rfl (qa rfl (qa rfl (qe rfl ?_)))))
     obtain rfl := sj h
     refine Ag (sm [] [(8, iD 0), (9, iD 0), (10, pD (.rp none)), (11, iD v6)] [] rfl rfl) (As ?_)
     exact ⟨⟨[_, _, _, _], ⟨.tmp _ _ rfl, ⟨.tmp _ _ rfl, ⟨.tmp _ _ rfl, tm⟩⟩⟩, rfl⟩, tv⟩
    ·refine Aq (wq rfl (qL D2 D0 rfl (qm rfl (qL B8 AS rfl (BD Vt WK rfl (qb rfl (qa rfl (Ac (wq rfl ?_)))))))))
     refine Cg h fun v10 a10 h => Fy (ds0 := []) [] [2001, 2002] [] (JV N v10 a10) (.p rfl) Xu rfl tv rfl rfl (by decide) tv rfl (C3 rfl) ⟨rfl, rfl, tv⟩ tv rfl rfl rfl ?_
     refine FI (sm [] [(1, pD (.sl (p1.map Au))), (2, pD (.sl (p2.map AM))), (3, pD (.sl (p3.map AE))), (4, oD (.ptr 4 0)), (14, oD (.ptr 14 0)), (15, iD v6), (16, oD (.ptr 49 0)), (42, iD v6), (43, bD ((v6 != 0))), (45, .e (.agg (Am p0))), (46, pD (.sl (p2.map AM))), (47, .e (.agg (Bm v5.1))), (48, .e (.agg [sC (p0.fc.map Au), sC (p0.fk.map Au), sC (p0.fp.map Au), sC (p0.fd.map BF), sC (p2.map AM), iC 0, iC 0, sC (v5.1.fh.map Au), sC (v5.1.fe.map Au), sC (v5.1.ff.map DL)])), (49, oD (.ptr 49 0)), (50, oD (.ptr 2001 0))] [(4, .box (Am p0)), (14, .box (Bm v5.1)), (49, .box [sC (p0.fc.map Au), sC (p0.fk.map Au), sC (p0.fp.map Au), sC (p0.fd.map BF), sC (p2.map AM), iC 0, iC 0, sC (v5.1.fh.map Au), sC (v5.1.fe.map Au), sC (v5.1.ff.map DL)]), (2001, .box [iC v10.fE, iC v10.fG, .pure (.val (.bool v10.fH)), .mref 2002]), (2002, .mp (D5 (Value.int .i64) Ga v10.fI))] rfl rfl) (qa rfl (Ac (wp rfl (qm rfl (AG Dz rfl (qm rfl (Ac ?_)))))))
     refine Ba (L := Dl N p1 p3) h (fun v11 => mk [(1, pD (.sl (p1.map Au))), (16, oD (.ptr 49 0)), (17, oD (.ptr 2001 0)), (51, pD (.sl (p3.map AE))), (52, iD ((p3.length : Int))), (53, iD v11.2.2.2.2.2)] [(49, .box (Aw v11.1)), (2001, .box [iC v11.2.1, iC v11.2.2.1, .pure (.val (.bool v11.2.2.2.1)), .mref 2003]), (2003, .mp (D5 (Value.int .i64) Ga v11.2.2.2.2.1))]) (fun v12 => mk [(16, oD (.ptr 49 0))] [(49, .box (Aw v12))]) (fun _ _ => rfl) (sm [(2003, 2002)] _ _ rfl rfl) (fun j11 n11 v11 h => ?_) (fun v12 s h hs => ?_)
     ·unfold Dl at h
      refine wq rfl (Bc rfl (Ac (AP ?_)))
      refine Bp h (fun h => ?_) fun h => ?_
      ·refine Aq (AP (AQ (wq rfl (qm rfl ?_))))
       refine BW h fun v14 a14 b14 h => qi Dz C2 a14 (Ai b14) rfl (qK F1 C2 rfl (qz HB rfl (qa rfl (qs C2 rfl (Ac (wq rfl (qw 3 rfl (qL F1 C2 rfl ?_))))))))
       refine Cg h fun v15 a15 h => Fy (ds0 := [_, _, _, _]) [49, 2001, 2003] [] [true, true, true] (JU N ((Ah.mk ((Aa.mk v11.1.fb.fc v11.1.fb.fk v11.1.fb.fp v11.1.fb.fd)) v11.1.fq v11.1.fi v11.1.fy ((Ae.mk v11.1.fg.fh v11.1.fg.fe v11.1.fg.ff)))) ((A9.mk v11.2.1 v11.2.2.1 v11.2.2.2.1 v11.2.2.2.2.1)) p1 v14 v15 a15) (.p rfl) WO rfl ⟨rfl, rfl, rfl, rfl, tv⟩ rfl rfl (Ee rfl) ⟨rfl, rfl, rfl, tv⟩ rfl (C3 rfl) tv ⟨(fun h => by cases h), (fun h => by cases h), (fun h => by cases h), tv⟩ rfl rfl rfl ?_
       refine qa rfl (Ac (wq rfl (qm rfl (BJ rfl (Ac ?_)))))
       refine Bp h (fun h => ?_) fun h => ?_
       ·refine wq rfl (qw 2 rfl (qa rfl (qa rfl (qa rfl (qe rfl ?_)))))
        obtain rfl := sj h
        refine Ag (sm [] [(8, iD v11.2.2.2.2.2), (9, iD v15.1), (10, pD (.rp none)), (11, iD 0)] [] rfl rfl) (As ?_)
        exact ⟨⟨[_, _, _, _], ⟨.tmp _ _ rfl, ⟨.tmp _ _ rfl, ⟨.tmp _ _ rfl, tm⟩⟩⟩, rfl⟩, tv⟩
       ·refine Aq (Ak Ax rfl (CB rfl (qm rfl (Ac ?_))))
        exact sn [] h
      ·refine B1 ?_
       exact sn [] h
     ·refine Ag hs (wq rfl (qm rfl (qa rfl (qa rfl (qa rfl (qe rfl ?_))))))
      obtain rfl := sj h
      refine Ag ((IA 49 [.sl (v12.fb.fc.map Au), .sl (v12.fb.fk.map Au), .sl (v12.fb.fp.map Au), .sl (v12.fb.fd.map BF), .sl (v12.fq.map AM), .val (.int .i64 v12.fi), .val (.int .i64 v12.fy), .sl (v12.fg.fh.map Au), .sl (v12.fg.fe.map Au), .sl (v12.fg.ff.map DL)] rfl rfl).trans ((Ns 10 _ rfl).trans (sm [] [(8, iD 0), (9, iD 0), (10, pD (.rp (zH7 E7 ((some ((Ah.mk ((Aa.mk v12.fb.fc v12.fb.fk v12.fb.fp v12.fb.fd)) v12.fq v12.fi v12.fy ((Ae.mk v12.fg.fh v12.fg.fe v12.fg.ff))))))))), (11, iD 15)] [] rfl rfl))) (As ?_)
      exact ⟨⟨[_, _, _, _], ⟨.tmp _ _ rfl, ⟨.tmp _ _ rfl, ⟨.tmp _ _ rfl, tm⟩⟩⟩, rfl⟩, tv⟩
theorem Fo (N : Nat) (p0 : Aa) (p1 : List Int) (p2 : List Al) (p3 : List Ab) (r : Int × Int × Int) (h : Bl N p0 p1 p2 p3 = some r) : Ar zA0 13 [.e (.agg (Am p0)), pD (.sl (p1.map Au)), pD (.sl (p2.map AM)), pD (.sl (p3.map AE))] [] (.tup [.one (iC r.1), .one (iC r.2.1), .one (iC r.2.2)]) := by
 unfold Bl at h
 refine cw (n := 28) (rs := [.tmp 8, .tmp 9, .tmp 10]) Tryz.func13 fun w0 S0 => ?_
 refine wq rfl (qb rfl (qa rfl (qa rfl (qa rfl (Ac (wq rfl (qL D2 D0 rfl (qw 3 rfl ?_))))))))
 refine Cg h fun v1 a1 h => Ay [] (Mq N p0 p1 p2 p3 v1 a1) W6 rfl (qm rfl (qx rfl (qx rfl (qx rfl (qx rfl (qa rfl (qa rfl (qa rfl (qa rfl (Ac (wq rfl (qw 3 rfl (qa rfl (qa rfl (qe rfl ?_)))))))))))))))
 obtain rfl := sj h
 refine Ag (sm [] [(8, iD v1.1), (9, iD v1.2.1), (10, iD v1.2.2.2)] [] rfl rfl) (As ?_)
 exact ⟨⟨[_, _, _], ⟨.tmp _ _ rfl, ⟨.tmp _ _ rfl, tm⟩⟩, rfl⟩, tv⟩
theorem KI (N : Nat) (p0 : Aa) (p1 : List Al) (p2 : List Ab) (r : (Option Ah) × Int × Int) (h : FQ N p0 p1 p2 = some r) : Ar zA0 39 [.e (.agg (Am p0)), pD (.sl (p1.map AM)), pD (.sl (p2.map AE))] [] (.tup [.one (.pure (.rp (zH7 E7 r.1))), .one (iC r.2.1), .one (iC r.2.2)]) := by
 unfold FQ at h
 refine cw (n := 59) (rs := [.tmp 6, .tmp 7, .tmp 8]) Tryz.func39 fun w0 S0 => ?_
 refine wq rfl (qb rfl (qa rfl (qa rfl (qa rfl (Ac (wp rfl (qL D2 D0 rfl ?_)))))))
 refine Cg h fun v1 a1 h => Ay [] (D9 N p0 v1 a1) TQ rfl (qa rfl (Ac (wq rfl (qm rfl (BJ rfl (Ac ?_))))))
 refine Bp h (fun h => ?_) fun h => ?_
 ·refine wq rfl (qm rfl (qa rfl (qa rfl (qe rfl ?_))))
  obtain rfl := sj h
  refine Ag (sm [] [(6, pD (.rp none)), (7, iD 0), (8, iD v1)] [] rfl rfl) (As ?_)
  exact ⟨⟨[_, _, _], ⟨.tmp _ _ rfl, ⟨.tmp _ _ rfl, tm⟩⟩, rfl⟩, tv⟩
 ·refine Aq (wq rfl (qL D2 D0 rfl (qm rfl ?_)))
  refine Cg h fun v3 a3 h => Ay [] (Hu N p0 p1 v3 a3) Vo rfl (qm rfl (qx rfl (qx rfl (qz Do rfl (qs AS rfl (qe rfl ?_))))))
  refine AK h (fun v4 => mk [(1, pD (.sl (p1.map AM))), (2, pD (.sl (p2.map AE))), (3, oD (.ptr 3 0)), (10, oD (.ptr 10 0)), (11, iD v4)] [(3, .box (Am p0)), (10, .box (Bm v3.1))]) (fun j4 h => ?_) (fun v4 h => ?_)
  ·refine wq rfl (qm rfl (AN rfl (Ac ?_)))
   refine Bp h (fun h => ?_) fun h => ?_
   ·refine Ak Ax rfl (qm rfl ?_)
    refine Cg h fun v6 a6 h => Ay [] (Gn N p2 v6 a6) Va rfl (qe rfl ?_)
    exact sn [] h
   ·refine Aq ?_
    exact sn [] h
  ·refine wp rfl (qm rfl (BJ rfl (Ac ?_)))
   refine Bp h (fun h => ?_) fun h => ?_
   ·refine wq rfl (qm rfl (qa rfl (qa rfl (qe rfl ?_))))
    obtain rfl := sj h
    refine Ag (sm [] [(6, pD (.rp none)), (7, iD 0), (8, iD v4)] [] rfl rfl) (As ?_)
    exact ⟨⟨[_, _, _], ⟨.tmp _ _ rfl, ⟨.tmp _ _ rfl, tm⟩⟩, rfl⟩, tv⟩
   ·refine Aq (wq rfl (qL D2 D0 rfl (qm rfl (qL B8 AS rfl (BD Vt WK rfl (qb rfl (qa rfl (Ac (wp rfl (qm rfl (AG Dz rfl (qm rfl (Ac ?_)))))))))))))
    refine Ba (L := Ea N p2) h (fun v8 => mk [(12, oD (.ptr 37 0)), (38, pD (.sl (p2.map AE))), (39, iD ((p2.length : Int))), (40, iD v8.2)] [(37, .box (Aw v8.1))]) (fun v9 => mk [(12, oD (.ptr 37 0))] [(37, .box (Aw v9))]) (fun _ _ => rfl) (sm [] _ _ rfl rfl) (fun j8 n8 v8 h => ?_) (fun v9 s h hs => ?_)
    ·unfold Ea at h
     refine wq rfl (Bc rfl (Ac (AP ?_)))
     refine Bp h (fun h => ?_) fun h => ?_
     ·refine Aq ?_
      refine AK h (fun v11 => mk [(12, oD (.ptr 37 0)), (38, pD (.sl (p2.map AE))), (39, iD ((p2.length : Int))), (40, iD v8.2)] [(37, .box (Aw v11))]) (fun j11 h => ?_) (fun v11 h => ?_)
      ·refine AQ (wq rfl (qm rfl ?_))
       refine BW h fun v12 a12 b12 h => qi Dz C2 a12 (Ai b12) rfl (qK F1 C2 rfl (qz HB rfl (qa rfl (qs C2 rfl (Ac (wp rfl (qL F1 C2 rfl ?_)))))))
       refine Cg h fun v13 a13 h => Ay [] (FY N v12 v13 a13) TD rfl (CM rfl (Ac ?_))
       refine Bp h (fun h => ?_) fun h => ?_
       ·refine B1 ?_
        exact sn [] h
       ·refine Aq (wp rfl (qm rfl (qL F1 C2 rfl ?_)))
        refine Cg h fun v15 a15 h => Fy (ds0 := [_, _]) [37] [] [false] (zFS N ((Ah.mk ((Aa.mk v8.1.fb.fc v8.1.fb.fk v8.1.fb.fp v8.1.fb.fd)) v8.1.fq v8.1.fi v8.1.fy ((Ae.mk v8.1.fg.fh v8.1.fg.fe v8.1.fg.ff)))) v12 v15 a15) (.p rfl) Vv rfl ⟨rfl, rfl, tv⟩ rfl rfl (by decide) ⟨rfl, tv⟩ rfl (C3 rfl) tv ⟨(fun _ => rfl), tv⟩ rfl rfl rfl ?_
        refine CM rfl (Ac ?_)
        refine Bp h (fun h => ?_) fun h => ?_
        ·refine wq rfl (qw 2 rfl (qa rfl (qa rfl (qe rfl ?_))))
         obtain rfl := sj h
         refine Ag ((IA 37 [.sl (v8.1.fb.fc.map Au), .sl (v8.1.fb.fk.map Au), .sl (v8.1.fb.fp.map Au), .sl (v8.1.fb.fd.map BF), .sl (v8.1.fq.map AM), .val (.int .i64 v8.1.fi), .val (.int .i64 v8.1.fy), .sl (v8.1.fg.fh.map Au), .sl (v8.1.fg.fe.map Au), .sl (v8.1.fg.ff.map DL)] rfl rfl).trans ((Ns 6 _ rfl).trans (sm [] [(6, pD (.rp (zH7 E7 ((some ((Ah.mk ((Aa.mk v8.1.fb.fc v8.1.fb.fk v8.1.fb.fp v8.1.fb.fd)) v8.1.fq v8.1.fi v8.1.fy ((Ae.mk v8.1.fg.fh v8.1.fg.fe v8.1.fg.ff))))))))), (7, iD v8.2), (8, iD 0)] [] rfl rfl))) (As ?_)
         exact ⟨⟨[_, _, _], ⟨.tmp _ _ rfl, ⟨.tmp _ _ rfl, tm⟩⟩, rfl⟩, tv⟩
        ·refine Aq (Ak Ax rfl (qm rfl (qL F1 C2 rfl ?_)))
         refine Cg h fun v17 a17 h => Fy (ds0 := [_, _]) [37] [] [true] (FH N ((Ah.mk ((Aa.mk v8.1.fb.fc v8.1.fb.fk v8.1.fb.fp v8.1.fb.fd)) v8.1.fq v8.1.fi v8.1.fy ((Ae.mk v8.1.fg.fh v8.1.fg.fe v8.1.fg.ff)))) v12 v17 a17) (.p rfl) Wq rfl ⟨rfl, rfl, tv⟩ rfl rfl (by decide) ⟨rfl, tv⟩ rfl (C3 rfl) tv ⟨(fun h => by cases h), tv⟩ rfl rfl rfl ?_
         refine Ac ?_
         exact sn [] h
      ·refine Ak Ax rfl (CB rfl (qm rfl (Ac ?_)))
       exact sn [] h
     ·refine B1 ?_
      exact sn [] h
    ·refine Ag hs (wq rfl (qm rfl (qa rfl (qa rfl (qe rfl ?_)))))
     obtain rfl := sj h
     refine Ag ((IA 37 [.sl (v9.fb.fc.map Au), .sl (v9.fb.fk.map Au), .sl (v9.fb.fp.map Au), .sl (v9.fb.fd.map BF), .sl (v9.fq.map AM), .val (.int .i64 v9.fi), .val (.int .i64 v9.fy), .sl (v9.fg.fh.map Au), .sl (v9.fg.fe.map Au), .sl (v9.fg.ff.map DL)] rfl rfl).trans ((Ns 6 _ rfl).trans (sm [] [(6, pD (.rp (zH7 E7 ((some ((Ah.mk ((Aa.mk v9.fb.fc v9.fb.fk v9.fb.fp v9.fb.fd)) v9.fq v9.fi v9.fy ((Ae.mk v9.fg.fh v9.fg.fe v9.fg.ff))))))))), (7, iD ((-1))), (8, iD 0)] [] rfl rfl))) (As ?_)
     exact ⟨⟨[_, _, _], ⟨.tmp _ _ rfl, ⟨.tmp _ _ rfl, tm⟩⟩, rfl⟩, tv⟩
theorem OQ (N : Nat) (p0 : Aa) (p1 : List Al) (p2 : List Ab) (r : Ae × Int) (h : H3 N p0 p1 p2 = some r) : Ar zA0 16 [.e (.agg (Am p0)), pD (.sl (p1.map AM)), pD (.sl (p2.map AE))] [] (.tup [.agg (Bm r.1), .one (iC r.2)]) := by
 unfold H3 at h
 refine cw (n := 32) (rs := [.cell 6 40, .tmp 7]) Tryz.func16 fun w0 S0 => ?_
 refine wq rfl (qb rfl (qz Do rfl (qa rfl (Ac (wq rfl (qL D2 D0 rfl (qw 2 rfl ?_)))))))
 refine Cg h fun v1 a1 h => Ay [] (KI N p0 p1 p2 v1 a1) Xr rfl (qm rfl (qx rfl (qx rfl (qx rfl (qa rfl (qa rfl (qa rfl (Ac (AP (AQ (wq rfl (qm rfl (BJ rfl (qe rfl ?_))))))))))))))
 refine Bp h (fun h => ?_) fun h => ?_
 ·refine wq rfl (BD Do GP rfl (qm rfl (qs AS rfl (qe rfl ?_))))
  obtain rfl := sj h
  refine Ag ((I2 6 _ rfl).trans (sm [] [(6, oD (.ptr 6 0)), (7, iD v1.2.2)] [(6, .box [sC ((([] : List Int)).map Au), sC ((([] : List Int)).map Au), sC ((([] : List Int)).map DL)])] rfl rfl)) (As ?_)
  exact ⟨⟨[_, _], ⟨.cellN _ _ _ _ _ _ _ rfl rfl B8 AS rfl rfl (Io rfl), tm⟩, rfl⟩, tv⟩
 ·refine wq rfl (qm rfl (DO rfl (qe rfl ?_)))
  refine Bp h (fun h => ?_) fun h => ?_
  ·refine wq rfl (BD Do GP rfl (qs AS rfl (qe rfl ?_)))
   obtain rfl := sj h
   refine Ag ((I2 6 _ rfl).trans (sm [] [(6, oD (.ptr 6 0)), (7, iD 11)] [(6, .box [sC ((([] : List Int)).map Au), sC ((([] : List Int)).map Au), sC ((([] : List Int)).map DL)])] rfl rfl)) (As ?_)
   exact ⟨⟨[_, _], ⟨.cellN _ _ _ _ _ _ _ rfl rfl B8 AS rfl rfl (Io rfl), tm⟩, rfl⟩, tv⟩
  ·refine Aq (wq rfl (qm rfl ?_))
   refine Cg h fun v4 a4 h => FI (RB 28 _ _ rfl (by rw [a4]; rfl)) ?_
   refine OG (.p rfl) rfl ?_
   refine qg JZ rfl (qK B8 AS rfl (qs AS rfl (qe rfl ?_)))
   obtain rfl := sj h
   refine Ag (sm [] [(6, oD (.ptr 6 0)), (7, iD 0)] [(6, .box (Bm v4.fg))] rfl rfl) (As ?_)
   exact ⟨⟨[_, _], ⟨.cellN _ _ _ _ _ _ _ rfl rfl B8 AS rfl rfl (Io rfl), tm⟩, rfl⟩, tv⟩
def Qq : Go.Shelf.Ren := ⟨fun | 129 => 182 | 173 => 125 | 246 => 126 | 283 => 159 | 284 => 160 | 285 => 161 | 286 => 162 | 317 => 181 | 318 => 183 | 319 => 184 | 320 => 185 | 337 => 194 | 338 => 195 | n => n, fun | 0 => 0 | 2 => 2 | 3 => 3 | 4 => 4 | 5 => 5 | 9 => 9 | 20 => 20 | 37 => 47 | 46 => 234 | 51 => 242 | 53 => 214 | 171 => 213 | 173 => 217 | 212 => 241 | 213 => 243 | 232 => 261 | 233 => 262 | n => n, fun | 17 => 0 | 18 => 1 | 19 => 2 | n => n⟩
theorem TB : LaysM.n173 zA0 Qq := { mixed := Ax, f129 := Tryz.func182.trans (congrArg some (by kernel_rfl)), f173 := Tryz.func125.trans (congrArg some (by kernel_rfl)), f246 := Tryz.func126.trans (congrArg some (by kernel_rfl)), f283 := Tryz.func159.trans (congrArg some (by kernel_rfl)), f284 := Tryz.func160.trans (congrArg some (by kernel_rfl)), f285 := Tryz.func161.trans (congrArg some (by kernel_rfl)), f286 := Tryz.func162.trans (congrArg some (by kernel_rfl)), f317 := Tryz.func181.trans (congrArg some (by kernel_rfl)), f318 := Tryz.func183.trans (congrArg some (by kernel_rfl)), f319 := Tryz.func184.trans (congrArg some (by kernel_rfl)), f320 := Tryz.func185.trans (congrArg some (by kernel_rfl)), f337 := Tryz.func194.trans (congrArg some (by kernel_rfl)), f338 := Tryz.func195.trans (congrArg some (by kernel_rfl)), t0 := Tryz.underlying0, a0 := Tryz.isAgg0, z0 := Tryz.sizeOf0, v0 := Tryz.zeroValue0, t2 := Tryz.underlying2, a2 := Tryz.isAgg2, z2 := Tryz.sizeOf2, v2 := Tryz.zeroValue2, t3 := Tryz.underlying3, a3 := Tryz.isAgg3, z3 := Tryz.sizeOf3, v3 := Tryz.zeroValue3, t4 := Tryz.underlying4, a4 := Tryz.isAgg4, z4 := Tryz.sizeOf4, v4 := Tryz.zeroValue4, t5 := Tryz.underlying5, a5 := Tryz.isAgg5, z5 := Tryz.sizeOf5, v5 := Tryz.zeroValue5, t9 := Tryz.underlying9, a9 := Tryz.isAgg9, z9 := Tryz.sizeOf9, v9 := Tryz.zeroValue9, t20 := Tryz.underlying20, a20 := Tryz.isAgg20, z20 := Tryz.sizeOf20, v20 := Tryz.zeroValue20, t37 := Tryz.underlying47, a37 := Tryz.isAgg47, z37 := Tryz.sizeOf47, v37 := Tryz.zeroValue47, t46 := Tryz.underlying234, a46 := Tryz.isAgg234, z46 := Tryz.sizeOf234, v46 := Tryz.zeroValue234, t51 := Tryz.underlying242, a51 := Tryz.isAgg242, z51 := Tryz.sizeOf242, v51 := Tryz.zeroValue242, t53 := Tryz.underlying214, a53 := Tryz.isAgg214, z53 := Tryz.sizeOf214, v53 := Tryz.zeroValue214, t171 := Tryz.underlying213, a171 := Tryz.isAgg213, z171 := Tryz.sizeOf213, v171 := Tryz.zeroValue213, t173 := Tryz.underlying217, a173 := Tryz.isAgg217, z173 := Tryz.sizeOf217, v173 := Tryz.zeroValue217, t212 := Tryz.underlying241, a212 := Tryz.isAgg241, z212 := Tryz.sizeOf241, v212 := Tryz.zeroValue241, t213 := Tryz.underlying243, a213 := Tryz.isAgg243, z213 := Tryz.sizeOf243, t232 := Tryz.underlying261, a232 := Tryz.isAgg261, z232 := Tryz.sizeOf261, v232 := Tryz.zeroValue261, t233 := Tryz.underlying262, a233 := Tryz.isAgg262, z233 := Tryz.sizeOf262, v233 := Tryz.zeroValue262, g17 := by kernel_rfl, g18 := by kernel_rfl, g19 := by kernel_rfl, i0 := by kernel_rfl, i2 := by kernel_rfl, i3 := by kernel_rfl, i4 := by kernel_rfl, i5 := by kernel_rfl, i9 := by kernel_rfl, i20 := by kernel_rfl, i37 := by kernel_rfl, i46 := by kernel_rfl, i51 := by kernel_rfl, i53 := by kernel_rfl, i171 := by kernel_rfl, i173 := by kernel_rfl, i212 := by kernel_rfl, i232 := by kernel_rfl, i233 := by kernel_rfl, m17 := by kernel_rfl, m18 := by kernel_rfl, m19 := by kernel_rfl }
theorem GJ (N : Nat) (p0 p1 : Int) (r : ByteArray) (h : E5 N p0 p1 = some r) : Ar zA0 125 [iD p0, iD p1] [] (pD (.val (.string r))) := by
 obtain ⟨h1, h⟩ := Gx h
 subst h1
 exact Pb TB (g := Qq.g 17) (by kernel_rfl) h
theorem Ob (N : Nat) (p0 : Ab) (r : ByteArray) (h : EM N p0 = some r) : Ar zA0 88 [.e (.agg (BA p0))] [] (pD (.val (.string r))) := by
 unfold EM at h
 refine cw (n := 29) (rs := [.tmp 2]) Tryz.func88 fun w0 S0 => ?_
 refine wq rfl (qb rfl (qa rfl (Ac (wq rfl (qf GQ rfl (ql HI rfl ?_))))))
 refine Cg h fun v1 a1 h => Ay [] (GJ N p0.fi 10 v1 a1) Ua rfl ?_
 refine HH h fun c2 h => Ex (.p rfl) rfl rfl (F6 _ _ _ _ c2) rfl ?_
 refine qf DN rfl (ql Bg rfl ?_)
 refine Cg h fun v3 a3 h => Ay [] (Kl N p0.fa v3 a3) Uu rfl ?_
 refine HH h fun c4 h => Ex (.p rfl) rfl rfl (F6 _ _ _ _ c4) rfl ?_
 refine qa rfl (AH (by kernel_rfl) (wp rfl (qL F1 C2 rfl ?_)))
 refine Cg h fun v5 a5 h => Ay [2001] (Iw N p0 v5 a5) Ud rfl (PU Cn rfl (qm rfl (Ac ?_)))
 refine Ba (L := Fa N v5) h (fun v6 => mk [(3, pD (.val (.string v6.1))), (15, oD (.own 2002)), (16, iD ((v5.length : Int))), (17, iD v6.2)] [(2002, .vec 1 (v5.map Au))]) (fun v7 => mk [(3, pD (.val (.string v7)))] []) (fun _ _ => rfl) (sm [(2002, 2001)] _ _ rfl rfl) (fun j6 n6 v6 h => ?_) (fun v7 s h hs => ?_)
 ·unfold Fa at h
  refine wq rfl (Bc rfl (Ac (AP ?_)))
  refine Bp h (fun h => ?_) fun h => ?_
  ·refine Aq (AP (AQ (wq rfl ?_)))
   refine BW h fun v9 a9 b9 h => qI Cn In a9 (Ai b9) rfl (qj HI (Ai b9) rfl (qa rfl (Ac (Ak Ax rfl (qw 2 rfl ?_)))))
   refine Cg h fun v10 a10 h => Ay [] (GJ N v9 10 v10 a10) Ua rfl ?_
   refine HH h fun c11 h => Ex (.p rfl) rfl rfl (F6 _ _ _ _ c11) rfl ?_
   refine HH h fun c12 h => Ex (.p rfl) rfl rfl (F6 _ _ _ _ c12) rfl ?_
   refine qa rfl (Ac (Ak Ax rfl (CB rfl (qm rfl (Ac ?_)))))
   exact sn [] h
  ·refine B1 ?_
   exact sn [] h
 ·refine Ag hs (wq rfl (qm rfl ?_))
  refine HH h fun c13 h => Ex (.p rfl) rfl rfl (F6 _ _ _ _ c13) rfl ?_
  refine qa rfl (Ac ?_)
  obtain rfl := sj h
  refine Ag (sm [] [(2, pD (.val (.string ((v7 ++ (⟨#[10]⟩ : ByteArray))))))] [] rfl rfl) (As ?_)
  exact ⟨⟨[_], tm, rfl⟩, tv⟩
def RI : Go.Shelf.Ren := ⟨fun | 166 => 87 | 240 => 124 | 276 => 158 | n => n, fun | 0 => 0 | 3 => 3 | 4 => 4 | 5 => 5 | 9 => 9 | 37 => 47 | 70 => 140 | 72 => 142 | 75 => 144 | 80 => 149 | 164 => 211 | n => n, fun n => n⟩
theorem UH : Lays.n166 zA0 RI := { mixed := Ax, f166 := Tryz.func87.trans (congrArg some (by kernel_rfl)), f240 := Tryz.func124.trans (congrArg some (by kernel_rfl)), f276 := Tryz.func158.trans (congrArg some (by kernel_rfl)), t0 := Tryz.underlying0, a0 := Tryz.isAgg0, z0 := Tryz.sizeOf0, v0 := Tryz.zeroValue0, t3 := Tryz.underlying3, a3 := Tryz.isAgg3, z3 := Tryz.sizeOf3, v3 := Tryz.zeroValue3, t4 := Tryz.underlying4, a4 := Tryz.isAgg4, z4 := Tryz.sizeOf4, v4 := Tryz.zeroValue4, t9 := Tryz.underlying9, a9 := Tryz.isAgg9, z9 := Tryz.sizeOf9, v9 := Tryz.zeroValue9, t20 := Tryz.underlying20, a20 := Tryz.isAgg20, z20 := Tryz.sizeOf20, v20 := Tryz.zeroValue20, t37 := Tryz.underlying47, a37 := Tryz.isAgg47, z37 := Tryz.sizeOf47, v37 := Tryz.zeroValue47, t70 := Tryz.underlying140, a70 := Tryz.isAgg140, z70 := Tryz.sizeOf140, v70 := Tryz.zeroValue140, t72 := Tryz.underlying142, a72 := Tryz.isAgg142, z72 := Tryz.sizeOf142, v72 := Tryz.zeroValue142, t75 := Tryz.underlying144, a75 := Tryz.isAgg144, z75 := Tryz.sizeOf144, v75 := Tryz.zeroValue144, t164 := Tryz.underlying211, a164 := Tryz.isAgg211, z164 := Tryz.sizeOf211, v164 := Tryz.zeroValue211 }
def Sz : Go.Shelf.Ren := ⟨fun | 169 => 90 | n => n, fun | 0 => 0 | 3 => 3 | 5 => 5 | 9 => 9 | 37 => 47 | 70 => 140 | 72 => 142 | 127 => 180 | n => n, fun n => n⟩
theorem UI : Lays.n169 zA0 Sz := { mixed := Ax, f169 := Tryz.func90.trans (congrArg some (by kernel_rfl)), t0 := Tryz.underlying0, a0 := Tryz.isAgg0, z0 := Tryz.sizeOf0, v0 := Tryz.zeroValue0, t3 := Tryz.underlying3, a3 := Tryz.isAgg3, z3 := Tryz.sizeOf3, v3 := Tryz.zeroValue3, t9 := Tryz.underlying9, a9 := Tryz.isAgg9, z9 := Tryz.sizeOf9, v9 := Tryz.zeroValue9, t37 := Tryz.underlying47, a37 := Tryz.isAgg47, z37 := Tryz.sizeOf47, v37 := Tryz.zeroValue47, t70 := Tryz.underlying140, a70 := Tryz.isAgg140, z70 := Tryz.sizeOf140, v70 := Tryz.zeroValue140, t72 := Tryz.underlying142, a72 := Tryz.isAgg142, z72 := Tryz.sizeOf142, v72 := Tryz.zeroValue142, t127 := Tryz.underlying180, a127 := Tryz.isAgg180, z127 := Tryz.sizeOf180, v127 := Tryz.zeroValue180 }
def UJ : Go.Shelf.Ren := ⟨fun | 170 => 89 | n => n, fun | 0 => 0 | 3 => 3 | 5 => 5 | 37 => 47 | 70 => 140 | 72 => 142 | n => n, fun n => n⟩
theorem Ux : Lays.n170 zA0 UJ := { mixed := Ax, f170 := Tryz.func89.trans (congrArg some (by kernel_rfl)), t0 := Tryz.underlying0, a0 := Tryz.isAgg0, z0 := Tryz.sizeOf0, v0 := Tryz.zeroValue0, t3 := Tryz.underlying3, a3 := Tryz.isAgg3, z3 := Tryz.sizeOf3, v3 := Tryz.zeroValue3, t37 := Tryz.underlying47, a37 := Tryz.isAgg47, z37 := Tryz.sizeOf47, v37 := Tryz.zeroValue47, t70 := Tryz.underlying140, a70 := Tryz.isAgg140, z70 := Tryz.sizeOf140, v70 := Tryz.zeroValue140, t72 := Tryz.underlying142, a72 := Tryz.isAgg142, z72 := Tryz.sizeOf142, v72 := Tryz.zeroValue142 }
theorem Wr : Builder.Extra zA0 RI where
 sizeBuilder := by kernel_rfl
 liesBuilder := by kernel_rfl
 t5 := Tryz.underlying5
 a5 := Tryz.isAgg5
 z5 := Tryz.sizeOf5
 v5 := Tryz.zeroValue5
 infoByte := by kernel_rfl
 cellsByte := by kernel_rfl
 sizeByte := by kernel_rfl
 neB5 := by decide
theorem VZ : Builder.Extra zA0 Sz where
 sizeBuilder := by kernel_rfl
 liesBuilder := by kernel_rfl
 t5 := Tryz.underlying5
 a5 := Tryz.isAgg5
 z5 := Tryz.sizeOf5
 v5 := Tryz.zeroValue5
 infoByte := by kernel_rfl
 cellsByte := by kernel_rfl
 sizeByte := by kernel_rfl
 neB5 := by decide
theorem XE (B b : Nat) (bs : List Value) (s : ByteArray) (w : World) (h : Lib.IsBuilder 142 5 B b bs w) (hlen : bs.length + s.size ≤ 140737488355328) (hBw : B ≤ w.heap.size) :
  Calls zA0 87 #[.pointer (some ⟨b, 0, none⟩), .string s] w fun e w' => e = .returned (.tuple #[.int .i64 s.size, .nilIface]) ∧ (Lib.BuilderAt 142 5 B b (.pointer (some ⟨b, 0, none⟩)) (bs ++ Lib.strCells s) w' ∧ Below B w w') := Any.Builder_WriteString UH Wr B b bs s w h hlen hBw
theorem WP (B b : Nat) (bs : List Value) (w : World) (h : Lib.IsBuilder 142 5 B b bs w) : Calls zA0 89 #[.pointer (some ⟨b, 0, none⟩)] w fun e w' => e = .returned (.int .i64 bs.length) ∧ w' = w := Any.Builder_Len Ux B b bs w h
theorem WW (B b : Nat) (l : List UInt8) (w : World) (h : Lib.IsBuilder 142 5 B b (Lib.byteCells l) w) (hBw : B ≤ w.heap.size) :
  Calls zA0 90 #[.pointer (some ⟨b, 0, none⟩)] w fun e w' => e = .returned (.string ⟨l.toArray⟩) ∧ Below B w w' := Any.Builder_String_any UI VZ B b l w h hBw
def Tn (x : Ab) : Array Value := #[.int .i64 x.fi, .int .i64 x.fa, .int .i64 x.fA, .int .i64 x.fB, .int .i64 x.fF, .int .i64 x.fm, .int .i64 x.fw, .int .i64 x.fJ, .int .i64 x.fu, .int .i64 x.fr, .int .i64 x.fM]
set_option maxRecDepth 1000000 in
theorem OY (n : Nat) (a : Option Addr) (cap : Nat) (ve : Int) (hve : ve ≠ 0) (w : World)
  (hval : Calls zA0 43 #[.slice a n cap] w fun e w' => e = .returned (.int .i64 ve) ∧ Below w.heap.size w w') :
  Calls zA0 44 #[.slice a n cap] w fun e w' => e = .returned (.tuple #[.string ⟨#[]⟩, .int .i64 ve]) ∧ Below w.heap.size w w' := by
 have e43 : ∀ args w, (callFunc 43 args).run zA0 w = .ok (.enter 43 args) w := fun _ _ => by kernel_rfl
 have hb : (ve != 0) = true := bne_iff_ne.2 hve
 go_enter Tryz.func44, Tryz.ntmps44
 go_wp2_with (go_at_fn 43; refine hval.mono ?_; rintro e w' ⟨rfl, hw⟩)
 go_ret2
 exact ⟨rfl, hw⟩
set_option maxHeartbeats 2000000 in
set_option maxRecDepth 1000000 in
theorem Qi (ps : List Ab) (line : Ab → Option ByteArray) (a : Option Addr) (ab : Nat) (ao : Nat → Nat) (cap : Nat) (w : World) (r : ByteArray) (res : Value)
  (hval : Calls zA0 43 #[.slice a ps.length cap] w fun e w' => e = .returned (.int .i64 0) ∧ Below w.heap.size w w')
  (hix : ∀ (i : Nat) x, ps[i]? = some x → ∀ W, Below w.heap.size w W → (Instr.indexAt 27 (.slice a ps.length cap) (.int .i64 (i : Int))).run zA0 W = .ok (.pointer (some ⟨ab, ao i, none⟩)) W ∧ ∀ (j : Nat) v, (Tn x)[j]? = some v → W.cell? ⟨ab, ao i + j, none⟩ = some v)
  (hline : ∀ x s, x ∈ ps → line x = some s → ∀ W, Below w.heap.size w W → Calls zA0 88 #[.agg (Tn x)] W fun e w' => e = .returned (.string s) ∧ Below W.heap.size W w')
  (hn : ps.length ≤ 1000000) (hr : Ed line ps ⟨#[]⟩ = some r) (h1 : r.size ≤ 65536 → res = .tuple #[.string r, .int .i64 0]) (h2 : 65536 < r.size → res = .tuple #[.string ⟨#[]⟩, .int .i64 3]) :
  Calls zA0 44 #[.slice a ps.length cap] w fun e w' => e = .returned res ∧ Below w.heap.size w w' := by
 have e43 : ∀ args w, (callFunc 43 args).run zA0 w = .ok (.enter 43 args) w := fun _ _ => by kernel_rfl
 have e88 : ∀ args w, (callFunc 88 args).run zA0 w = .ok (.enter 88 args) w := fun _ _ => by kernel_rfl
 have e87 : ∀ args w, (callFunc 87 args).run zA0 w = .ok (.enter 87 args) w := fun _ _ => by kernel_rfl
 have e89 : ∀ args w, (callFunc 89 args).run zA0 w = .ok (.enter 89 args) w := fun _ _ => by kernel_rfl
 have e90 : ∀ args w, (callFunc 90 args).run zA0 w = .ok (.enter 90 args) w := fun _ _ => by kernel_rfl
 go_enter Tryz.func44, Tryz.ntmps44
 go_wp2_with (go_at_fn 43; refine hval.mono ?_; rintro e w' ⟨rfl, hw⟩)
 clear hval
 go_loopg [15] ps.length (fun g s15 wx => ∃ (q : Nat) (c : ByteArray), q + g = ps.length ∧ s15 = .int .i64 (q : Int) ∧ Ed line (ps.drop q) c = some r ∧ Lib.IsBuilder 142 5 w.heap.size w'.heap.size (Lib.strCells c) wx ∧ Below w.heap.size w wx)
 case atStart =>
  refine ⟨0, ⟨#[]⟩, by omega, rfl, hr, ?_, ?_⟩
  ·obtain ⟨_, v, f1, f2, f3⟩ | ⟨_, v, f1, f2, f3⟩ := Lib.fresh_isBuilder 142 5 w'
   ·exact .inl ⟨hw.size, v, f1, f2.mono hw.size, f3⟩
   ·exact .inr ⟨hw.size, v, f1, f2.mono hw.size, f3⟩
  ·exact hw.alloc hw.size _
 case round =>
  obtain ⟨q, c, h3, rfl, h4, h5, h6⟩ := hrel
  cases gk with
  | zero =>
   have hq : q = ps.length := by omega
   subst hq
   rw [List.drop_length] at h4
   have h4 : c = r := sj h4
   subst h4
   have cLen := WP _ _ _ wr h5
   rw [Lib.strCells_length] at cLen
   have cStr := WW w.heap.size w'.heap.size c.data.toList wr h5 h6.size
   have hnl : ¬ ((ps.length : Int) < (ps.length : Int)) := by omega
   by_cases hs : (65536 : Int) < (c.size : Int)
   ·go_wp2_with (go_at_fn 89; refine cLen.mono ?_; rintro e W1 ⟨rfl, hW⟩; rw [hW])
    go_ret2
    exact ⟨(congrArg Ending.returned (h2 (by omega))).symm, h6⟩
   ·go_wp2_with (first | (go_at_fn 89; refine cLen.mono ?_; rintro e W1 ⟨rfl, hW⟩; rw [hW]) | (go_at_fn 90; refine cStr.mono ?_; rintro e W2 ⟨rfl, b2⟩))
    go_ret2
    exact ⟨(congrArg Ending.returned (h1 (by omega))).symm, h6.trans b2⟩
  | succ g =>
   have hql : q < ps.length := by omega
   have hx : ps[q]? = some ps[q] := by simp [hql]
   obtain ⟨i1, i2⟩ := hix q _ hx wr h6
   rw [zH2 hql, Ed] at h4
   obtain ⟨s, hs, h4⟩ := bind_some h4
   obtain ⟨hc, h4⟩ := Gx h4
   have hnl : ((q : Int) < (ps.length : Int)) := by omega
   have c0 : wr.cell? ⟨ab, ao q, none⟩ = some (.int .i64 ps[q].fi) := i2 0 _ rfl
   have c1 : wr.cell? ⟨ab, ao q + 1, none⟩ = some (.int .i64 ps[q].fa) := i2 1 _ rfl
   have c2 : wr.cell? ⟨ab, ao q + 2, none⟩ = some (.int .i64 ps[q].fA) := i2 2 _ rfl
   have c3 : wr.cell? ⟨ab, ao q + 3, none⟩ = some (.int .i64 ps[q].fB) := i2 3 _ rfl
   have c4 : wr.cell? ⟨ab, ao q + 4, none⟩ = some (.int .i64 ps[q].fF) := i2 4 _ rfl
   have c5 : wr.cell? ⟨ab, ao q + 5, none⟩ = some (.int .i64 ps[q].fm) := i2 5 _ rfl
   have c6 : wr.cell? ⟨ab, ao q + 6, none⟩ = some (.int .i64 ps[q].fw) := i2 6 _ rfl
   have c7 : wr.cell? ⟨ab, ao q + 7, none⟩ = some (.int .i64 ps[q].fJ) := i2 7 _ rfl
   have c8 : wr.cell? ⟨ab, ao q + 8, none⟩ = some (.int .i64 ps[q].fu) := i2 8 _ rfl
   have c9 : wr.cell? ⟨ab, ao q + 9, none⟩ = some (.int .i64 ps[q].fr) := i2 9 _ rfl
   have c10 : wr.cell? ⟨ab, ao q + 10, none⟩ = some (.int .i64 ps[q].fM) := i2 10 _ rfl
   clear i2 hix
   have bA : Below w.heap.size w (wr.alloc (.cells (Tn ps[q]) 37)) := h6.alloc h6.size _
   have bW : Below wr.heap.size wr (wr.alloc (.cells (Tn ps[q]) 37)) := (Below.refl _ _).alloc (zC5 _) _
   have cL := hline ps[q] s (zE6 hql) hs _ bA
   go_wp2_with (go_at_fn 88; refine cL.mono ?_; rintro e W1 ⟨rfl, b1⟩)
   have bB : Below wr.heap.size wr W1 := bW.trans (b1.mono bW.size)
   have bC : Below w.heap.size w W1 := bA.trans (b1.mono bA.size)
   have cW := XE w.heap.size w'.heap.size (Lib.strCells c) s W1 (SG h5 bB) (by rw [Lib.strCells_length]; exact hc) bC.size
   go_wp2_with (go_at_fn 87; refine cW.mono ?_; rintro e W2 ⟨rfl, h7, b2⟩)
   go_roundg g
   case measure => omega
   case rel =>
    refine ⟨q + 1, c ++ s, by omega, ?_, h4, .inr ?_, bC.trans b2⟩
    ·rfl
    ·have e : Lib.strCells (c ++ s) = Lib.strCells c ++ Lib.strCells s := by
      rw [Lib.strCells_eq, Lib.strCells_eq, Lib.strCells_eq, ← Lib.byteCells_append, ByteArray.data_append, Array.toList_append]
     rw [e]; exact h7
theorem TI {w : World} {S : Nat → Prop} (x : Ab) : FG zA0 w (G0 S) (.agg (Tn x)) (.e (.agg ((AE x).map C.pure))) := by
 refine ⟨Tn x, rfl, rfl, fun j c hj => ?_⟩
 match j, hj with
 | 0, hj | 1, hj | 2, hj | 3, hj | 4, hj | 5, hj | 6, hj | 7, hj | 8, hj | 9, hj | 10, hj => cases hj; exact Cs.val _ rfl
 | j + 11, hj => simp [AE] at hj
theorem Lx (N : Nat) (p0 : List Ab) (r : ByteArray × Int) (h : Ig N p0 = some r) : Ar zA0 44 [pD (.sl (p0.map AE))] [] (.tup [.one (.pure (.val (.string r.1))), .one (iC r.2)]) := by
 intro w S vs hS hgk hlen hrd
 have h0 : Cs w S (Ap vs 0) (.sl (p0.map AE)) := hrd 0 _ rfl
 have hvs : vs = #[Ap vs 0] := by
  have h2 : vs.size = 1 := hlen
  apply Array.ext (by simp [h2])
  intro i h1 _
  have : i = 0 := by omega
  subst this; simp [Ap, h1]
 obtain ⟨hn, h⟩ := Gx h
 obtain ⟨ve, hve, h⟩ := bind_some h
 -- the result, from its two cells
 have fin : ∀ {e : Ending} {w' : World}, e = .returned (.tuple #[.string r.1, .int .i64 r.2]) ∧ Below w.heap.size w w' → ∃ v G', e = .returned v ∧ SF w.heap.size w w' ∧ (∀ β, S β → G'.S β) ∧ (∀ β, G'.S β → S β ∨ (w.heap.size ≤ β ∧ β < w'.heap.size)) ∧ FG zA0 w' G' v (.tup [.one (.pure (.val (.string r.1))), .one (iC r.2)]) ∧
   (∀ (k : Nat) (x : Nat × List (List T)), ([] : List (Nat × List (List T)))[k]? = some x → DV zA0 w' G' k (.vec x.1 x.2)) ∧
   (∀ k β, k < ([] : List (Nat × List (List T))).length → G'.has k β → w.heap.size ≤ β ∧ β < w'.heap.size ∧ ¬ G'.S β) ∧
   (∀ k l β, k < ([] : List (Nat × List (List T))).length → l < ([] : List (Nat × List (List T))).length → G'.has k β → G'.has l β → k = l) := by
  rintro e w' ⟨rfl, hb⟩
  refine ⟨_, G0 S, rfl, ⟨hb, fun h => by cases h⟩, fun _ h => h, fun _ h => .inl h, ⟨#[.string r.1, .int .i64 r.2], rfl, rfl, fun j x hj => ?_⟩, fun i x hi => by simp at hi, fun i β hi => by simp at hi, fun i l β hi => by simp at hi⟩
  match j, hj with
  | 0, hj => cases hj; exact Cs.val _ rfl
  | 1, hj => cases hj; exact Cs.val _ rfl
  | j + 2, hj => simp at hj
 rw [hvs]
 -- the call of Valid
 have cV : Calls zA0 43 #[Ap vs 0] w fun e w' => e = .returned (.int .i64 ve) ∧ Below w.heap.size w w' := by
  refine (Gn N p0 ve hve w S #[Ap vs 0] hS hgk rfl (fun j d hj => ?_)).mono ?_
  ·match j, hj with
   | 0, hj => cases hj; exact h0
   | j + 1, hj => simp at hj
  ·rintro e w' ⟨v, G', rfl, hb, _, _, hv, _⟩
   have : v = .int .i64 ve := CF (hv : Cs w' G'.S v (.val _))
   exact ⟨by rw [this], hb.toBelow⟩
 have hl : ∀ x s, x ∈ p0 → EM N x = some s → ∀ W, Below w.heap.size w W → Calls zA0 88 #[.agg (Tn x)] W fun e w' => e = .returned (.string s) ∧ Below W.heap.size W w' := by
  intro x s _ hs W hW
  refine (Ob N x s hs W S #[.agg (Tn x)] (fun β hβ => Nat.lt_of_lt_of_le (hS β hβ) hW.size) (hgk.mono (fun β hβ => hW.block β (hS β hβ)) (fun _ h => h)) rfl (fun j d hj => ?_)).mono ?_
  ·match j, hj with
   | 0, hj => cases hj; exact TI x
   | j + 1, hj => simp at hj
  ·rintro e w' ⟨v, G', rfl, hb, _, _, hv, _⟩
   have : v = .string s := CF (hv : Cs w' G'.S v (.val _))
   exact ⟨by rw [this], hb.toBelow⟩
 generalize hv0 : Ap vs 0 = v0 at h0 cV
 obtain ⟨rows, hrows⟩ : ∃ rows, p0.map AE = rows := ⟨_, rfl⟩
 rw [hrows] at h0
 have hrl : rows.length = p0.length := by rw [← hrows, zB9]
 by_cases hz : ve = 0
 ·subst hz
  have h := Qs rfl h
  obtain ⟨s, hs, h⟩ := bind_some h
  have r1 : s.size ≤ 65536 → (Value.tuple #[.string r.1, .int .i64 r.2] : Value) = .tuple #[.string s, .int .i64 0] := fun hq => by
   have h := Qs (decide_eq_false (by omega)) h; cases h; rfl
  have r2 : 65536 < s.size → (Value.tuple #[.string r.1, .int .i64 r.2] : Value) = .tuple #[.string ⟨#[]⟩, .int .i64 3] := fun hq => by
   have h := Ql (decide_eq_true hq) h; cases h; rfl
  cases h0 with
  | nil a cap =>
   obtain rfl := zI4.1 hrows
   exact (Qi [] (fun x => EM N x) a 0 (fun _ => 0) cap w s _ cV (fun i x hx => by simp at hx) (fun x s hx => by cases hx) (zB7 _) hs r1 r2).mono fun e w' hh => fin hh
  | sl β off cap e arr el fz rows k1 k2 k3 k4 k5 k6 =>
   rw [hrl] at cV ⊢
   refine (Qi p0 (fun x => EM N x) (some ⟨β, off, none⟩) β (fun i => off + i * 11) cap w s _ cV (fun i x hx W hW => ?_) hl hn hs r1 r2).mono fun e w' hh => fin hh
   have hrow : rows[i]? = some (AE x) := by rw [← hrows, zA5, hx]; rfl
   have he : e = 11 := (k5 i _ hrow).symm
   subst he
   have hil : i < p0.length := AA hx
   have hbnd : i * 11 + 11 ≤ p0.length * 11 := by omega
   rw [hrl] at k4
   refine ⟨IN Dz C2 (by omega) (by simpa using hil), fun j v hj => ?_⟩
   have hWb : W.heap[β]? = some (.cells arr el fz) := by rw [hW.block β (hS β k1)]; exact k2
   have hjt : (AE x)[j]? = some (.val v) ∧ j < 11 := by
    match j, hj with
    | 0, hj | 1, hj | 2, hj | 3, hj | 4, hj | 5, hj | 6, hj | 7, hj | 8, hj | 9, hj | 10, hj => cases hj; exact ⟨rfl, by decide⟩
    | j + 11, hj => simp [Tn] at hj
   have hv : Ap arr (off + i * 11 + j) = v := CF (k6 i _ j _ hrow hjt.1)
   have hjl := hjt.2
   simp only [World.cell?, hWb]
   rw [Hx (by omega), hv]; rfl
 ·have hb : (ve != 0) = true := bne_iff_ne.2 hz
  have h := Ql hb h
  cases h
  cases h0 with
  | nil a cap => exact (OY _ a cap ve hz w cV).mono fun e w' hh => fin hh
  | sl β off cap e arr el fz rows k1 k2 k3 k4 k5 k6 => exact (OY _ _ cap ve hz w cV).mono fun e w' hh => fin hh
theorem N7 (N : Nat) (p0 : Int) (r : ByteArray) (h : HG N p0 = some r) : Ar zA0 45 [iD p0] [] (pD (.val (.string r))) := by
 unfold HG at h
 refine cw (n := 7) (rs := [.tmp 2]) Tryz.func45 fun w0 S0 => ?_
 refine wq rfl (qa rfl (Ac (wq rfl (Fm T7 WN XB rfl (qm rfl ?_)))))
 refine BW h fun v1 a1 b1 h => Ov (.p rfl) rfl rfl rfl T7 WN a1 (Ai (f := eS) b1) ?_
 refine OA (.p rfl) rfl Xx rfl (Ai (f := eS) b1) rfl ?_
 refine qa rfl (Ac ?_)
 obtain rfl := sj h
 refine Ag (sm [] [(2, pD (.val (.string v1)))] [] rfl rfl) (As ?_)
 exact ⟨⟨[_], tm, rfl⟩, tv⟩
def Rk : Go.Shelf.Ren := ⟨fun | 129 => 182 | 171 => 46 | 243 => 91 | 246 => 126 | 283 => 159 | 284 => 160 | 285 => 161 | 286 => 162 | 317 => 181 | 318 => 183 | 319 => 184 | 320 => 185 | 337 => 194 | 338 => 195 | n => n, fun | 0 => 0 | 2 => 2 | 3 => 3 | 4 => 4 | 5 => 5 | 9 => 9 | 20 => 20 | 37 => 47 | 46 => 234 | 51 => 242 | 53 => 214 | 171 => 213 | 173 => 217 | 212 => 241 | 213 => 243 | 232 => 261 | 233 => 262 | n => n, fun | 17 => 0 | 18 => 1 | 19 => 2 | n => n⟩
theorem UL : LaysM.n171 zA0 Rk := { mixed := Ax, f129 := Tryz.func182.trans (congrArg some (by kernel_rfl)), f171 := Tryz.func46.trans (congrArg some (by kernel_rfl)), f243 := Tryz.func91.trans (congrArg some (by kernel_rfl)), f246 := Tryz.func126.trans (congrArg some (by kernel_rfl)), f283 := Tryz.func159.trans (congrArg some (by kernel_rfl)), f284 := Tryz.func160.trans (congrArg some (by kernel_rfl)), f285 := Tryz.func161.trans (congrArg some (by kernel_rfl)), f286 := Tryz.func162.trans (congrArg some (by kernel_rfl)), f317 := Tryz.func181.trans (congrArg some (by kernel_rfl)), f318 := Tryz.func183.trans (congrArg some (by kernel_rfl)), f319 := Tryz.func184.trans (congrArg some (by kernel_rfl)), f320 := Tryz.func185.trans (congrArg some (by kernel_rfl)), f337 := Tryz.func194.trans (congrArg some (by kernel_rfl)), f338 := Tryz.func195.trans (congrArg some (by kernel_rfl)), t0 := Tryz.underlying0, a0 := Tryz.isAgg0, z0 := Tryz.sizeOf0, v0 := Tryz.zeroValue0, t2 := Tryz.underlying2, a2 := Tryz.isAgg2, z2 := Tryz.sizeOf2, v2 := Tryz.zeroValue2, t3 := Tryz.underlying3, a3 := Tryz.isAgg3, z3 := Tryz.sizeOf3, v3 := Tryz.zeroValue3, t4 := Tryz.underlying4, a4 := Tryz.isAgg4, z4 := Tryz.sizeOf4, v4 := Tryz.zeroValue4, t5 := Tryz.underlying5, a5 := Tryz.isAgg5, z5 := Tryz.sizeOf5, v5 := Tryz.zeroValue5, t9 := Tryz.underlying9, a9 := Tryz.isAgg9, z9 := Tryz.sizeOf9, v9 := Tryz.zeroValue9, t20 := Tryz.underlying20, a20 := Tryz.isAgg20, z20 := Tryz.sizeOf20, v20 := Tryz.zeroValue20, t37 := Tryz.underlying47, a37 := Tryz.isAgg47, z37 := Tryz.sizeOf47, v37 := Tryz.zeroValue47, t46 := Tryz.underlying234, a46 := Tryz.isAgg234, z46 := Tryz.sizeOf234, v46 := Tryz.zeroValue234, t51 := Tryz.underlying242, a51 := Tryz.isAgg242, z51 := Tryz.sizeOf242, v51 := Tryz.zeroValue242, t53 := Tryz.underlying214, a53 := Tryz.isAgg214, z53 := Tryz.sizeOf214, v53 := Tryz.zeroValue214, t171 := Tryz.underlying213, a171 := Tryz.isAgg213, z171 := Tryz.sizeOf213, v171 := Tryz.zeroValue213, t173 := Tryz.underlying217, a173 := Tryz.isAgg217, z173 := Tryz.sizeOf217, v173 := Tryz.zeroValue217, t212 := Tryz.underlying241, a212 := Tryz.isAgg241, z212 := Tryz.sizeOf241, v212 := Tryz.zeroValue241, t213 := Tryz.underlying243, a213 := Tryz.isAgg243, z213 := Tryz.sizeOf243, t232 := Tryz.underlying261, a232 := Tryz.isAgg261, z232 := Tryz.sizeOf261, v232 := Tryz.zeroValue261, t233 := Tryz.underlying262, a233 := Tryz.isAgg262, z233 := Tryz.sizeOf262, v233 := Tryz.zeroValue262, g17 := by kernel_rfl, g18 := by kernel_rfl, g19 := by kernel_rfl, i0 := by kernel_rfl, i2 := by kernel_rfl, i3 := by kernel_rfl, i4 := by kernel_rfl, i5 := by kernel_rfl, i9 := by kernel_rfl, i20 := by kernel_rfl, i37 := by kernel_rfl, i46 := by kernel_rfl, i51 := by kernel_rfl, i53 := by kernel_rfl, i171 := by kernel_rfl, i173 := by kernel_rfl, i212 := by kernel_rfl, i232 := by kernel_rfl, i233 := by kernel_rfl, m17 := by kernel_rfl, m18 := by kernel_rfl, m19 := by kernel_rfl }
theorem Mc (N : Nat) (p0 : Int) (r : ByteArray) (h : If N p0 = some r) : Ar zA0 46 [iD p0] [] (pD (.val (.string r))) := UV UL (g := Rk.g 17) (by kernel_rfl) h
theorem FU (N : Nat) (p0 : ByteArray) (p1 : ByteArray) (r : Bool) (h : CQ N p0 p1 = some r) : Ar zA0 127 [pD (.val (.string p0)), pD (.val (.string p1))] [] (bD r) := by
 unfold CQ at h
 refine cw (n := 21) (rs := [.tmp 4]) Tryz.func127 fun w0 S0 => ?_
 refine wq rfl (qe rfl ?_)
 refine AK h (fun v1 => mk [(4, bD v1)] []) (fun j1 h => ?_) (fun v1 h => ?_)
 ·refine Ak Ax rfl (qm rfl ?_)
  refine Kq (.p rfl) rfl Nk ?_
  refine qm rfl ?_
  refine Kq (.p rfl) rfl Nk ?_
  refine DO rfl (qm rfl ?_)
  refine CS 10 h rfl (fun h => ?_) fun h => ?_
  ·refine qw 2 rfl ?_
   refine Kq (.g rfl rfl) rfl Nk ?_
   refine qm rfl ?_
   refine Kq (.g rfl rfl) rfl Nk ?_
   refine K1 rfl ?_
   refine HH h fun c3 h => Ox (.g rfl rfl) rfl Nk (.some _ _ _ _ c3.1) (.none _) ⟨rfl, tv⟩ tv c3.2.1 c3.2.2 ?_
   refine qm rfl ?_
   refine Ex (.g rfl rfl) rfl rfl (LS _ _ _ _) rfl ?_
   refine qp rfl (qe rfl ?_)
   exact sn [] h
  ·refine qw 9 rfl (qp rfl (qe rfl ?_))
   exact sn [] h
 ·obtain rfl := sj h
  refine Ag (sm [] [(4, bD v1)] [] rfl rfl) (As ?_)
  exact ⟨⟨[_], tm, rfl⟩, tv⟩
theorem FO (N : Nat) (p0 : ByteArray) (p1 : ByteArray) (r : ByteArray) (h : CE N p0 p1 = some r) : Ar zA0 92 [pD (.val (.string p0)), pD (.val (.string p1))] [] (pD (.val (.string r))) := by
 unfold CE at h
 refine cw (n := 16) (rs := [.tmp 4]) Tryz.func92 fun w0 S0 => ?_
 refine wq rfl (qa rfl (Ac (wp rfl (qw 2 rfl ?_))))
 refine Cg h fun v1 a1 h => Ay [] (FU N p0 p1 v1 a1) Vw rfl (Ac ?_)
 refine Bp h (fun h => ?_) fun h => ?_
 ·refine wq rfl (qw 2 rfl ?_)
  refine Kq (.p rfl) rfl Nk ?_
  refine qm rfl ?_
  refine Kq (.p rfl) rfl Nk ?_
  refine K1 rfl ?_
  refine HH h fun c3 h => Ox (.p rfl) rfl Nk (.none _) (.some _ _ _ _ c3.1) tv ⟨rfl, tv⟩ c3.2.1 c3.2.2 ?_
  refine qa rfl (Ac ?_)
  obtain rfl := sj h
  refine Ag (sm [] [(4, pD (.val (.string ((p0.extract 0 (((wI .i64 ((p0.size : Int) - (p1.size : Int)))).toNat))))))] [] rfl rfl) (As ?_)
  exact ⟨⟨[_], tm, rfl⟩, tv⟩
 ·refine Aq (wq rfl (qm rfl (qe rfl ?_)))
  obtain rfl := sj h
  refine Ag (sm [] [(4, pD (.val (.string p0)))] [] rfl rfl) (As ?_)
  exact ⟨⟨[_], tm, rfl⟩, tv⟩
theorem IT (N : Nat) (p0 : ByteArray) (p1 : ByteArray) (r : ByteArray) (h : ES N p0 p1 = some r) : Ar zA0 47 [pD (.val (.string p0)), pD (.val (.string p1))] [] (pD (.val (.string r))) := by
 unfold ES at h
 refine cw (n := 8) (rs := [.tmp 4]) Tryz.func47 fun w0 S0 => ?_
 refine wq rfl (qa rfl (Ac (wq rfl (qw 2 rfl ?_))))
 refine Cg h fun v1 a1 h => Ay [] (FO N p0 p1 v1 a1) W4 rfl (qe rfl ?_)
 obtain rfl := sj h
 refine Ag (sm [] [(4, pD (.val (.string v1)))] [] rfl rfl) (As ?_)
 exact ⟨⟨[_], tm, rfl⟩, tv⟩
theorem Ly (N : Nat) (p0 : List Ab) (p1 : Int) (p2 : Int) (r : ByteArray × Int) (h : GC N p0 p1 p2 = some r) : Ar zA0 19 [pD (.sl (p0.map AE)), iD p1, iD p2] [] (.tup [.one (.pure (.val (.string r.1))), .one (iC r.2)]) := by
 unfold GC at h
 refine cw (n := 54) (rs := [.tmp 6, .tmp 7]) Tryz.func19 fun w0 S0 => ?_
 refine wq rfl (qa rfl (qa rfl (Ac (wp rfl (qm rfl ?_)))))
 refine Cg h fun v1 a1 h => Ay [] (Gn N p0 v1 a1) Va rfl (qa rfl (Ac (wq rfl (qm rfl (BJ rfl (Ac ?_))))))
 refine Bp h (fun h => ?_) fun h => ?_
 ·refine wq rfl (qm rfl (qa rfl (qe rfl ?_)))
  obtain rfl := sj h
  refine Ag (sm [] [(6, pD (.val (.string ((⟨#[]⟩ : ByteArray))))), (7, iD v1)] [] rfl rfl) (As ?_)
  exact ⟨⟨[_, _], ⟨.tmp _ _ rfl, tm⟩, rfl⟩, tv⟩
 ·refine Aq (AP (AQ ?_))
  refine AK h (fun v3 => mk [(0, pD (.sl (p0.map AE))), (1, iD p1), (2, iD p2), (16, bD v3)] []) (fun j3 h => ?_) (fun v3 h => ?_)
  ·refine Ak Ax rfl (qm rfl (Bc rfl (qm rfl ?_)))
   refine CS 19 h rfl (fun h => ?_) fun h => ?_
   ·refine qw 4 rfl (qp rfl (qe rfl ?_))
    exact sn [] h
   ·refine qw 2 rfl (AG Dz rfl (DO rfl (qp rfl (qe rfl ?_))))
    exact sn [] h
  ·refine Bp h (fun h => ?_) fun h => ?_
   ·refine wq rfl (qa rfl (qe rfl ?_))
    obtain rfl := sj h
    refine Ag (sm [] [(6, pD (.val (.string ((⟨#[]⟩ : ByteArray))))), (7, iD 7)] [] rfl rfl) (As ?_)
    exact ⟨⟨[_, _], ⟨.tmp _ _ rfl, tm⟩, rfl⟩, tv⟩
   ·refine AK h (fun v6 => mk [(0, pD (.sl (p0.map AE))), (1, iD p1), (2, iD p2), (25, bD v6)] []) (fun j6 h => ?_) (fun v6 h => ?_)
    ·refine Ak Ax rfl (qm rfl (Bc rfl (qm rfl ?_)))
     refine CS 28 h rfl (fun h => ?_) fun h => ?_
     ·refine qw 2 rfl (qp rfl (qe rfl ?_))
      exact sn [] h
     ·refine qm rfl (Ei rfl (qp rfl (qe rfl ?_)))
      exact sn [] h
    ·refine Bp h (fun h => ?_) fun h => ?_
     ·refine wq rfl (qa rfl (qe rfl ?_))
      obtain rfl := sj h
      refine Ag (sm [] [(6, pD (.val (.string ((⟨#[]⟩ : ByteArray))))), (7, iD 1)] [] rfl rfl) (As ?_)
      exact ⟨⟨[_, _], ⟨.tmp _ _ rfl, tm⟩, rfl⟩, tv⟩
     ·refine Aq (wq rfl (qw 3 rfl (CB rfl ?_)))
      refine HH h fun c9 h => Nv (.p rfl) rfl Dz C2 (Ix (f := AE) (n := 11) (fun _ => rfl) _) (.some _ _ _ _ c9.1) (.some _ _ _ _ c9.2.1) ⟨rfl, tv⟩ ⟨rfl, tv⟩ (by have := c9.2.2.1; (try simp only [zB9]); omega) (by have := c9.2.2.2; (try simp only [zB9]); omega) (LO AE p0 _ _ (((wI .i64 (p1 + 1))).toNat - (p1).toNat) rfl) ?_
      refine Cg h fun v10 a10 h => Ay [] (Lx N (((p0.drop (p1).toNat).take (((wI .i64 (p1 + 1))).toNat - (p1).toNat))) v10 a10) WY rfl (qm rfl (qx rfl (qx rfl (qa rfl (qa rfl (Ac (wp rfl (qm rfl (BJ rfl (Ac ?_))))))))))
      refine Bp h (fun h => ?_) fun h => ?_
      ·refine wq rfl (qm rfl (qa rfl (qe rfl ?_)))
       obtain rfl := sj h
       refine Ag (sm [] [(6, pD (.val (.string ((⟨#[]⟩ : ByteArray))))), (7, iD v10.2)] [] rfl rfl) (As ?_)
       exact ⟨⟨[_, _], ⟨.tmp _ _ rfl, tm⟩, rfl⟩, tv⟩
      ·refine Aq (wq rfl (qm rfl ?_))
       refine Cg h fun v12 a12 h => Ay [] (N7 N p2 v12 a12) WU rfl ?_
       refine HH h fun c13 h => Ex (.p rfl) rfl rfl (F6 _ _ _ _ c13) rfl ?_
       refine qm rfl ?_
       refine Cg h fun v14 a14 h => Ay [] (Mc N p1 v14 a14) Xj rfl ?_
       refine HH h fun c15 h => Ex (.p rfl) rfl rfl (F6 _ _ _ _ c15) rfl ?_
       refine HH h fun c16 h => Ex (.p rfl) rfl rfl (F6 _ _ _ _ c16) rfl ?_
       refine qm rfl ?_
       refine Cg h fun v17 a17 h => Ay [] (IT N v10.1 ((⟨#[10]⟩ : ByteArray)) v17 a17) Xc rfl ?_
       refine HH h fun c18 h => Ex (.p rfl) rfl rfl (F6 _ _ _ _ c18) rfl ?_
       refine qa rfl (qe rfl ?_)
       obtain rfl := sj h
       refine Ag (sm [] [(6, pD (.val (.string (((((v12 ++ (⟨#[32]⟩ : ByteArray)) ++ v14) ++ (⟨#[58, 32]⟩ : ByteArray)) ++ v17))))), (7, iD 0)] [] rfl rfl) (As ?_)
       exact ⟨⟨[_, _], ⟨.tmp _ _ rfl, tm⟩, rfl⟩, tv⟩
theorem GH (N : Nat) (r : Bool) (h : Du N = some r) : Ar zA0 11 [] [] (bD r) := by
 unfold Du at h
 refine cw (n := 97) (rs := [.tmp 0]) Tryz.func11 fun w0 S0 => ?_
 refine wq rfl (qa rfl (Ac (wq rfl (Fm AC CU Ok rfl (Fm AC CU Ok rfl (Fm AC CU Ok rfl (BD Wi Xd rfl (qz Wi rfl (qs D0 rfl (Ac (wq rfl (BD QL U5 rfl (BD QL U5 rfl (Fm Hi GN QL rfl (qa rfl (Ac (wq rfl (BD HB QR rfl (BD HB QR rfl (BD HB QR rfl (BD HB QR rfl (Fm Dz C2 HB rfl (qa rfl (Ac (AP (Ag (Cd 25 _ _ rfl rfl) (Ak Ax rfl (qL D2 D0 rfl (Fm AC CU Ok rfl (qw 2 rfl ?_))))))))))))))))))))))))))))))
 refine HH h fun c1 h => Nv (rows := (([(Ab.mk 0 7 0 0 0 0 1 0 0 0 0), (Ab.mk 0 2 0 0 0 0 1 0 0 0 0), (Ab.mk 1 6 0 0 0 0 0 1 0 1 0), (Ab.mk 2 3 0 0 0 1 1 0 0 0 0)] : List Ab)).map AE) (.p rfl) rfl Dz C2 (Ix (f := AE) (n := 11) (fun _ => rfl) _) (.none _) (.some _ _ _ _ c1.1) tv ⟨rfl, tv⟩ (by have := c1.2.1; (try simp only [zB9]); omega) (by have := c1.2.2; (try simp only [zB9]); omega) (LO AE (([(Ab.mk 0 7 0 0 0 0 1 0 0 0 0), (Ab.mk 0 2 0 0 0 0 1 0 0 0 0), (Ab.mk 1 6 0 0 0 0 0 1 0 1 0), (Ab.mk 2 3 0 0 0 1 1 0 0 0 0)] : List Ab)) _ _ ((3 : Int).toNat - 0) rfl) ?_
 refine Cg h fun v2 a2 h => F5 [] [14, 15, 16, 28, 20] (Fo N ((Aa.mk (([2] : List Int)) (([0] : List Int)) (([1] : List Int)) (([] : List AI)))) (([1] : List Int)) (([(Al.mk 1 0 1), (Al.mk 2 0 0)] : List Al)) ((((([(Ab.mk 0 7 0 0 0 0 1 0 0 0 0), (Ab.mk 0 2 0 0 0 0 1 0 0 0 0), (Ab.mk 1 6 0 0 0 0 0 1 0 1 0), (Ab.mk 2 3 0 0 0 1 1 0 0 0 0)] : List Ab)).drop 0).take ((3 : Int).toNat - 0))) v2 a2) Sb Er rfl (qm rfl (qx rfl (qx rfl (qx rfl (qa rfl (qa rfl (qa rfl (AH (by kernel_rfl) (AP (Ag (Cd 14 _ _ rfl rfl) (Ag (Cd 15 _ _ rfl rfl) (Ag (Cd 16 _ _ rfl rfl) (Ag (Cd 20 _ _ rfl rfl) (Ak Ax rfl (qL D2 D0 rfl (qw 2 rfl ?_))))))))))))))))
 refine HH h fun c3 h => Nv (rows := (([(Ab.mk 0 7 0 0 0 0 1 0 0 0 0), (Ab.mk 0 2 0 0 0 0 1 0 0 0 0), (Ab.mk 1 6 0 0 0 0 0 1 0 1 0), (Ab.mk 2 3 0 0 0 1 1 0 0 0 0)] : List Ab)).map AE) (.p rfl) rfl Dz C2 (Ix (f := AE) (n := 11) (fun _ => rfl) _) (.none _) (.some _ _ _ _ c3.1) tv ⟨rfl, tv⟩ (by have := c3.2.1; (try simp only [zB9]); omega) (by have := c3.2.2; (try simp only [zB9]); omega) (LO AE (([(Ab.mk 0 7 0 0 0 0 1 0 0 0 0), (Ab.mk 0 2 0 0 0 0 1 0 0 0 0), (Ab.mk 1 6 0 0 0 0 0 1 0 1 0), (Ab.mk 2 3 0 0 0 1 1 0 0 0 0)] : List Ab)) _ _ ((3 : Int).toNat - 0) rfl) ?_
 refine Cg h fun v4 a4 h => Ay [] (OQ N ((Aa.mk (([2] : List Int)) (([0] : List Int)) (([1] : List Int)) (([] : List AI)))) (([(Al.mk 1 0 1), (Al.mk 2 0 0)] : List Al)) ((((([(Ab.mk 0 7 0 0 0 0 1 0 0 0 0), (Ab.mk 0 2 0 0 0 0 1 0 0 0 0), (Ab.mk 1 6 0 0 0 0 0 1 0 1 0), (Ab.mk 2 3 0 0 0 1 1 0 0 0 0)] : List Ab)).drop 0).take ((3 : Int).toNat - 0))) v4 a4) WS rfl (qm rfl (qx rfl (qx rfl (qz Do rfl (qs AS rfl (qa rfl (AH (by kernel_rfl) (wq rfl (qL D2 D0 rfl (Fm AC CU Ok rfl (qw 2 rfl ?_)))))))))))
 refine Cg h fun v5 a5 h => F5 [] [46] (Fo N ((Aa.mk (([2] : List Int)) (([0] : List Int)) (([1] : List Int)) (([] : List AI)))) (([1] : List Int)) (([(Al.mk 1 0 1), (Al.mk 2 0 0)] : List Al)) (([(Ab.mk 0 7 0 0 0 0 1 0 0 0 0), (Ab.mk 0 2 0 0 0 0 1 0 0 0 0), (Ab.mk 1 6 0 0 0 0 0 1 0 1 0), (Ab.mk 2 3 0 0 0 1 1 0 0 0 0)] : List Ab)) v5 a5) Sb Er rfl (qm rfl (qx rfl (qx rfl (qx rfl (qa rfl (qa rfl (qa rfl (Ac (wq rfl (qm rfl ?_))))))))))
 refine Cg h fun v6 a6 h => Ay [] (Ly N (([(Ab.mk 0 7 0 0 0 0 1 0 0 0 0), (Ab.mk 0 2 0 0 0 0 1 0 0 0 0), (Ab.mk 1 6 0 0 0 0 0 1 0 1 0), (Ab.mk 2 3 0 0 0 1 1 0 0 0 0)] : List Ab)) 3 2 v6 a6) Xh rfl (qm rfl (qx rfl (qx rfl (qa rfl (qe rfl ?_)))))
 refine AK h (fun v7 => mk [(0, bD v7)] []) (fun j7 h => ?_) (fun v7 h => ?_)
 ·refine Ak Ax rfl (qm rfl (AN rfl (qm rfl ?_)))
  refine CS 60 h rfl (fun h => ?_) fun h => ?_
  ·refine qm rfl (AN rfl (qp rfl (qm rfl ?_)))
   refine CS 64 h rfl (fun h => ?_) fun h => ?_
   ·refine qm rfl (AN rfl (qp rfl (qm rfl ?_)))
    refine CS 68 h rfl (fun h => ?_) fun h => ?_
    ·refine qm rfl (AN rfl (qp rfl (qm rfl ?_)))
     refine CS 72 h rfl (fun h => ?_) fun h => ?_
     ·refine qf BX rfl (ql Bi rfl (AG AC rfl (AN rfl (qp rfl (qm rfl ?_)))))
      refine CS 78 h rfl (fun h => ?_) fun h => ?_
      ·refine qf BX rfl (ql Bi rfl ?_)
       refine BW h fun v13 a13 b13 h => qi AC CU a13 (Ai b13) rfl (qk Bg rfl (AN rfl (qp rfl (qm rfl ?_))))
       refine CS 85 h rfl (fun h => ?_) fun h => ?_
       ·refine qm rfl (AN rfl (qp rfl (qm rfl ?_)))
        refine CS 89 h rfl (fun h => ?_) fun h => ?_
        ·refine qm rfl (AN rfl (qp rfl (qm rfl ?_)))
         refine CS 93 h rfl (fun h => ?_) fun h => ?_
         ·refine qm rfl ?_
          refine Ex (.g rfl rfl) rfl rfl (LS _ _ _ _) rfl ?_
          refine qp rfl (qe rfl ?_)
          exact sn [] h
         ·refine qw 2 rfl (qp rfl (qe rfl ?_))
          exact sn [] h
        ·refine qw 2 rfl (qp rfl (qw 3 rfl (qp rfl (qe rfl ?_))))
         exact sn [] h
       ·refine qw 2 rfl (qp rfl (qw 3 rfl (qp rfl (qw 3 rfl (qp rfl (qe rfl ?_))))))
        exact sn [] h
      ·refine qw 5 rfl (qp rfl (qw 3 rfl (qp rfl (qw 3 rfl (qp rfl (qw 3 rfl (qp rfl (qe rfl ?_))))))))
       exact sn [] h
     ·refine qw 4 rfl (qp rfl (qw 6 rfl (qp rfl (qw 3 rfl (qp rfl (qw 3 rfl (qp rfl (qw 3 rfl (qp rfl (qe rfl ?_))))))))))
      exact sn [] h
    ·refine qw 2 rfl (qp rfl (qw 5 rfl (qp rfl (qw 6 rfl (qp rfl (qw 3 rfl (qp rfl (qw 3 rfl (qp rfl (qw 3 rfl (qp rfl (qe rfl ?_))))))))))))
     exact sn [] h
   ·refine qw 2 rfl (qp rfl (qw 3 rfl (qp rfl (qw 5 rfl (qp rfl (qw 6 rfl (qp rfl (qw 3 rfl (qp rfl (qw 3 rfl (qp rfl (qw 3 rfl (qp rfl (qe rfl ?_))))))))))))))
    exact sn [] h
  ·refine qw 2 rfl (qp rfl (qw 3 rfl (qp rfl (qw 3 rfl (qp rfl (qw 5 rfl (qp rfl (qw 6 rfl (qp rfl (qw 3 rfl (qp rfl (qw 3 rfl (qp rfl (qw 3 rfl (qp rfl (qe rfl ?_))))))))))))))))
   exact sn [] h
 ·obtain rfl := sj h
  refine Ag (sm [] [(0, bD v7)] [] rfl rfl) (As ?_)
  exact ⟨⟨[_], tm, rfl⟩, tv⟩
theorem J2 (N : Nat) (p0 : Aa) (r : Bool) (h : Dh N p0 = some r) : Ar zA0 34 [.e (.agg (Am p0))] [] (bD r) := by
 unfold Dh at h
 refine cw (n := 97) (rs := [.tmp 2]) Tryz.func34 fun w0 S0 => ?_
 refine wq rfl (qb rfl (qa rfl (Ac (AP ?_))))
 refine AK h (fun v1 => mk [(1, oD (.ptr 1 0)), (27, bD v1)] [(1, .box (Am p0))]) (fun j1 h => ?_) (fun v1 h => ?_)
 ·refine Ak Ax rfl (qf BI rfl (ql Bi rfl (AG AC rfl (Ei rfl (qm rfl ?_)))))
  refine CS 10 h rfl (fun h => ?_) fun h => ?_
  ·refine qw 4 rfl (qp rfl (qw 5 rfl (qp rfl (qw 5 rfl (qp rfl (Ac ?_))))))
   exact sn [] h
  ·refine qf FV rfl (ql Bi rfl (AG AC rfl (Ei rfl (qp rfl (qm rfl ?_)))))
   refine CS 16 h rfl (fun h => ?_) fun h => ?_
   ·refine qw 4 rfl (qp rfl (qw 5 rfl (qp rfl (Ac ?_))))
    exact sn [] h
   ·refine qf IY rfl (ql Bi rfl (AG AC rfl (Ei rfl (qp rfl (qm rfl ?_)))))
    refine CS 22 h rfl (fun h => ?_) fun h => ?_
    ·refine qw 4 rfl (qp rfl (Ac ?_))
     exact sn [] h
    ·refine qf BO rfl (ql Fb rfl (AG Da rfl (Ei rfl (qp rfl (Ac ?_)))))
     exact sn [] h
 ·refine Bp h (fun h => ?_) fun h => ?_
  ·refine wq rfl (qe rfl ?_)
   obtain rfl := sj h
   refine Ag (sm [] [(2, bD false)] [] rfl rfl) (As ?_)
   exact ⟨⟨[_], tm, rfl⟩, tv⟩
  ·refine Aq (wp rfl (qe rfl ?_))
   refine Ba (L := Cx N p0) h (fun v6 => mk [(1, oD (.ptr 1 0)), (3, iD v6)] [(1, .box (Am p0))]) (fun v7 => mk [] []) (fun _ _ => rfl) (sm [] _ _ rfl rfl) (fun j6 n6 v6 h => ?_) (fun v7 s h hs => ?_)
   ·unfold Cx at h
    refine wp rfl (qm rfl (qf BO rfl (ql Fb rfl (AG Da rfl (Bc rfl (Ac ?_))))))
    refine Bp h (fun h => ?_) fun h => ?_
    ·refine Aq (AP (AQ (AP ?_)))
     refine AK h (fun v9 => mk [(1, oD (.ptr 1 0)), (3, iD v6), (52, bD v9)] [(1, .box (Am p0))]) (fun j9 h => ?_) (fun v9 h => ?_)
     ·refine Ak Ax rfl (qf BO rfl (ql Fb rfl (qm rfl ?_)))
      refine BW h fun v10 a10 b10 h => qi Da B4 a10 (Ai b10) rfl (qg Hk rfl (qk Fq rfl (AG D6 rfl (Ei rfl (qm rfl ?_)))))
      refine CS 43 h rfl (fun h => ?_) fun h => ?_
      ·refine qw 8 rfl (qp rfl (Ac ?_))
       exact sn [] h
      ·refine qf BO rfl (ql Fb rfl (qm rfl ?_))
       refine BW h fun v12 a12 b12 h => qi Da B4 a12 (Ai b12) rfl (qg Ec rfl (qk Fq rfl (AG D6 rfl (Ei rfl (qp rfl (Ac ?_))))))
       exact sn [] h
     ·refine Bp h (fun h => ?_) fun h => ?_
      ·refine wq rfl (qe rfl ?_)
       obtain rfl := sj h
       refine Ag (sm [] [(2, bD false)] [] rfl rfl) (As ?_)
       exact ⟨⟨[_], tm, rfl⟩, tv⟩
      ·refine Aq (wp rfl (qe rfl ?_))
       refine Ba (L := BL N p0 v6) h (fun v14 => mk [(1, oD (.ptr 1 0)), (3, iD v6), (4, iD v14)] [(1, .box (Am p0))]) (fun v15 => mk [(1, oD (.ptr 1 0)), (3, iD v6)] [(1, .box (Am p0))]) (fun _ _ => rfl) (sm [] _ _ rfl rfl) (fun j14 n14 v14 h => ?_) (fun v15 s h hs => ?_)
       ·unfold BL at h
        refine wp rfl (qm rfl (qf BO rfl (ql Fb rfl (qm rfl ?_))))
        refine BW h fun v16 a16 b16 h => qi Da B4 a16 (Ai b16) rfl (qg Hk rfl (qk Fq rfl (AG D6 rfl (Bc rfl (Ac ?_)))))
        refine Bp h (fun h => ?_) fun h => ?_
        ·refine Aq (AP (AQ (wq rfl (qf BO rfl (ql Fb rfl (qm rfl ?_))))))
         refine BW h fun v18 a18 b18 h => qi Da B4 a18 (Ai b18) rfl (qg Hk rfl (qk Fq rfl (qm rfl ?_)))
         refine BW h fun v19 a19 b19 h => qi D6 J1 a19 (Ai b19) rfl (qk JX rfl (AG H9 rfl (Ei rfl (Ac ?_))))
         refine Bp h (fun h => ?_) fun h => ?_
         ·refine wq rfl (qe rfl ?_)
          obtain rfl := sj h
          refine Ag (sm [] [(2, bD false)] [] rfl rfl) (As ?_)
          exact ⟨⟨[_], tm, rfl⟩, tv⟩
         ·refine Aq (Ak Ax rfl (qm rfl (CB rfl (qe rfl ?_))))
          exact sn [] h
        ·refine B1 ?_
         exact sn [] h
       ·refine Ag hs (wq rfl (qe rfl ?_))
        refine Ba (L := BK N p0 v6) h (fun v21 => mk [(1, oD (.ptr 1 0)), (3, iD v6), (5, iD v21)] [(1, .box (Am p0))]) (fun v22 => mk [(1, oD (.ptr 1 0)), (3, iD v6)] [(1, .box (Am p0))]) (fun _ _ => rfl) (sm [] _ _ rfl rfl) (fun j21 n21 v21 h => ?_) (fun v22 s h hs => ?_)
        ·unfold BK at h
         refine wp rfl (qm rfl (qf BO rfl (ql Fb rfl (qm rfl ?_))))
         refine BW h fun v23 a23 b23 h => qi Da B4 a23 (Ai b23) rfl (qg Ec rfl (qk Fq rfl (AG D6 rfl (Bc rfl (Ac ?_)))))
         refine Bp h (fun h => ?_) fun h => ?_
         ·refine Aq (AP (AQ (wq rfl (qf BO rfl (ql Fb rfl (qm rfl ?_))))))
          refine BW h fun v25 a25 b25 h => qi Da B4 a25 (Ai b25) rfl (qg Ec rfl (qk Fq rfl (qm rfl ?_)))
          refine BW h fun v26 a26 b26 h => qi D6 J1 a26 (Ai b26) rfl (qk JX rfl (AG H9 rfl (Ei rfl (Ac ?_))))
          refine Bp h (fun h => ?_) fun h => ?_
          ·refine wq rfl (qe rfl ?_)
           obtain rfl := sj h
           refine Ag (sm [] [(2, bD false)] [] rfl rfl) (As ?_)
           exact ⟨⟨[_], tm, rfl⟩, tv⟩
          ·refine Aq (Ak Ax rfl (qm rfl (CB rfl (qe rfl ?_))))
           exact sn [] h
         ·refine B1 ?_
          exact sn [] h
        ·refine Ag hs (Ak Ax rfl (qm rfl (CB rfl (qe rfl ?_))))
         exact sn [] h
    ·refine B1 ?_
     exact sn [] h
   ·refine Ag hs (wq rfl (qe rfl ?_))
    obtain rfl := sj h
    refine Ag (sm [] [(2, bD true)] [] rfl rfl) (As ?_)
    exact ⟨⟨[_], tm, rfl⟩, tv⟩
end Go.Lift
