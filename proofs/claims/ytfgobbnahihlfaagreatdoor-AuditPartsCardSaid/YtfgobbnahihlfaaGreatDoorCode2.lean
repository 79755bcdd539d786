/- Lemmas for AuditPartsCardSaid, which YtfgobbnahihlfaaGreatDoorFinA9 proves. -/
import Derived.Test.YtfgobbnahihlfaaGreatDoorTypes
import Derived.Test.YtfgobbnahihlfaaGreatDoorProg
import Derived.KernelRfl
open List renaming getElem?_map → zF, getElem_mem → yR, length_map → zY, map_eq_nil_iff → uF, replicate → zK
open Nat renaming le_refl → yY, min → yN, zero_add → zI, zero_le → zQ
open Option renaming map → xR
open Go.Proofs.Tryz renaming prog → zA
namespace Go.Lift
open IntKind renaming wrap → wI
def Du (_ : Nat) (p0 : Int) (p1 : Int) : Option Bool :=
 Ba (fun (v1 : Bool) =>
  some v1)
 fun j1 =>
 AJ ((decide (0 ≤ p0)))
  (j1 (decide (p0 < p1)))
  (j1 false)
def FR (_ : Nat) (p0 : Int) (p1 : Bool) : Option Bool :=
 Ba (fun (v1 : Bool) =>
  some v1)
 fun j1 =>
 AJ ((p0 == 1))
  (j1 true)
  (AJ ((p0 == 2))
   (j1 true)
   (AJ ((p0 == 3))
    (j1 (!p1))
    (AJ ((p0 == 4))
     (j1 (!p1))
     (j1 false))))
def Dl (_ : Nat) (p0 : List Bool) (p1 : Int) : Option Bool :=
 some (((p0.length : Int) != p1))
def Be (N : Nat) (p0 : List (List Bool)) (p1 : (List Bool) → Option Bool) (j1 : Unit → Option Int) : Nat → Int → Option Int
 | 0, _ => none
 | n1 + 1, v1 =>
  AJ ((decide (v1 < (p0.length : Int))))
   ((Bs p0 v1).bind fun v4 =>
   (p1 v4).bind fun v5 =>
   AJ v5
    (some v1)
    (Be N p0 p1 j1 n1 (wI .i64 (v1 + 1))))
   (j1 ())
def CE (N : Nat) (p0 : List (List Bool)) (p1 : (List Bool) → Option Bool) : Option Int :=
 Be N p0 p1 (fun (_ : Unit) =>
  some ((-1))) N 0
def Ci (N : Nat) (p0 : List (List Bool)) (p1 : (List Bool) → Option Bool) : Option Bool :=
 (CE N p0 p1).bind fun v1 =>
 some ((decide (0 ≤ v1)))
def Em (N : Nat) (p0 : List (List Bool)) (p1 : Int) (p2 : Int) : Option Bool :=
 Ba (fun (v1 : Bool) =>
  some v1)
 fun j1 =>
 AJ (((p0.length : Int) == p1))
  ((Ci N p0 ((fun (x : List Bool) => Dl N x p2))).bind fun v3 =>
  j1 (!v3))
  (j1 false)
def Ct (N : Nat) (p1 : AL) (j19 : Unit → Option Int) : Nat → Int → Option Int
 | 0, _ => none
 | n19 + 1, v19 =>
  AJ ((decide (v19 < (p1.fw.length : Int))))
   ((Bs p1.fw v19).bind fun v22 =>
   (Bs v22 v19).bind fun v23 =>
   AJ ((!v23))
    (some 1)
    (Ct N p1 j19 n19 (wI .i64 (v19 + 1))))
   (j19 ())
def Fr (N : Nat) (p0 : Aa) (p1 : AL) : Option Int :=
 (FR N p1.fa p1.fQ).bind fun v1 =>
 AJ ((!v1))
  (some 1)
  (Ba (fun (v3 : Bool) =>
   AJ v3
    (some 4)
    ((Bs p0.fc p1.fk).bind fun v8 =>
    Ba (fun (v9 : Bool) =>
     AJ v9
      (some 6)
      (Ct N p1 (fun (_ : Unit) =>
       some 0) N 0))
    fun j9 =>
    (Bs p0.fc p1.fF).bind fun v10 =>
    (Em N p1.fJ v8 v10).bind fun v11 =>
    AJ ((!v11))
     (j9 true)
     (AJ ((p1.fa == 4))
      ((Em N p1.fw v8 v8).bind fun v14 =>
      AJ ((!v14))
       (j9 true)
       (AJ ((!((p1.fa == 4))))
        (j9 (decide (0 < (p1.fw.length : Int))))
        (j9 false)))
      (AJ ((!((p1.fa == 4))))
       (j9 (decide (0 < (p1.fw.length : Int))))
       (j9 false)))))
  fun j3 =>
  (Du N p1.fk ((p0.fc.length : Int))).bind fun v4 =>
  AJ ((!v4))
   (j3 true)
   ((Du N p1.fF ((p0.fc.length : Int))).bind fun v6 =>
   j3 (!v6)))
def BB (N : Nat) (p0 : Aa) (j7 : Unit → Option Int) : Nat → Int → Option Int
 | 0, _ => none
 | n7 + 1, v7 =>
  AJ ((decide (v7 < (p0.fc.length : Int))))
   ((Bs p0.fc v7).bind fun v10 =>
   Ba (fun (v11 : Bool) =>
    AJ v11
     (some 7)
     (BB N p0 j7 n7 (wI .i64 (v7 + 1))))
   fun j11 =>
   AJ ((decide (v10 < 1)))
    (j11 true)
    (AJ ((decide (6 < v10)))
     (j11 true)
     ((Bs p0.fj v7).bind fun v14 =>
     (Du N v14 v10).bind fun v15 =>
     AJ ((!v15))
      (j11 true)
      ((Bs p0.fq v7).bind fun v17 =>
      (Du N v17 v10).bind fun v18 =>
      j11 (!v18)))))
   (j7 ())
def Bt (N : Nat) (p0 : Aa) (j20 : Unit → Option Int) : Nat → Int → Option Int
 | 0, _ => none
 | n20 + 1, v20 =>
  AJ ((decide (v20 < (p0.fd.length : Int))))
   ((Bs p0.fd v20).bind fun v23 =>
   (Fr N p0 v23).bind fun v24 =>
   AJ ((v24 != 0))
    (some v24)
    (Bt N p0 j20 n20 (wI .i64 (v20 + 1))))
   (j20 ())
def BI (N : Nat) (p0 : Aa) : Option Int :=
 Ba (fun (v1 : Bool) =>
  AJ v1
   (some 3)
   (Ba (fun (v4 : Bool) =>
    AJ v4
     (some 6)
     (BB N p0 (fun (_ : Unit) =>
      Bt N p0 (fun (_ : Unit) =>
       some 0) N 0) N 0))
   fun j4 =>
   AJ (((p0.fj.length : Int) != (p0.fc.length : Int)))
    (j4 true)
    (j4 ((p0.fq.length : Int) != (p0.fc.length : Int)))))
 fun j1 =>
 AJ ((decide (6 < (p0.fc.length : Int))))
  (j1 true)
  (j1 (decide (12 < (p0.fd.length : Int))))
def A8 (N : Nat) (p0 : List Int) (p1 : Int → Option Bool) (j1 : Unit → Option Int) : Nat → Int → Option Int
 | 0, _ => none
 | n1 + 1, v1 =>
  AJ ((decide (v1 < (p0.length : Int))))
   ((Bs p0 v1).bind fun v4 =>
   (p1 v4).bind fun v5 =>
   AJ v5
    (some v1)
    (A8 N p0 p1 j1 n1 (wI .i64 (v1 + 1))))
   (j1 ())
def C7 (N : Nat) (p0 : List Int) (p1 : Int → Option Bool) : Option Int :=
 A8 N p0 p1 (fun (_ : Unit) =>
  some ((-1))) N 0
def B2 (N : Nat) (p0 : List Int) (p1 : Int → Option Bool) : Option Bool :=
 (C7 N p0 p1).bind fun v1 =>
 some ((decide (0 ≤ v1)))
def Eh (_ : Nat) (p0 : Int) : Option Bool :=
 Ba (fun (v1 : Bool) =>
  some v1)
 fun j1 =>
 AJ ((decide (p0 < 1)))
  (j1 true)
  (j1 (decide (4 < p0)))
def EN (N : Nat) (p0 : Aa) (p1 : List Int) : Option Int :=
 AJ (((p1.length : Int) != (p0.fc.length : Int)))
  (some 6)
  ((B2 N p1 ((fun (x : Int) => Eh N x))).bind fun v2 =>
  AJ v2
   (some 7)
   (some 0))
def AV (N : Nat) (p0 : List Ao) (p1 : Ao → Option Bool) (j1 : Unit → Option Int) : Nat → Int → Option Int
 | 0, _ => none
 | n1 + 1, v1 =>
  AJ ((decide (v1 < (p0.length : Int))))
   ((Bs p0 v1).bind fun v4 =>
   (p1 v4).bind fun v5 =>
   AJ v5
    (some v1)
    (AV N p0 p1 j1 n1 (wI .i64 (v1 + 1))))
   (j1 ())
def Bq (N : Nat) (p0 : List Ao) (p1 : Ao → Option Bool) : Option Int :=
 AV N p0 p1 (fun (_ : Unit) =>
  some ((-1))) N 0
def Bi (N : Nat) (p0 : List Ao) (p1 : Ao → Option Bool) : Option Bool :=
 (Bq N p0 p1).bind fun v1 =>
 some ((decide (0 ≤ v1)))
def DR (_ : Nat) (p0 : Ao) : Option Bool :=
 some ((p0.fa == 4))
def B0 (_ : Nat) (p0 : List Int) : Option ((List Int)) :=
 (Fz ((([] : List Int)).length + p0.length ≤ HX)).bind fun _ =>
 some ((([] : List Int)) ++ p0)
def F0 (_ : Nat) (p0 : Int) (p1 : Int) : Option (Int × Int) :=
 some ((wI .u32 ((Ga .u64 ((wI .u64 ((wI .u64 p0) * (wI .u64 p1)))) 32))), (wI .u32 ((wI .u64 ((wI .u64 p0) * (wI .u64 p1))))))
def FY (_ : Nat) (p0 : Int) (p1 : Int) : Option (Int × Int) :=
 some ((wI .u64 ((wI .u64 ((wI .u64 ((Ga .u64 p0 32) * (Ga .u64 p1 32))) + (Ga .u64 ((wI .u64 ((wI .u64 ((Ga .u64 p0 32) * (FW .u64 p1 4294967295))) + (Ga .u64 ((wI .u64 ((FW .u64 p0 4294967295) * (FW .u64 p1 4294967295)))) 32)))) 32))) + (Ga .u64 ((wI .u64 ((FW .u64 ((wI .u64 ((wI .u64 ((Ga .u64 p0 32) * (FW .u64 p1 4294967295))) + (Ga .u64 ((wI .u64 ((FW .u64 p0 4294967295) * (FW .u64 p1 4294967295)))) 32)))) 4294967295) + (wI .u64 ((FW .u64 p0 4294967295) * (Ga .u64 p1 32)))))) 32))), (wI .u64 (p0 * p1)))
def GQ (N : Nat) (p0 : Int) (p1 : Int) : Option (Int × Int) :=
 AJ false
  ((F0 N ((wI .u32 p0)) ((wI .u32 p1))).bind fun v2 =>
  some ((wI .u64 v2.1), (wI .u64 v2.2)))
  ((FY N p0 p1).bind fun v3 =>
  some (v3.1, v3.2))
def C6 (N : Nat) (j9 : ((List Int)) → Option ((List Int))) : Nat → ((List Int) × Int) → Option ((List Int))
 | 0, _ => none
 | n9 + 1, v9 =>
  AJ ((decide (v9.2 < (v9.1.length : Int))))
   ((Fz ((0 : Int) ≤ v9.2 ∧ (v9.2).toNat ≤ v9.1.length ∧ v9.1.length ≤ v9.1.length)).bind fun _ =>
   (Fz ((0 : Int) ≤ v9.2 ∧ 0 ≤ (v9.2).toNat ∧ (v9.2).toNat ≤ v9.1.length)).bind fun _ =>
   C6 N j9 n9 (OC v9.1 ((v9.2).toNat) ((((v9.1.drop 0).take ((v9.2).toNat))).take (yN (((v9.1.drop 0).take ((v9.2).toNat))).length ((v9.1.length - (v9.2).toNat)))), (wI .i64 (v9.2 + (((yN (((v9.1.drop 0).take ((v9.2).toNat))).length ((v9.1.length - (v9.2).toNat))) : Nat) : Int)))))
   (j9 v9.1)
def DP (N : Nat) (p0 : List Int) (p1 : Int) : Option ((List Int)) :=
 Ba (fun (_ : Unit) =>
  (GQ N ((wI .u64 ((p0.length : Int)))) ((wI .u64 p1))).bind fun v3 =>
  Ba (fun (_ : Unit) =>
   (Fz ((0 : Int) ≤ (wI .i64 v3.2) ∧ (wI .i64 v3.2) ≤ (wI .i64 v3.2) ∧ (wI .i64 v3.2) ≤ (HX : Int))).bind fun _ =>
   C6 N (fun (v10 : (List Int)) =>
    some v10) N (OC (zK ((wI .i64 v3.2)).toNat ((0 : Int))) 0 (p0.take (yN p0.length ((zK ((wI .i64 v3.2)).toNat ((0 : Int))).length))), (((yN p0.length ((zK ((wI .i64 v3.2)).toNat ((0 : Int))).length)) : Nat) : Int)))
  fun j4 =>
  Ba (fun (v5 : Bool) =>
   AJ v5
    (none)
    (j4 ()))
  fun j5 =>
  AJ ((decide (0 < v3.1)))
   (j5 true)
   (j5 (decide (9223372036854775807 < v3.2))))
 fun j1 =>
 AJ ((decide (p1 < 0)))
  (none)
  (j1 ())
def E3 (_ : Nat) (p0 : AL) : Option Bool :=
 Ba (fun (v1 : Bool) =>
  some v1)
 fun j1 =>
 AJ ((p0.fa == 3))
  (j1 true)
  (j1 (p0.fa == 4))
def Dn (N : Nat) (p0 : Aa) (j6 : ((List Int)) → Option (Af × Int)) : Nat → ((List Int) × Int) → Option (Af × Int)
 | 0, _ => none
 | n6 + 1, v6 =>
  AJ ((decide (v6.2 < (p0.fd.length : Int))))
   (Ba (fun (v9 : (List Int)) =>
    Dn N p0 j6 n6 (v9, (wI .i64 (v6.2 + 1))))
   fun j9 =>
   (Bs p0.fd v6.2).bind fun v10 =>
   (E3 N v10).bind fun v11 =>
   AJ v11
    ((Bs p0.fj v10.fk).bind fun v13 =>
    (Fz (0 ≤ v13)).bind fun _ =>
    (Bs v6.1 v6.2).bind fun _ =>
    j9 (v6.1.set ((v6.2).toNat) ((DZ .u8 1 v13))))
    (j9 v6.1))
   (j6 v6.1)
def Gg (N : Nat) (p0 : Aa) : Option (Af × Int) :=
 (BI N p0).bind fun v1 =>
 AJ ((v1 != 0))
  (some ((Af.mk (([] : List Int)) (([] : List Int)) (([] : List Int))), v1))
  ((B0 N p0.fj).bind fun v3 =>
  (DP N (([(-1)] : List Int)) ((p0.fj.length : Int))).bind fun v4 =>
  (Fz ((0 : Int) ≤ (p0.fd.length : Int) ∧ (p0.fd.length : Int) ≤ (p0.fd.length : Int) ∧ (p0.fd.length : Int) ≤ (HX : Int))).bind fun _ =>
  Dn N p0 (fun (v7 : (List Int)) =>
   some ((Af.mk v3 v4 v7), 0)) N (zK ((p0.fd.length : Int)).toNat ((0 : Int)), 0))
def Fp (_ : Nat) (p0 : Af) (p1 : Int) : Option Int :=
 (Bs p0.fh p1).bind fun v1 =>
 (Fz (0 ≤ v1)).bind fun _ =>
 Ba (fun (v3 : Int) =>
  some v3)
 fun j3 =>
 (Bs p0.ff p1).bind fun v4 =>
 AJ ((decide (0 ≤ v4)))
  ((Bs p0.ff p1).bind fun v6 =>
  (Fz (0 ≤ v6)).bind fun _ =>
  j3 (LW .u8 ((DZ .u8 1 v1)) ((DZ .u8 1 v6))))
  (j3 (DZ .u8 1 v1))
def Dq (N : Nat) (p0 : Aa) (p1 : Af) (j7 : Unit → Option Int) : Nat → Int → Option Int
 | 0, _ => none
 | n7 + 1, v7 =>
  AJ ((decide (v7 < (p0.fc.length : Int))))
   ((Bs p0.fc v7).bind fun v10 =>
   Ba (fun (v11 : Bool) =>
    AJ v11
     (some 7)
     ((Bs p1.fh v7).bind fun v20 =>
     (Bs p1.ff v7).bind fun v21 =>
     AJ ((v20 == v21))
      (some 1)
      (Dq N p0 p1 j7 n7 (wI .i64 (v7 + 1)))))
   fun j11 =>
   (Bs p1.fh v7).bind fun v12 =>
   AJ ((decide (v12 < 0)))
    (j11 true)
    ((Bs p1.fh v7).bind fun v14 =>
    AJ ((decide (v10 ≤ v14)))
     (j11 true)
     ((Bs p1.ff v7).bind fun v16 =>
     AJ ((decide (v16 < (-1))))
      (j11 true)
      ((Bs p1.ff v7).bind fun v18 =>
      j11 (decide (v10 ≤ v18))))))
   (j7 ())
def C3 (N : Nat) (p0 : Aa) (p1 : Af) (j23 : Unit → Option Int) : Nat → Int → Option Int
 | 0, _ => none
 | n23 + 1, v23 =>
  AJ ((decide (v23 < (p0.fd.length : Int))))
   ((Bs p0.fd v23).bind fun v26 =>
   Ba (fun (v27 : Int × Int) =>
    Ba (fun (v33 : Bool) =>
     AJ v33
      (some 1)
      (C3 N p0 p1 j23 n23 (wI .i64 (v23 + 1))))
    fun j33 =>
    (Bs p1.fg v23).bind fun v34 =>
    AJ (((CA .u8 v27.1 v34) != 0))
     (j33 true)
     ((Bs p1.fg v23).bind fun v36 =>
     j33 ((CA .u8 v36 v27.2) != 0)))
   fun j27 =>
   (E3 N v26).bind fun v28 =>
   AJ v28
    ((Fp N p1 v26.fk).bind fun v30 =>
    (Bs p0.fc v26.fk).bind fun v31 =>
    (Fz (0 ≤ v31)).bind fun _ =>
    j27 (v30, (wI .u8 ((DZ .u8 1 v31) - 1))))
    (j27 (0, 0)))
   (j23 ())
def Fy (N : Nat) (p0 : Aa) (p1 : Af) : Option Int :=
 (BI N p0).bind fun v1 =>
 AJ ((v1 != 0))
  (some v1)
  (Ba (fun (v3 : Bool) =>
   AJ v3
    (some 6)
    (Dq N p0 p1 (fun (_ : Unit) =>
     C3 N p0 p1 (fun (_ : Unit) =>
      some 0) N 0) N 0))
  fun j3 =>
  AJ (((p1.fh.length : Int) != (p0.fc.length : Int)))
   (j3 true)
   (AJ (((p1.ff.length : Int) != (p0.fc.length : Int)))
    (j3 true)
    (j3 ((p1.fg.length : Int) != (p0.fd.length : Int)))))
def BX (_ : Nat) (p0 : List Int) : Option ((List Int)) :=
 (Fz ((([] : List Int)).length + p0.length ≤ HX)).bind fun _ =>
 some ((([] : List Int)) ++ p0)
def EB (N : Nat) (p0 : Af) : Option Af :=
 (B0 N p0.fh).bind fun v1 =>
 (B0 N p0.ff).bind fun v2 =>
 (BX N p0.fg).bind fun v3 =>
 some ((Af.mk v1 v2 v3))
def FM (_ : Nat) (p0 : Ao) : Option Bool :=
 Ba (fun (v1 : Bool) =>
  AJ v1
   (some false)
   (Ba (fun (v5 : Bool) =>
    some v5)
   fun j5 =>
   AJ ((p0.fa == 1))
    (j5 true)
    (j5 (p0.fr == 0))))
 fun j1 =>
 AJ ((decide ((S9 p0.fm p0.fr) < 0)))
  (j1 true)
  (AJ ((decide (p0.fa < 1)))
   (j1 true)
   (j1 (decide (4 < p0.fa))))
def Fo (_ : Nat) (p0 : Aa) (p1 : Ao) : Option Bool :=
 AJ ((p1.fa == 3))
  (some ((decide (p1.fm < (p0.fd.length : Int)))))
  (Ba (fun (v2 : Bool) =>
   some v2)
  fun j2 =>
  AJ ((decide (p1.fm < (p0.fc.length : Int))))
   (AJ ((p1.fa != 1))
    (j2 true)
    ((Bs p0.fc p1.fm).bind fun v5 =>
    j2 (decide (p1.fr < v5))))
   (j2 false))
def EK (_ : Nat) (p0 : AL) : Option Bool :=
 Ba (fun (v1 : Bool) =>
  some v1)
 fun j1 =>
 AJ ((p0.fa == 3))
  (j1 true)
  (j1 (p0.fa == 4))
def CW (N : Nat) (p0 : Aa) (p2 : Ao) (j7 : ((List Int)) → Option (Bool × (List Int) × (List Int))) : Nat → ((List Int) × Int) → Option (Bool × (List Int) × (List Int))
 | 0, _ => none
 | n7 + 1, v7 =>
  AJ ((decide (v7.2 < (p0.fd.length : Int))))
   (Ba (fun (v10 : (List Int)) =>
    CW N p0 p2 j7 n7 (v10, (wI .i64 (v7.2 + 1))))
   fun j10 =>
   (Bs p0.fd v7.2).bind fun v11 =>
   Ba (fun (v12 : Bool) =>
    AJ v12
     ((Bs v7.1 v7.2).bind fun v16 =>
     (Fz (0 ≤ p2.fr)).bind fun _ =>
     (Bs v7.1 v7.2).bind fun _ =>
     j10 (v7.1.set ((v7.2).toNat) ((LW .u8 v16 ((DZ .u8 1 p2.fr))))))
     (j10 v7.1))
   fun j12 =>
   AJ ((v11.fk == p2.fm))
    ((EK N v11).bind fun v14 =>
    j12 v14)
    (j12 false))
   (j7 v7.1)
def GW (N : Nat) (p0 : Aa) (p1 : Af) (p2 : Ao) : Option (Bool × (List Int) × (List Int)) :=
 Ba (fun (v1 : Bool) =>
  AJ v1
   (some (false, p1.ff, p1.fg))
   ((Bs p1.ff p2.fm).bind fun _ =>
   CW N p0 p2 (fun (v8 : (List Int)) =>
    some (true, p1.ff.set ((p2.fm).toNat) p2.fr, v8)) N (p1.fg, 0)))
 fun j1 =>
 (Bs p1.ff p2.fm).bind fun v2 =>
 AJ ((decide (0 ≤ v2)))
  (j1 true)
  ((Bs p1.fh p2.fm).bind fun v4 =>
  j1 (v4 == p2.fr))
def EW (_ : Nat) (p0 : Af) (p1 : Int) : Option Int :=
 (Bs p0.fh p1).bind fun v1 =>
 (Fz (0 ≤ v1)).bind fun _ =>
 Ba (fun (v3 : Int) =>
  some v3)
 fun j3 =>
 (Bs p0.ff p1).bind fun v4 =>
 AJ ((decide (0 ≤ v4)))
  ((Bs p0.ff p1).bind fun v6 =>
  (Fz (0 ≤ v6)).bind fun _ =>
  j3 (LW .u8 ((DZ .u8 1 v1)) ((DZ .u8 1 v6))))
  (j3 (DZ .u8 1 v1))
def Cf (_ : Nat) (p0 : Int) : Option Int :=
 (Un ((⟨⟨(List.append (List.append [8, 0, 1, 0, 2, 0, 1, 0, 3, 0, 1, 0, 2, 0, 1, 0, 4, 0, 1, 0, 2, 0, 1, 0, 3, 0, 1, 0, 2, 0, 1, 0, 5, 0, 1, 0, 2, 0, 1, 0, 3, 0, 1, 0, 2, 0, 1, 0, 4, 0, 1, 0, 2, 0, 1, 0, 3, 0, 1, 0, 2, 0, 1, 0] [6, 0, 1, 0, 2, 0, 1, 0, 3, 0, 1, 0, 2, 0, 1, 0, 4, 0, 1, 0, 2, 0, 1, 0, 3, 0, 1, 0, 2, 0, 1, 0, 5, 0, 1, 0, 2, 0, 1, 0, 3, 0, 1, 0, 2, 0, 1, 0, 4, 0, 1, 0, 2, 0, 1, 0, 3, 0, 1, 0, 2, 0, 1, 0]) (List.append [7, 0, 1, 0, 2, 0, 1, 0, 3, 0, 1, 0, 2, 0, 1, 0, 4, 0, 1, 0, 2, 0, 1, 0, 3, 0, 1, 0, 2, 0, 1, 0, 5, 0, 1, 0, 2, 0, 1, 0, 3, 0, 1, 0, 2, 0, 1, 0, 4, 0, 1, 0, 2, 0, 1, 0, 3, 0, 1, 0, 2, 0, 1, 0] [6, 0, 1, 0, 2, 0, 1, 0, 3, 0, 1, 0, 2, 0, 1, 0, 4, 0, 1, 0, 2, 0, 1, 0, 3, 0, 1, 0, 2, 0, 1, 0, 5, 0, 1, 0, 2, 0, 1, 0, 3, 0, 1, 0, 2, 0, 1, 0, 4, 0, 1, 0, 2, 0, 1, 0, 3, 0, 1, 0, 2, 0, 1, 0]))⟩⟩ : ByteArray)) p0).bind fun v1 =>
 some ((wI .i64 v1))
def CJ (N : Nat) (p0 : AL) (p2 : Int) (j1 : Unit → Option Bool) : Nat → Int → Option Bool
 | 0, _ => none
 | n1 + 1, v1 =>
  AJ ((v1 != 0))
   ((Cf N v1).bind fun v4 =>
   (Bs p0.fw v4).bind fun v5 =>
   (Bs v5 p2).bind fun v6 =>
   AJ ((!v6))
    (some false)
    (CJ N p0 p2 j1 n1 (FW .u8 v1 ((wI .u8 (v1 - 1))))))
   (j1 ())
def EV (N : Nat) (p0 : AL) (p1 : Int) (p2 : Int) : Option Bool :=
 CJ N p0 p2 (fun (_ : Unit) =>
  some true) N p1
def FK (N : Nat) (p0 : Aa) (p1 : Af) (p2 : Int) : Option (Bool × (List Int)) :=
 (Bs p0.fd p2).bind fun v1 =>
 (EK N v1).bind fun v2 =>
 AJ ((!v2))
  (some (false, p1.fg))
  ((EW N p1 v1.fk).bind fun v4 =>
  (Bs p1.fg p2).bind fun v5 =>
  Ba (fun (v6 : Bool) =>
   AJ v6
    (some (false, p1.fg))
    ((Bs p1.fg p2).bind fun _ =>
    some (true, p1.fg.set ((p2).toNat) v4)))
  fun j6 =>
  (Bs p1.fg p2).bind fun v7 =>
  AJ ((v7 == v4))
   (j6 true)
   (AJ ((v1.fa == 4))
    ((Bs p1.fh v1.fk).bind fun v10 =>
    (EV N v1 ((CA .u8 v5 v4)) v10).bind fun v11 =>
    j6 (!v11))
    (j6 false)))
def FL (N : Nat) (p0 : Aa) (p1 : Af) (p2 : Ao) : Option (Af × Bool) :=
 (EB N p1).bind fun v1 =>
 AJ ((p2.fa == 1))
  ((GW N p0 v1 p2).bind fun v3 =>
  some ((Af.mk v1.fh v3.2.1 v3.2.2), v3.1))
  (AJ ((p2.fa == 3))
   ((FK N p0 v1 p2.fm).bind fun v5 =>
   some ((Af.mk v1.fh v1.ff v5.2), v5.1))
   ((Bs v1.ff p2.fm).bind fun v6 =>
   AJ ((decide (v6 < 0)))
    (some (v1, false))
    ((Bs v1.ff p2.fm).bind fun _ =>
    Ba (fun (v9 : (List Int)) =>
     some ((Af.mk v9 (v1.ff.set ((p2.fm).toNat) ((-1))) v1.fg), true))
    fun j9 =>
    AJ ((p2.fa == 2))
     ((Bs v1.fh p2.fm).bind fun _ =>
     j9 (v1.fh.set ((p2.fm).toNat) v6))
     (j9 v1.fh))))
def E4 (N : Nat) (p0 : Aa) (p1 : Af) (p2 : Ao) : Option (Af × Int) :=
 (FM N p2).bind fun v1 =>
 AJ ((!v1))
  (some ((Af.mk (([] : List Int)) (([] : List Int)) (([] : List Int))), 1))
  ((Fo N p0 p2).bind fun v3 =>
  AJ ((!v3))
   (some ((Af.mk (([] : List Int)) (([] : List Int)) (([] : List Int))), 4))
   ((FL N p0 p1 p2).bind fun v5 =>
   AJ ((!v5.2))
    (some ((Af.mk (([] : List Int)) (([] : List Int)) (([] : List Int))), 11))
    (some (v5.1, 0))))
def EG (N : Nat) (p0 : Aa) (p2 : List Ao) (j4 : ((List Af)) → Option ((List Af) × Int × Int)) : Nat → ((List Af) × Int) → Option ((List Af) × Int × Int)
 | 0, _ => none
 | n4 + 1, v4 =>
  AJ ((decide (v4.2 < (p2.length : Int))))
   ((Bs p2 v4.2).bind fun v7 =>
   (Bs v4.1 v4.2).bind fun v8 =>
   (E4 N p0 v8 v7).bind fun v9 =>
   AJ ((v9.2 != 0))
    (some (([] : List Af), v4.2, v9.2))
    ((Fz (v4.1.length + (([v9.1] : List Af)).length ≤ HX)).bind fun _ =>
    EG N p0 p2 j4 n4 (v4.1 ++ (([v9.1] : List Af)), (wI .i64 (v4.2 + 1)))))
   (j4 v4.1)
def Ha (N : Nat) (p0 : Aa) (p1 : Af) (p2 : List Ao) : Option ((List Af) × Int × Int) :=
 (Fy N p0 p1).bind fun v1 =>
 AJ ((v1 != 0))
  (some (([] : List Af), 0, v1))
  ((EB N p1).bind fun v3 =>
  EG N p0 p2 (fun (v5 : (List Af)) =>
   some (v5, (p2.length : Int), 0)) N (([v3] : List Af), 0))
def DE (N : Nat) (p0 : Aa) (p1 : List Ao) : Option (Af × Int) :=
 (Bi N p1 ((fun (x : Ao) => DR N x))).bind fun v1 =>
 AJ v1
  (some ((Af.mk (([] : List Int)) (([] : List Int)) (([] : List Int))), 1))
  ((Gg N p0).bind fun v3 =>
  AJ ((v3.2 != 0))
   (some ((Af.mk (([] : List Int)) (([] : List Int)) (([] : List Int))), v3.2))
   ((Ha N p0 v3.1 p1).bind fun v5 =>
   some (v3.1, v5.2.2)))
def E7 (_ : Nat) (p0 : Int) : Option ByteArray :=
 Ba (fun (v1 : Bool) =>
  AJ v1
   (some ((⟨#[]⟩ : ByteArray)))
   ((Bs ([⟨#[]⟩, (⟨#[114, 101, 97, 100]⟩ : ByteArray), (⟨#[98, 101, 103, 105, 110]⟩ : ByteArray), (⟨#[100, 111, 110, 101]⟩ : ByteArray), (⟨#[97, 98, 111, 114, 116]⟩ : ByteArray), (⟨#[114, 101, 115, 117, 109, 101]⟩ : ByteArray), (⟨#[115, 119, 105, 116, 99, 104]⟩ : ByteArray), (⟨#[108, 101, 97, 115, 101]⟩ : ByteArray)] : List ByteArray) p0).bind fun v4 =>
   some v4))
 fun j1 =>
 AJ ((decide (p0 < 0)))
  (j1 true)
  (j1 (decide (8 ≤ p0)))
def D7 (_ : Nat) (p0 : Ab) : Option ((List Int)) :=
 AJ ((p0.fa == 1))
  (some (([p0.fD, p0.fE, p0.fK] : List Int)))
  (AJ ((p0.fa == 6))
   (some (([p0.fv, p0.fr, p0.fI] : List Int)))
   (AJ ((p0.fa == 7))
    (some (([p0.fO, p0.fu] : List Int)))
    (some (([p0.fm, p0.fu] : List Int)))))
def EI (_ : Nat) (p0 : Int) (p1 : Int) (p2 : List Int) : Option Ab :=
 Ba (fun (v1 : Int × Int × Int × Int × Int × Int × Int × Int × Int) =>
  some ((Ab.mk p0 p1 v1.1 v1.2.1 v1.2.2.1 v1.2.2.2.1 v1.2.2.2.2.1 v1.2.2.2.2.2.1 v1.2.2.2.2.2.2.1 v1.2.2.2.2.2.2.2.1 v1.2.2.2.2.2.2.2.2)))
 fun j1 =>
 AJ ((p1 == 1))
  ((Bs p2 0).bind fun v3 =>
  (Bs p2 1).bind fun v4 =>
  (Bs p2 2).bind fun v5 =>
  j1 (v3, v4, v5, 0, 0, 0, 0, 0, 0))
  (AJ ((p1 == 6))
   ((Bs p2 0).bind fun v7 =>
   (Bs p2 1).bind fun v8 =>
   (Bs p2 2).bind fun v9 =>
   j1 (0, 0, 0, 0, 0, v9, v7, v8, 0))
   (AJ ((p1 == 7))
    ((Bs p2 0).bind fun v11 =>
    (Bs p2 1).bind fun v12 =>
    j1 (0, 0, 0, 0, v12, 0, 0, 0, v11))
    ((Bs p2 0).bind fun v13 =>
    (Bs p2 1).bind fun v14 =>
    j1 (0, 0, 0, v13, v14, 0, 0, 0, 0))))
def A5 (N : Nat) (p0 : List Int) (p1 : Int → Option Bool) (j1 : Unit → Option Int) : Nat → Int → Option Int
 | 0, _ => none
 | n1 + 1, v1 =>
  AJ ((decide (v1 < (p0.length : Int))))
   ((Bs p0 v1).bind fun v4 =>
   (p1 v4).bind fun v5 =>
   AJ v5
    (some v1)
    (A5 N p0 p1 j1 n1 (wI .i64 (v1 + 1))))
   (j1 ())
def Co (N : Nat) (p0 : List Int) (p1 : Int → Option Bool) : Option Int :=
 A5 N p0 p1 (fun (_ : Unit) =>
  some ((-1))) N 0
def Bk (N : Nat) (p0 : List Int) (p1 : Int → Option Bool) : Option Bool :=
 (Co N p0 p1).bind fun v1 =>
 some ((decide (0 ≤ v1)))
def Ed (_ : Nat) (p0 : Int) : Option Bool :=
 some ((decide (p0 < 0)))
def Ft (N : Nat) (p0 : Ab) : Option Bool :=
 Ba (fun (v1 : Bool) =>
  AJ v1
   (some false)
   ((D7 N p0).bind fun v5 =>
   Ba (fun (v6 : Bool) =>
    some v6)
   fun j6 =>
   (EI N p0.fi p0.fa v5).bind fun v7 =>
   AJ (((p0.fi == v7.fi) && ((p0.fa == v7.fa) && ((p0.fD == v7.fD) && ((p0.fE == v7.fE) && ((p0.fK == v7.fK) && ((p0.fm == v7.fm) && ((p0.fu == v7.fu) && ((p0.fI == v7.fI) && ((p0.fv == v7.fv) && ((p0.fr == v7.fr) && ((p0.fO == v7.fO) && true))))))))))))
    ((Bk N v5 ((fun (x : Int) => Ed N x))).bind fun v9 =>
    j6 (!v9))
    (j6 false)))
 fun j1 =>
 (E7 N p0.fa).bind fun v2 =>
 AJ ((v2.toList == ((⟨#[]⟩ : ByteArray)).toList))
  (j1 true)
  (j1 (decide (p0.fi < 0)))
def D2 (N : Nat) (p0 : List Ab) (j2 : Unit → Option Int) : Nat → Int → Option Int
 | 0, _ => none
 | n2 + 1, v2 =>
  AJ ((decide (v2 < (p0.length : Int))))
   ((Bs p0 v2).bind fun v5 =>
   Ba (fun (v6 : Bool) =>
    AJ v6
     (some 1)
     (D2 N p0 j2 n2 (wI .i64 (v2 + 1))))
   fun j6 =>
   (Ft N v5).bind fun v7 =>
   AJ ((!v7))
    (j6 true)
    (AJ ((decide (0 < v2)))
     ((Bs p0 ((wI .i64 (v2 - 1)))).bind fun v10 =>
     j6 (decide (v5.fi < v10.fi)))
     (j6 false)))
   (j2 ())
def CQ (N : Nat) (p0 : List Ab) : Option Int :=
 AJ ((decide (10000 < (p0.length : Int))))
  (some 3)
  (D2 N p0 (fun (_ : Unit) =>
   some 0) N 0)
def DL (_ : Nat) : Option AB :=
 some ((AB.mk 0 0 false (([] : List (Int × Int)))))
def DN (_ : Nat) (p0 : Aa) (p1 : Ab) : Option Bool :=
 AJ ((decide ((p0.fd.length : Int) ≤ p1.fD)))
  (some false)
  ((Bs p0.fd p1.fD).bind fun v2 =>
  Ba (fun (v3 : Bool) =>
   some v3)
  fun j3 =>
  AJ ((decide (p1.fE < (v2.fJ.length : Int))))
   ((Bs p0.fc v2.fF).bind fun v5 =>
   AJ ((decide (p1.fK < v5)))
    ((Bs v2.fJ p1.fE).bind fun v7 =>
    (Bs v7 p1.fK).bind fun v8 =>
    j3 v8)
    (j3 false))
   (j3 false))
def Do (_ : Nat) (p0 : Ab) : Option Bool :=
 Ba (fun (v1 : Bool) =>
  some v1)
 fun j1 =>
 AJ ((decide (2 ≤ p0.fa)))
  (j1 (decide (p0.fa ≤ 5)))
  (j1 false)
def BJ (_ : Nat) (p0 : Ai) (p1 : Ab) : Option Bool :=
 Ba (fun (v1 : Bool) =>
  AJ v1
   (some false)
   (AJ ((p1.fa == 2))
    (some ((p0.fC == 0)))
    (AJ ((p1.fa == 3))
     (some ((p0.fC == 1)))
     (AJ ((p1.fa == 4))
      (Ba (fun (v7 : Bool) =>
       some v7)
      fun j7 =>
      AJ ((p0.fC == 1))
       ((Bs p0.ft p0.fi).bind fun v9 =>
       j7 (v9.fa == 1))
       (j7 false))
      (some ((p0.fC == 2)))))))
 fun j1 =>
 AJ ((p1.fm != p0.fi))
  (j1 true)
  (j1 (decide ((p0.ft.length : Int) ≤ p0.fi)))
def CH (N : Nat) (p0 : AB) (p1 : Ab) : Option (Bool × AB × (List (Int × Int))) :=
 Ba (fun (v1 : (List (Int × Int)) × Int × Int × Bool) =>
  some (true, (AB.mk v1.2.1 v1.2.2.1 v1.2.2.2 v1.1), v1.1))
 fun j1 =>
 (Do N p1).bind fun v2 =>
 AJ v2
  (AJ ((decide (p1.fu < p0.fy)))
   (some (false, p0, p0.fG))
   (j1 (p0.fG, p1.fu, p0.fA, p0.fB)))
  (AJ ((p1.fa == 6))
   (AJ ((decide (p1.fI < ((FX p1.fv p0.fG).getD 0))))
    (some (false, p0, p0.fG))
    (j1 (Jc p1.fv p1.fI p0.fG, p0.fy, p0.fA, p0.fB)))
   (AJ ((p1.fa == 7))
    (Ba (fun (v8 : Bool) =>
     AJ v8
      (some (false, p0, p0.fG))
      (j1 (p0.fG, p0.fy, p1.fu, true)))
    fun j8 =>
    AJ p0.fB
     (j8 (decide (p1.fu ≤ p0.fA)))
     (j8 false))
    (j1 (p0.fG, p0.fy, p0.fA, p0.fB))))
def D4 (N : Nat) (p0 : List Int) (j1 : Unit → Option Int) : Nat → (Int × Int) → Option Int
 | 0, _ => none
 | n1 + 1, v1 =>
  AJ ((decide (v1.2 < (p0.length : Int))))
   ((Bs p0 v1.2).bind fun v4 =>
   AJ ((decide (v1.1 < v4)))
    (some v1.2)
    (D4 N p0 j1 n1 ((wI .i64 (v1.1 - v4)), (wI .i64 (v1.2 + 1)))))
   (j1 ())
def EM (N : Nat) (p0 : List Int) (p1 : Int) : Option Int :=
 D4 N p0 (fun (_ : Unit) =>
  some ((-1))) N (p1, 0)
def Cw (_ : Nat) (p0 : Af) (p1 : Int) (p2 : Int) : Option Bool :=
 Ba (fun (v1 : Bool) =>
  some v1)
 fun j1 =>
 (Bs p0.fh p1).bind fun v2 =>
 AJ ((v2 == p2))
  (j1 true)
  ((Bs p0.ff p1).bind fun v4 =>
  j1 (v4 == p2))
def Eb (N : Nat) (p0 : Aa) (p1 : Af) (p2 : Ab) : Option Bool :=
 (Bs p0.fd p2.fD).bind fun v1 =>
 (Cw N p1 v1.fF p2.fK).bind fun v2 =>
 AJ ((!v2))
  (some false)
  (Ba (fun (v4 : Bool) =>
   AJ v4
    ((Bs p1.fg p2.fD).bind fun v7 =>
    (Fz (0 ≤ p2.fE)).bind fun _ =>
    some (((FW .u8 ((Ga .u8 v7 p2.fE)) 1) == 1)))
    ((Cw N p1 v1.fk p2.fE).bind fun v9 =>
    some v9))
  fun j4 =>
  AJ ((v1.fa == 3))
   (j4 true)
   (j4 (v1.fa == 4)))
def FN (N : Nat) (p0 : Aa) (p1 : Af) (p2 : Ao) : Option (Af × Int) :=
 (Fy N p0 p1).bind fun v1 =>
 AJ ((v1 != 0))
  (some ((Af.mk (([] : List Int)) (([] : List Int)) (([] : List Int))), v1))
  ((E4 N p0 p1 p2).bind fun v3 =>
  some (v3.1, v3.2))
def Ca (N : Nat) (p0 : Ai) (p1 : Ao) : Option Ai :=
 (FN N ((Aa.mk p0.fb.fc p0.fb.fj p0.fb.fq p0.fb.fd)) ((Af.mk p0.fe.fh p0.fe.ff p0.fe.fg)) p1).bind fun v1 =>
 AJ ((v1.2 == 0))
  (some ((Ai.mk ((Aa.mk p0.fb.fc p0.fb.fj p0.fb.fq p0.fb.fd)) p0.ft p0.fi p0.fC v1.1)))
  (some ((Ai.mk ((Aa.mk p0.fb.fc p0.fb.fj p0.fb.fq p0.fb.fd)) p0.ft p0.fi p0.fC ((Af.mk p0.fe.fh p0.fe.ff p0.fe.fg)))))
def BC (N : Nat) (p0 : Ai) (p1 : Ab) : Option Ai :=
 (Bs p0.ft p0.fi).bind fun v1 =>
 AJ ((p1.fa == 2))
  (AJ ((v1.fa == 1))
   ((Ca N ((Ai.mk ((Aa.mk p0.fb.fc p0.fb.fj p0.fb.fq p0.fb.fd)) p0.ft p0.fi 1 ((Af.mk p0.fe.fh p0.fe.ff p0.fe.fg)))) v1).bind fun v4 =>
   some ((Ai.mk ((Aa.mk v4.fb.fc v4.fb.fj v4.fb.fq v4.fb.fd)) v4.ft v4.fi v4.fC ((Af.mk v4.fe.fh v4.fe.ff v4.fe.fg)))))
   (some ((Ai.mk ((Aa.mk p0.fb.fc p0.fb.fj p0.fb.fq p0.fb.fd)) p0.ft p0.fi 1 ((Af.mk p0.fe.fh p0.fe.ff p0.fe.fg))))))
  (AJ ((p1.fa == 3))
   (Ba (fun (v6 : Ai) =>
    some ((Ai.mk ((Aa.mk v6.fb.fc v6.fb.fj v6.fb.fq v6.fb.fd)) v6.ft ((wI .i64 (v6.fi + 1))) 0 ((Af.mk v6.fe.fh v6.fe.ff v6.fe.fg)))))
   fun j6 =>
   AJ ((v1.fa != 1))
    ((Ca N ((Ai.mk ((Aa.mk p0.fb.fc p0.fb.fj p0.fb.fq p0.fb.fd)) p0.ft p0.fi p0.fC ((Af.mk p0.fe.fh p0.fe.ff p0.fe.fg)))) v1).bind fun v8 =>
    j6 (Ai.mk ((Aa.mk v8.fb.fc v8.fb.fj v8.fb.fq v8.fb.fd)) v8.ft v8.fi v8.fC ((Af.mk v8.fe.fh v8.fe.ff v8.fe.fg))))
    (j6 (Ai.mk ((Aa.mk p0.fb.fc p0.fb.fj p0.fb.fq p0.fb.fd)) p0.ft p0.fi p0.fC ((Af.mk p0.fe.fh p0.fe.ff p0.fe.fg)))))
   (AJ ((p1.fa == 4))
    (some ((Ai.mk ((Aa.mk p0.fb.fc p0.fb.fj p0.fb.fq p0.fb.fd)) p0.ft p0.fi 2 ((Af.mk p0.fe.fh p0.fe.ff p0.fe.fg)))))
    (AJ ((p1.fa == 5))
     ((Ca N ((Ai.mk ((Aa.mk p0.fb.fc p0.fb.fj p0.fb.fq p0.fb.fd)) p0.ft p0.fi 0 ((Af.mk p0.fe.fh p0.fe.ff p0.fe.fg)))) ((Ao.mk 4 v1.fm 0))).bind fun v11 =>
     some ((Ai.mk ((Aa.mk v11.fb.fc v11.fb.fj v11.fb.fq v11.fb.fd)) v11.ft v11.fi v11.fC ((Af.mk v11.fe.fh v11.fe.ff v11.fe.fg)))))
     (some ((Ai.mk ((Aa.mk p0.fb.fc p0.fb.fj p0.fb.fq p0.fb.fd)) p0.ft p0.fi p0.fC ((Af.mk p0.fe.fh p0.fe.ff p0.fe.fg))))))))
def DF (N : Nat) (p0 : Ai) (p1 : AB) (p2 : List Int) (p3 : Ab) : Option (Int × Ai × AB × (List (Int × Int))) :=
 Ba (fun (v1 : (List (Int × Int)) × Ai × Int × Int × Bool) =>
  some (0, (Ai.mk ((Aa.mk v1.2.1.fb.fc v1.2.1.fb.fj v1.2.1.fb.fq v1.2.1.fb.fd)) v1.2.1.ft v1.2.1.fi v1.2.1.fC ((Af.mk v1.2.1.fe.fh v1.2.1.fe.ff v1.2.1.fe.fg))), (AB.mk v1.2.2.1 v1.2.2.2.1 v1.2.2.2.2 v1.1), v1.1))
 fun j1 =>
 Ba (fun (v2 : Bool) =>
  AJ v2
   (some (1, (Ai.mk ((Aa.mk p0.fb.fc p0.fb.fj p0.fb.fq p0.fb.fd)) p0.ft p0.fi p0.fC ((Af.mk p0.fe.fh p0.fe.ff p0.fe.fg))), p1, p1.fG))
   (Ba (fun (v6 : Bool) =>
    AJ v6
     (some (2, (Ai.mk ((Aa.mk p0.fb.fc p0.fb.fj p0.fb.fq p0.fb.fd)) p0.ft p0.fi p0.fC ((Af.mk p0.fe.fh p0.fe.ff p0.fe.fg))), p1, p1.fG))
     ((CH N p1 p3).bind fun v11 =>
     AJ ((!v11.1))
      (some (3, (Ai.mk ((Aa.mk p0.fb.fc p0.fb.fj p0.fb.fq p0.fb.fd)) p0.ft p0.fi p0.fC ((Af.mk p0.fe.fh p0.fe.ff p0.fe.fg))), (AB.mk v11.2.1.fy v11.2.1.fA v11.2.1.fB v11.2.2), v11.2.2))
      (AJ ((p3.fa == 6))
       ((EM N p2 p3.fv).bind fun v14 =>
       Ba (fun (v15 : Bool) =>
        AJ v15
         (some (4, (Ai.mk ((Aa.mk p0.fb.fc p0.fb.fj p0.fb.fq p0.fb.fd)) p0.ft p0.fi p0.fC ((Af.mk p0.fe.fh p0.fe.ff p0.fe.fg))), (AB.mk v11.2.1.fy v11.2.1.fA v11.2.1.fB v11.2.2), v11.2.2))
         (j1 (v11.2.2, (Ai.mk ((Aa.mk p0.fb.fc p0.fb.fj p0.fb.fq p0.fb.fd)) p0.ft p0.fi p0.fC ((Af.mk p0.fe.fh p0.fe.ff p0.fe.fg))), v11.2.1.fy, v11.2.1.fA, v11.2.1.fB)))
       fun j15 =>
       AJ ((decide (v14 < 0)))
        (j15 true)
        ((Cw N ((Af.mk p0.fe.fh p0.fe.ff p0.fe.fg)) v14 p3.fr).bind fun v17 =>
        j15 (!v17)))
       (AJ ((p3.fa == 1))
        ((Eb N ((Aa.mk p0.fb.fc p0.fb.fj p0.fb.fq p0.fb.fd)) ((Af.mk p0.fe.fh p0.fe.ff p0.fe.fg)) p3).bind fun v20 =>
        AJ ((!v20))
         (some (5, (Ai.mk ((Aa.mk p0.fb.fc p0.fb.fj p0.fb.fq p0.fb.fd)) p0.ft p0.fi p0.fC ((Af.mk p0.fe.fh p0.fe.ff p0.fe.fg))), (AB.mk v11.2.1.fy v11.2.1.fA v11.2.1.fB v11.2.2), v11.2.2))
         (j1 (v11.2.2, (Ai.mk ((Aa.mk p0.fb.fc p0.fb.fj p0.fb.fq p0.fb.fd)) p0.ft p0.fi p0.fC ((Af.mk p0.fe.fh p0.fe.ff p0.fe.fg))), v11.2.1.fy, v11.2.1.fA, v11.2.1.fB)))
        ((Do N p3).bind fun v22 =>
        AJ v22
         ((BC N ((Ai.mk ((Aa.mk p0.fb.fc p0.fb.fj p0.fb.fq p0.fb.fd)) p0.ft p0.fi p0.fC ((Af.mk p0.fe.fh p0.fe.ff p0.fe.fg)))) p3).bind fun v24 =>
         j1 (v11.2.2, (Ai.mk ((Aa.mk v24.fb.fc v24.fb.fj v24.fb.fq v24.fb.fd)) v24.ft v24.fi v24.fC ((Af.mk v24.fe.fh v24.fe.ff v24.fe.fg))), v11.2.1.fy, v11.2.1.fA, v11.2.1.fB))
         (j1 (v11.2.2, (Ai.mk ((Aa.mk p0.fb.fc p0.fb.fj p0.fb.fq p0.fb.fd)) p0.ft p0.fi p0.fC ((Af.mk p0.fe.fh p0.fe.ff p0.fe.fg))), v11.2.1.fy, v11.2.1.fA, v11.2.1.fB)))))))
   fun j6 =>
   (Do N p3).bind fun v7 =>
   AJ v7
    ((BJ N ((Ai.mk ((Aa.mk p0.fb.fc p0.fb.fj p0.fb.fq p0.fb.fd)) p0.ft p0.fi p0.fC ((Af.mk p0.fe.fh p0.fe.ff p0.fe.fg)))) p3).bind fun v9 =>
    j6 (!v9))
    (j6 false)))
 fun j2 =>
 AJ ((p3.fa == 1))
  ((DN N ((Aa.mk p0.fb.fc p0.fb.fj p0.fb.fq p0.fb.fd)) p3).bind fun v4 =>
  j2 (!v4))
  (j2 false)
def DH (N : Nat) (p1 : List Int) (p3 : List Ab) (j11 : Ai → Option (Int × Int × (Option Ai) × Int)) : Nat → (Ai × Int × Int × Bool × (List (Int × Int)) × Int) → Option (Int × Int × (Option Ai) × Int)
 | 0, _ => none
 | n11 + 1, v11 =>
  AJ ((decide (v11.2.2.2.2.2 < (p3.length : Int))))
   ((Bs p3 v11.2.2.2.2.2).bind fun v14 =>
   (DF N ((Ai.mk ((Aa.mk v11.1.fb.fc v11.1.fb.fj v11.1.fb.fq v11.1.fb.fd)) v11.1.ft v11.1.fi v11.1.fC ((Af.mk v11.1.fe.fh v11.1.fe.ff v11.1.fe.fg)))) ((AB.mk v11.2.1 v11.2.2.1 v11.2.2.2.1 v11.2.2.2.2.1)) p1 v14).bind fun v15 =>
   AJ ((v15.1 != 0))
    (some (v11.2.2.2.2.2, v15.1, (none : Option Ai), 0))
    (DH N p1 p3 j11 n11 ((Ai.mk ((Aa.mk v15.2.1.fb.fc v15.2.1.fb.fj v15.2.1.fb.fq v15.2.1.fb.fd)) v15.2.1.ft v15.2.1.fi v15.2.1.fC ((Af.mk v15.2.1.fe.fh v15.2.1.fe.ff v15.2.1.fe.fg))), v15.2.2.1.fy, v15.2.2.1.fA, v15.2.2.1.fB, v15.2.2.2, (wI .i64 (v11.2.2.2.2.2 + 1)))))
   (j11 (Ai.mk ((Aa.mk v11.1.fb.fc v11.1.fb.fj v11.1.fb.fq v11.1.fb.fd)) v11.1.ft v11.1.fi v11.1.fC ((Af.mk v11.1.fe.fh v11.1.fe.ff v11.1.fe.fg))))
def Fu (N : Nat) (p0 : Aa) (p1 : List Int) (p2 : List Ao) (p3 : List Ab) : Option (Int × Int × (Option Ai) × Int) :=
 (BI N p0).bind fun v1 =>
 AJ ((v1 != 0))
  (some (0, 0, (none : Option Ai), v1))
  ((EN N p0 p1).bind fun v3 =>
  AJ ((v3 != 0))
   (some (0, 0, (none : Option Ai), v3))
   ((DE N p0 p2).bind fun v5 =>
   Ba (fun (v6 : Int) =>
    AJ ((v6 != 0))
     (some (0, 0, (none : Option Ai), v6))
     ((DL N).bind fun v10 =>
     DH N p1 p3 (fun (v12 : Ai) =>
      some (0, 0, (some ((Ai.mk ((Aa.mk v12.fb.fc v12.fb.fj v12.fb.fq v12.fb.fd)) v12.ft v12.fi v12.fC ((Af.mk v12.fe.fh v12.fe.ff v12.fe.fg))))), 15)) N ((Ai.mk p0 p2 0 0 v5.1), v10.fy, v10.fA, v10.fB, v10.fG, 0)))
   fun j6 =>
   AJ ((v5.2 == 0))
    ((CQ N p3).bind fun v8 =>
    j6 v8)
    (j6 v5.2)))
def DW (N : Nat) (p0 : Aa) (p1 : List Int) (p2 : List Ao) (p3 : List Ab) : Option (Int × Int × Int) :=
 (Fu N p0 p1 p2 p3).bind fun v1 =>
 some (v1.1, v1.2.1, v1.2.2.2)
def CT (N : Nat) (p2 : List Ab) (j8 : Ai → Option ((Option Ai) × Int × Int)) : Nat → (Ai × Int) → Option ((Option Ai) × Int × Int)
 | 0, _ => none
 | n8 + 1, v8 =>
  AJ ((decide (v8.2 < (p2.length : Int))))
   (Ba (fun (v11 : Ai) =>
    CT N p2 j8 n8 ((Ai.mk ((Aa.mk v11.fb.fc v11.fb.fj v11.fb.fq v11.fb.fd)) v11.ft v11.fi v11.fC ((Af.mk v11.fe.fh v11.fe.ff v11.fe.fg))), (wI .i64 (v8.2 + 1))))
   fun j11 =>
   (Bs p2 v8.2).bind fun v12 =>
   (Do N v12).bind fun v13 =>
   AJ ((!v13))
    (j11 (Ai.mk ((Aa.mk v8.1.fb.fc v8.1.fb.fj v8.1.fb.fq v8.1.fb.fd)) v8.1.ft v8.1.fi v8.1.fC ((Af.mk v8.1.fe.fh v8.1.fe.ff v8.1.fe.fg))))
    ((BJ N ((Ai.mk ((Aa.mk v8.1.fb.fc v8.1.fb.fj v8.1.fb.fq v8.1.fb.fd)) v8.1.ft v8.1.fi v8.1.fC ((Af.mk v8.1.fe.fh v8.1.fe.ff v8.1.fe.fg)))) v12).bind fun v15 =>
    AJ ((!v15))
     (some ((some ((Ai.mk ((Aa.mk v8.1.fb.fc v8.1.fb.fj v8.1.fb.fq v8.1.fb.fd)) v8.1.ft v8.1.fi v8.1.fC ((Af.mk v8.1.fe.fh v8.1.fe.ff v8.1.fe.fg))))), v8.2, 0))
     ((BC N ((Ai.mk ((Aa.mk v8.1.fb.fc v8.1.fb.fj v8.1.fb.fq v8.1.fb.fd)) v8.1.ft v8.1.fi v8.1.fC ((Af.mk v8.1.fe.fh v8.1.fe.ff v8.1.fe.fg)))) v12).bind fun v17 =>
     j11 (Ai.mk ((Aa.mk v17.fb.fc v17.fb.fj v17.fb.fq v17.fb.fd)) v17.ft v17.fi v17.fC ((Af.mk v17.fe.fh v17.fe.ff v17.fe.fg))))))
   (j8 (Ai.mk ((Aa.mk v8.1.fb.fc v8.1.fb.fj v8.1.fb.fq v8.1.fb.fd)) v8.1.ft v8.1.fi v8.1.fC ((Af.mk v8.1.fe.fh v8.1.fe.ff v8.1.fe.fg))))
def D3 (N : Nat) (p0 : Aa) (p1 : List Ao) (p2 : List Ab) : Option ((Option Ai) × Int × Int) :=
 (BI N p0).bind fun v1 =>
 AJ ((v1 != 0))
  (some ((none : Option Ai), 0, v1))
  ((DE N p0 p1).bind fun v3 =>
  Ba (fun (v4 : Int) =>
   AJ ((v4 != 0))
    (some ((none : Option Ai), 0, v4))
    (CT N p2 (fun (v9 : Ai) =>
     some ((some ((Ai.mk ((Aa.mk v9.fb.fc v9.fb.fj v9.fb.fq v9.fb.fd)) v9.ft v9.fi v9.fC ((Af.mk v9.fe.fh v9.fe.ff v9.fe.fg))))), (-1), 0)) N ((Ai.mk p0 p1 0 0 v3.1), 0)))
  fun j4 =>
  AJ ((v3.2 == 0))
   ((CQ N p2).bind fun v6 =>
   j4 v6)
   (j4 v3.2))
def IV (N : Nat) (p0 : Aa) (p1 : List Ao) (p2 : List Ab) : Option (Af × Int) :=
 (D3 N p0 p1 p2).bind fun v1 =>
 AJ ((v1.2.2 != 0))
  (some ((Af.mk (([] : List Int)) (([] : List Int)) (([] : List Int))), v1.2.2))
  (AJ ((decide (0 ≤ v1.2.1)))
   (some ((Af.mk (([] : List Int)) (([] : List Int)) (([] : List Int))), 11))
   (v1.1.bind fun v4 =>
   some ((Af.mk v4.fe.fh v4.fe.ff v4.fe.fg), 0)))
def Fq (_ : Nat) (p0 p1 : Int) : Option ByteArray := (Fz (p1 = 10)).bind fun _ => N1 p0
def Fx (N : Nat) (v5 : (List Int)) (j6 : ByteArray → Option ByteArray) : Nat → (ByteArray × Int) → Option ByteArray
 | 0, _ => none
 | n6 + 1, v6 =>
  AJ ((decide (v6.2 < (v5.length : Int))))
   ((Bs v5 v6.2).bind fun v9 =>
   (Fq N v9 10).bind fun v10 =>
   (Fz (((⟨#[32]⟩ : ByteArray)).size + v10.size ≤ 9223372036854775807)).bind fun _ =>
   (Fz (v6.1.size + (((⟨#[32]⟩ : ByteArray) ++ v10)).size ≤ 9223372036854775807)).bind fun _ =>
   Fx N v5 j6 n6 ((v6.1 ++ ((⟨#[32]⟩ : ByteArray) ++ v10)), (wI .i64 (v6.2 + 1))))
   (j6 v6.1)
def E5 (N : Nat) (p0 : Ab) : Option ByteArray :=
 (Fq N p0.fi 10).bind fun v1 =>
 (Fz (v1.size + ((⟨#[32]⟩ : ByteArray)).size ≤ 9223372036854775807)).bind fun _ =>
 (E7 N p0.fa).bind fun v3 =>
 (Fz (((v1 ++ (⟨#[32]⟩ : ByteArray))).size + v3.size ≤ 9223372036854775807)).bind fun _ =>
 (D7 N p0).bind fun v5 =>
 Fx N v5 (fun (v7 : ByteArray) =>
  (Fz (v7.size + ((⟨#[10]⟩ : ByteArray)).size ≤ 9223372036854775807)).bind fun _ =>
  some ((v7 ++ (⟨#[10]⟩ : ByteArray)))) N (((v1 ++ (⟨#[32]⟩ : ByteArray)) ++ v3), 0)
def Ep (line : Ab → Option ByteArray) : List Ab → ByteArray → Option ByteArray
 | [], a => some a
 | x :: xs, a => (line x).bind fun s => (Fz (a.size + s.size ≤ 140737488355328)).bind fun _ => Ep line xs (a ++ s)
def I0 (N : Nat) (p0 : List Ab) : Option (ByteArray × Int) :=
 (Fz (p0.length ≤ 1000000)).bind fun _ =>
 (CQ N p0).bind fun v1 =>
 AJ (v1 != 0)
  (some (⟨#[]⟩, v1))
  ((Ep (fun x => E5 N x) p0 ⟨#[]⟩).bind fun s =>
  AJ (decide (65536 < s.size)) (some (⟨#[]⟩, 3)) (some (s, 0)))
def Ip (_ : Nat) (p0 : Int) : Option ByteArray :=
 (Bs (([(⟨#[]⟩ : ByteArray), (⟨#[114, 101, 97, 100]⟩ : ByteArray), (⟨#[111, 114, 100, 101, 114]⟩ : ByteArray), (⟨#[116, 111, 107, 101, 110]⟩ : ByteArray), (⟨#[115, 119, 105, 116, 99, 104]⟩ : ByteArray), (⟨#[109, 105, 120]⟩ : ByteArray)] : List ByteArray)) p0).bind fun v1 =>
 some v1
def IY (_ : Nat) (p0 : Int) : Option ByteArray := N1 p0
def Dc (_ : Nat) (p0 : ByteArray) (p1 : ByteArray) : Option Bool :=
 Ba (fun (v1 : Bool) =>
  some v1)
 fun j1 =>
 AJ ((decide ((p1.size : Int) ≤ (p0.size : Int))))
  ((Fz ((0 : Int) ≤ (wI .i64 ((p0.size : Int) - (p1.size : Int))) ∧ ((wI .i64 ((p0.size : Int) - (p1.size : Int)))).toNat ≤ p0.size ∧ p0.size ≤ p0.size)).bind fun _ =>
  j1 (((p0.extract (((wI .i64 ((p0.size : Int) - (p1.size : Int)))).toNat) p0.size)).toList == p1.toList))
  (j1 false)
def CR (N : Nat) (p0 : ByteArray) (p1 : ByteArray) : Option ByteArray :=
 (Dc N p0 p1).bind fun v1 =>
 AJ v1
  ((Fz ((0 : Int) ≤ (wI .i64 ((p0.size : Int) - (p1.size : Int))) ∧ 0 ≤ ((wI .i64 ((p0.size : Int) - (p1.size : Int)))).toNat ∧ ((wI .i64 ((p0.size : Int) - (p1.size : Int)))).toNat ≤ p0.size)).bind fun _ =>
  some ((p0.extract 0 (((wI .i64 ((p0.size : Int) - (p1.size : Int)))).toNat))))
  (some p0)
def Fb (N : Nat) (p0 : ByteArray) (p1 : ByteArray) : Option ByteArray :=
 (CR N p0 p1).bind fun v1 =>
 some v1
def Hh (N : Nat) (p0 : List Ab) (p1 : Int) (p2 : Int) : Option (ByteArray × Int) :=
 (CQ N p0).bind fun v1 =>
 AJ ((v1 != 0))
  (some ((⟨#[]⟩ : ByteArray), v1))
  (Ba (fun (v3 : Bool) =>
   AJ v3
    (some ((⟨#[]⟩ : ByteArray), 7))
    (Ba (fun (v6 : Bool) =>
     AJ v6
      (some ((⟨#[]⟩ : ByteArray), 1))
      ((Fz ((0 : Int) ≤ p1 ∧ (0 : Int) ≤ (wI .i64 (p1 + 1)) ∧ (p1).toNat ≤ ((wI .i64 (p1 + 1))).toNat ∧ ((wI .i64 (p1 + 1))).toNat ≤ p0.length)).bind fun _ =>
      (I0 N (((p0.drop (p1).toNat).take (((wI .i64 (p1 + 1))).toNat - (p1).toNat)))).bind fun v10 =>
      AJ ((v10.2 != 0))
       (some ((⟨#[]⟩ : ByteArray), v10.2))
       ((Ip N p2).bind fun v12 =>
       (Fz (v12.size + ((⟨#[32]⟩ : ByteArray)).size ≤ 9223372036854775807)).bind fun _ =>
       (IY N p1).bind fun v14 =>
       (Fz (((v12 ++ (⟨#[32]⟩ : ByteArray))).size + v14.size ≤ 9223372036854775807)).bind fun _ =>
       (Fz ((((v12 ++ (⟨#[32]⟩ : ByteArray)) ++ v14)).size + ((⟨#[58, 32]⟩ : ByteArray)).size ≤ 9223372036854775807)).bind fun _ =>
       (Fb N v10.1 ((⟨#[10]⟩ : ByteArray))).bind fun v17 =>
       (Fz (((((v12 ++ (⟨#[32]⟩ : ByteArray)) ++ v14) ++ (⟨#[58, 32]⟩ : ByteArray))).size + v17.size ≤ 9223372036854775807)).bind fun _ =>
       some (((((v12 ++ (⟨#[32]⟩ : ByteArray)) ++ v14) ++ (⟨#[58, 32]⟩ : ByteArray)) ++ v17), 0))))
    fun j6 =>
    AJ ((decide (p2 < 1)))
     (j6 true)
     (j6 (decide (5 < p2)))))
  fun j3 =>
  AJ ((decide (p1 < 0)))
   (j3 true)
   (j3 (decide ((p0.length : Int) ≤ p1))))
def DY (N : Nat) : Option Bool :=
 (Fz ((0 : Int) ≤ 3 ∧ 0 ≤ (3 : Int).toNat ∧ (3 : Int).toNat ≤ (([(Ab.mk 0 7 0 0 0 0 1 0 0 0 0), (Ab.mk 0 2 0 0 0 0 1 0 0 0 0), (Ab.mk 1 6 0 0 0 0 0 1 0 1 0), (Ab.mk 2 3 0 0 0 1 1 0 0 0 0)] : List Ab)).length)).bind fun _ =>
 (DW N ((Aa.mk (([2] : List Int)) (([0] : List Int)) (([1] : List Int)) (([] : List AL)))) (([1] : List Int)) (([(Ao.mk 1 0 1), (Ao.mk 2 0 0)] : List Ao)) ((((([(Ab.mk 0 7 0 0 0 0 1 0 0 0 0), (Ab.mk 0 2 0 0 0 0 1 0 0 0 0), (Ab.mk 1 6 0 0 0 0 0 1 0 1 0), (Ab.mk 2 3 0 0 0 1 1 0 0 0 0)] : List Ab)).drop 0).take ((3 : Int).toNat - 0)))).bind fun v2 =>
 (Fz ((0 : Int) ≤ 3 ∧ 0 ≤ (3 : Int).toNat ∧ (3 : Int).toNat ≤ (([(Ab.mk 0 7 0 0 0 0 1 0 0 0 0), (Ab.mk 0 2 0 0 0 0 1 0 0 0 0), (Ab.mk 1 6 0 0 0 0 0 1 0 1 0), (Ab.mk 2 3 0 0 0 1 1 0 0 0 0)] : List Ab)).length)).bind fun _ =>
 (IV N ((Aa.mk (([2] : List Int)) (([0] : List Int)) (([1] : List Int)) (([] : List AL)))) (([(Ao.mk 1 0 1), (Ao.mk 2 0 0)] : List Ao)) ((((([(Ab.mk 0 7 0 0 0 0 1 0 0 0 0), (Ab.mk 0 2 0 0 0 0 1 0 0 0 0), (Ab.mk 1 6 0 0 0 0 0 1 0 1 0), (Ab.mk 2 3 0 0 0 1 1 0 0 0 0)] : List Ab)).drop 0).take ((3 : Int).toNat - 0)))).bind fun v4 =>
 (DW N ((Aa.mk (([2] : List Int)) (([0] : List Int)) (([1] : List Int)) (([] : List AL)))) (([1] : List Int)) (([(Ao.mk 1 0 1), (Ao.mk 2 0 0)] : List Ao)) (([(Ab.mk 0 7 0 0 0 0 1 0 0 0 0), (Ab.mk 0 2 0 0 0 0 1 0 0 0 0), (Ab.mk 1 6 0 0 0 0 0 1 0 1 0), (Ab.mk 2 3 0 0 0 1 1 0 0 0 0)] : List Ab))).bind fun v5 =>
 (Hh N (([(Ab.mk 0 7 0 0 0 0 1 0 0 0 0), (Ab.mk 0 2 0 0 0 0 1 0 0 0 0), (Ab.mk 1 6 0 0 0 0 0 1 0 1 0), (Ab.mk 2 3 0 0 0 1 1 0 0 0 0)] : List Ab)) 3 2).bind fun v6 =>
 Ba (fun (v7 : Bool) =>
  some v7)
 fun j7 =>
 AJ ((v2.2.2 == 15))
  (AJ ((v4.2 == 0))
   (AJ ((v5.2.2 == 0))
    (AJ ((v6.2 == 0))
     (AJ (((v4.1.ff.length : Int) == 1))
      ((Bs v4.1.ff 0).bind fun v13 =>
      AJ ((v13 == 1))
       (AJ ((v5.1 == 3))
        (AJ ((v5.2.1 == 2))
         (j7 (v6.1.toList == ((⟨#[111, 114, 100, 101, 114, 32, 51, 58, 32, 50, 32, 100, 111, 110, 101, 32, 49, 32, 49]⟩ : ByteArray)).toList))
         (j7 false))
        (j7 false))
       (j7 false))
      (j7 false))
     (j7 false))
    (j7 false))
   (j7 false))
  (j7 false)
def BP (N : Nat) (p0 : Aa) (v6 : Int) (j14 : Unit → Option Bool) : Nat → Int → Option Bool
 | 0, _ => none
 | n14 + 1, v14 =>
  (Bs p0.fd v6).bind fun v16 =>
  AJ ((decide (v14 < (v16.fJ.length : Int))))
   ((Bs p0.fd v6).bind fun v18 =>
   (Bs v18.fJ v14).bind fun v19 =>
   AJ ((decide (8 < (v19.length : Int))))
    (some false)
    (BP N p0 v6 j14 n14 (wI .i64 (v14 + 1))))
   (j14 ())
def BR (N : Nat) (p0 : Aa) (v6 : Int) (j21 : Unit → Option Bool) : Nat → Int → Option Bool
 | 0, _ => none
 | n21 + 1, v21 =>
  (Bs p0.fd v6).bind fun v23 =>
  AJ ((decide (v21 < (v23.fw.length : Int))))
   ((Bs p0.fd v6).bind fun v25 =>
   (Bs v25.fw v21).bind fun v26 =>
   AJ ((decide (8 < (v26.length : Int))))
    (some false)
    (BR N p0 v6 j21 n21 (wI .i64 (v21 + 1))))
   (j21 ())
def CP (N : Nat) (p0 : Aa) (j6 : Unit → Option Bool) : Nat → Int → Option Bool
 | 0, _ => none
 | n6 + 1, v6 =>
  AJ ((decide (v6 < (p0.fd.length : Int))))
   (Ba (fun (v9 : Bool) =>
    AJ v9
     (some false)
     (BP N p0 v6 (fun (_ : Unit) =>
      BR N p0 v6 (fun (_ : Unit) =>
       CP N p0 j6 n6 (wI .i64 (v6 + 1))) N 0) N 0))
   fun j9 =>
   (Bs p0.fd v6).bind fun v10 =>
   AJ ((decide (8 < (v10.fJ.length : Int))))
    (j9 true)
    ((Bs p0.fd v6).bind fun v12 =>
    j9 (decide (8 < (v12.fw.length : Int)))))
   (j6 ())
def DK (N : Nat) (p0 : Aa) : Option Bool :=
 Ba (fun (v1 : Bool) =>
  AJ v1
   (some false)
   (CP N p0 (fun (_ : Unit) =>
    some true) N 0))
 fun j1 =>
 AJ ((decide (8 < (p0.fc.length : Int))))
  (j1 true)
  (AJ ((decide (8 < (p0.fj.length : Int))))
   (j1 true)
   (AJ ((decide (8 < (p0.fq.length : Int))))
    (j1 true)
    (j1 (decide (14 < (p0.fd.length : Int))))))
def Cs (N : Nat) (p0 : B3) : Option Bool :=
 Ba (fun (v1 : Bool) =>
  some v1)
 fun j1 =>
 (DK N ((Aa.mk p0.fb.fc p0.fb.fj p0.fb.fq p0.fb.fd))).bind fun v2 =>
 AJ v2
  (AJ ((decide ((p0.fS.length : Int) ≤ 8)))
   (AJ ((decide ((p0.ft.length : Int) ≤ 20)))
    (j1 (decide ((p0.fH.length : Int) ≤ 80)))
    (j1 false))
   (j1 false))
  (j1 false)
def AX (_ : Nat) (p0 : List Ab) : Option ((List Ab)) :=
 (Fz ((([] : List Ab)).length + p0.length ≤ HX)).bind fun _ =>
 some ((([] : List Ab)) ++ p0)
def Ee (N : Nat) (p0 : Ab) (p1 : List Int) (p2 : List Int) (p3 : List Int) (p4 : List AL) : Option Bool :=
 Ba (fun (v1 : Bool) =>
  some v1)
 fun j1 =>
 AJ ((p0.fa == 1))
  ((DN N ((Aa.mk p1 p2 p3 p4)) p0).bind fun v3 =>
  j1 (!v3))
  (j1 false)
def AO (N : Nat) (p0 : List Ab) (p1 : Ab → Option Bool) (j1 : Unit → Option Int) : Nat → Int → Option Int
 | 0, _ => none
 | n1 + 1, v1 =>
  AJ ((decide (v1 < (p0.length : Int))))
   ((Bs p0 v1).bind fun v4 =>
   (p1 v4).bind fun v5 =>
   AJ v5
    (some v1)
    (AO N p0 p1 j1 n1 (wI .i64 (v1 + 1))))
   (j1 ())
def BO (N : Nat) (p0 : List Ab) (p1 : Ab → Option Bool) : Option Int :=
 AO N p0 p1 (fun (_ : Unit) =>
  some ((-1))) N 0
def Gu (N : Nat) (p0 : List Ab) (p1 : Ab → Option Bool) : Option (Int × Int) :=
 (BO N p0 p1).bind fun v1 =>
 AJ ((decide (v1 < 0)))
  (some (0, 15))
  (some (v1, 0))
def EF (N : Nat) (p0 : Aa) (p1 : List Ab) : Option (Int × Int) :=
 (BI N p0).bind fun v1 =>
 AJ ((v1 != 0))
  (some (0, v1))
  ((CQ N p1).bind fun v3 =>
  AJ ((v3 != 0))
   (some (0, v3))
   ((Gu N p1 ((fun (x : Ab) => Ee N x p0.fc p0.fj p0.fq p0.fd))).bind fun v5 =>
   some (v5.1, v5.2)))
def Bc (_ : Nat) (p0 : AL) : Option Bool :=
 Ba (fun (v1 : Bool) =>
  some v1)
 fun j1 =>
 AJ ((p0.fa == 3))
  (j1 true)
  (j1 (p0.fa == 4))
def BV (N : Nat) (p0 : List (List Bool)) (p1 : Int) (p2 : Int) (j2 : Unit → Option Bool) : Nat → Int → Option Bool
 | 0, _ => none
 | n2 + 1, v2 =>
  AJ ((decide (v2 < p1)))
   ((Bs p0 v2).bind fun v5 =>
   AJ (((v5.length : Int) != p2))
    (some false)
    (BV N p0 p1 p2 j2 n2 (wI .i64 (v2 + 1))))
   (j2 ())
def CM (N : Nat) (p0 : List (List Bool)) (p1 : Int) (p2 : Int) : Option Bool :=
 AJ (((p0.length : Int) != p1))
  (some false)
  (BV N p0 p1 p2 (fun (_ : Unit) =>
   some true) N 0)
def BA (N : Nat) (p1 : AL) (j22 : Unit → Option Int) : Nat → Int → Option Int
 | 0, _ => none
 | n22 + 1, v22 =>
  AJ ((decide (v22 < (p1.fw.length : Int))))
   ((Bs p1.fw v22).bind fun v25 =>
   (Bs v25 v22).bind fun v26 =>
   AJ ((!v26))
    (some 1)
    (BA N p1 j22 n22 (wI .i64 (v22 + 1))))
   (j22 ())
def DX (N : Nat) (p0 : Aa) (p1 : AL) : Option Int :=
 Ba (fun (v1 : Bool) =>
  AJ v1
   (some 1)
   (Ba (fun (v7 : Bool) =>
    AJ v7
     (some 4)
     ((Bs p0.fc p1.fk).bind fun v12 =>
     (Bs p0.fc p1.fF).bind fun v13 =>
     (CM N p1.fJ v12 v13).bind fun v14 =>
     AJ ((!v14))
      (some 6)
      (AJ ((p1.fa != 4))
       (AJ (((p1.fw.length : Int) != 0))
        (some 6)
        (some 0))
       ((Bs p0.fc p1.fk).bind fun v18 =>
       (Bs p0.fc p1.fk).bind fun v19 =>
       (CM N p1.fw v18 v19).bind fun v20 =>
       AJ ((!v20))
        (some 6)
        (BA N p1 (fun (_ : Unit) =>
         some 0) N 0)))))
   fun j7 =>
   AJ ((decide (p1.fk < 0)))
    (j7 true)
    (AJ ((decide ((p0.fc.length : Int) ≤ p1.fk)))
     (j7 true)
     (AJ ((decide (p1.fF < 0)))
      (j7 true)
      (j7 (decide ((p0.fc.length : Int) ≤ p1.fF)))))))
 fun j1 =>
 AJ ((decide (p1.fa < 1)))
  (j1 true)
  (AJ ((decide (4 < p1.fa)))
   (j1 true)
   (AJ p1.fQ
    ((Bc N p1).bind fun v5 =>
    j1 v5)
    (j1 false)))
def A9 (N : Nat) (p0 : Aa) (j7 : Unit → Option Int) : Nat → Int → Option Int
 | 0, _ => none
 | n7 + 1, v7 =>
  AJ ((decide (v7 < (p0.fc.length : Int))))
   ((Bs p0.fc v7).bind fun v10 =>
   Ba (fun (v11 : Bool) =>
    AJ v11
     (some 7)
     (A9 N p0 j7 n7 (wI .i64 (v7 + 1))))
   fun j11 =>
   AJ ((decide (v10 < 1)))
    (j11 true)
    (AJ ((decide (6 < v10)))
     (j11 true)
     ((Bs p0.fj v7).bind fun v14 =>
     AJ ((decide (v14 < 0)))
      (j11 true)
      ((Bs p0.fj v7).bind fun v16 =>
      AJ ((decide (v10 ≤ v16)))
       (j11 true)
       ((Bs p0.fq v7).bind fun v18 =>
       AJ ((decide (v18 < 0)))
        (j11 true)
        ((Bs p0.fq v7).bind fun v20 =>
        j11 (decide (v10 ≤ v20))))))))
   (j7 ())
def A2 (N : Nat) (p0 : Aa) (j22 : Unit → Option Int) : Nat → Int → Option Int
 | 0, _ => none
 | n22 + 1, v22 =>
  AJ ((decide (v22 < (p0.fd.length : Int))))
   ((Bs p0.fd v22).bind fun v25 =>
   (DX N p0 v25).bind fun v26 =>
   AJ ((v26 != 0))
    (some v26)
    (A2 N p0 j22 n22 (wI .i64 (v22 + 1))))
   (j22 ())
def Bj (N : Nat) (p0 : Aa) : Option Int :=
 Ba (fun (v1 : Bool) =>
  AJ v1
   (some 3)
   (Ba (fun (v4 : Bool) =>
    AJ v4
     (some 6)
     (A9 N p0 (fun (_ : Unit) =>
      A2 N p0 (fun (_ : Unit) =>
       some 0) N 0) N 0))
   fun j4 =>
   AJ (((p0.fj.length : Int) != (p0.fc.length : Int)))
    (j4 true)
    (j4 ((p0.fq.length : Int) != (p0.fc.length : Int)))))
 fun j1 =>
 AJ ((decide (6 < (p0.fc.length : Int))))
  (j1 true)
  (j1 (decide (12 < (p0.fd.length : Int))))
def CK (_ : Nat) (p0 : Ab) : Option ((List Int)) :=
 AJ ((p0.fa == 1))
  (some (([p0.fD, p0.fE, p0.fK] : List Int)))
  (AJ ((p0.fa == 6))
   (some (([p0.fv, p0.fr, p0.fI] : List Int)))
   (AJ ((p0.fa == 7))
    (some (([p0.fO, p0.fu] : List Int)))
    (some (([p0.fm, p0.fu] : List Int)))))
def CD (_ : Nat) (p0 : Int) (p1 : Int) (p2 : List Int) : Option Ab :=
 Ba (fun (v1 : Int × Int × Int × Int × Int × Int × Int × Int × Int) =>
  some ((Ab.mk p0 p1 v1.1 v1.2.1 v1.2.2.1 v1.2.2.2.1 v1.2.2.2.2.1 v1.2.2.2.2.2.1 v1.2.2.2.2.2.2.1 v1.2.2.2.2.2.2.2.1 v1.2.2.2.2.2.2.2.2)))
 fun j1 =>
 AJ ((p1 == 1))
  ((Bs p2 0).bind fun v3 =>
  (Bs p2 1).bind fun v4 =>
  (Bs p2 2).bind fun v5 =>
  j1 (v3, v4, v5, 0, 0, 0, 0, 0, 0))
  (AJ ((p1 == 6))
   ((Bs p2 0).bind fun v7 =>
   (Bs p2 1).bind fun v8 =>
   (Bs p2 2).bind fun v9 =>
   j1 (0, 0, 0, 0, 0, v9, v7, v8, 0))
   (AJ ((p1 == 7))
    ((Bs p2 0).bind fun v11 =>
    (Bs p2 1).bind fun v12 =>
    j1 (0, 0, 0, 0, v12, 0, 0, 0, v11))
    ((Bs p2 0).bind fun v13 =>
    (Bs p2 1).bind fun v14 =>
    j1 (0, 0, 0, v13, v14, 0, 0, 0, 0))))
def BZ (N : Nat) (v5 : (List Int)) (j6 : Unit → Option Bool) : Nat → Int → Option Bool
 | 0, _ => none
 | n6 + 1, v6 =>
  AJ ((decide (v6 < (v5.length : Int))))
   ((Bs v5 v6).bind fun v9 =>
   AJ ((decide (v9 < 0)))
    (some false)
    (BZ N v5 j6 n6 (wI .i64 (v6 + 1))))
   (j6 ())
def DS (N : Nat) (p0 : Ab) : Option Bool :=
 Ba (fun (v1 : Bool) =>
  AJ v1
   (some false)
   ((CK N p0).bind fun v5 =>
   BZ N v5 (fun (_ : Unit) =>
    (CD N p0.fi p0.fa v5).bind fun v11 =>
    some (((v11.fi == p0.fi) && ((v11.fa == p0.fa) && ((v11.fD == p0.fD) && ((v11.fE == p0.fE) && ((v11.fK == p0.fK) && ((v11.fm == p0.fm) && ((v11.fu == p0.fu) && ((v11.fI == p0.fI) && ((v11.fv == p0.fv) && ((v11.fr == p0.fr) && ((v11.fO == p0.fO) && true))))))))))))) N 0))
 fun j1 =>
 AJ ((decide (p0.fa < 1)))
  (j1 true)
  (AJ ((decide (7 < p0.fa)))
   (j1 true)
   (j1 (decide (p0.fi < 0))))
def Cn (N : Nat) (p0 : List Ab) (j2 : Unit → Option Int) : Nat → Int → Option Int
 | 0, _ => none
 | n2 + 1, v2 =>
  AJ ((decide (v2 < (p0.length : Int))))
   (Ba (fun (v5 : Bool) =>
    AJ v5
     (some 1)
     (Cn N p0 j2 n2 (wI .i64 (v2 + 1))))
   fun j5 =>
   (Bs p0 v2).bind fun v6 =>
   (DS N v6).bind fun v7 =>
   AJ ((!v7))
    (j5 true)
    (AJ ((decide (0 < v2)))
     ((Bs p0 v2).bind fun v10 =>
     (Bs p0 ((wI .i64 (v2 - 1)))).bind fun v11 =>
     j5 (decide (v10.fi < v11.fi)))
     (j5 false)))
   (j2 ())
def B6 (N : Nat) (p0 : List Ab) : Option Int :=
 AJ ((decide (10000 < (p0.length : Int))))
  (some 3)
  (Cn N p0 (fun (_ : Unit) =>
   some 0) N 0)
def CC (_ : Nat) (p0 : Aa) (p1 : Ab) : Option Bool :=
 AJ ((p1.fa != 1))
  (some false)
  (AJ ((decide ((p0.fd.length : Int) ≤ p1.fD)))
   (some true)
   ((Bs p0.fd p1.fD).bind fun v3 =>
   Ba (fun (v4 : Bool) =>
    some v4)
   fun j4 =>
   (Bs p0.fc v3.fk).bind fun v5 =>
   AJ ((decide (v5 ≤ p1.fE)))
    (j4 true)
    ((Bs p0.fc v3.fF).bind fun v7 =>
    AJ ((decide (v7 ≤ p1.fK)))
     (j4 true)
     ((Bs v3.fJ p1.fE).bind fun v9 =>
     (Bs v9 p1.fK).bind fun v10 =>
     j4 (!v10)))))
def Cj (N : Nat) (p0 : Aa) (p1 : List Ab) (j5 : Unit → Option (Int × Int)) : Nat → Int → Option (Int × Int)
 | 0, _ => none
 | n5 + 1, v5 =>
  AJ ((decide (v5 < (p1.length : Int))))
   ((Bs p1 v5).bind fun v8 =>
   (CC N p0 v8).bind fun v9 =>
   AJ v9
    (some (v5, 0))
    (Cj N p0 p1 j5 n5 (wI .i64 (v5 + 1))))
   (j5 ())
def CY (N : Nat) (p0 : Aa) (p1 : List Ab) : Option (Int × Int) :=
 (Bj N p0).bind fun v1 =>
 AJ ((v1 != 0))
  (some (0, v1))
  ((B6 N p1).bind fun v3 =>
  AJ ((v3 != 0))
   (some (0, v3))
   (Cj N p0 p1 (fun (_ : Unit) =>
    some (0, 15)) N 0))
def EH (N : Nat) (p0 : Aa) (p1 : List Ao) (p2 : List Ab) : Option (Int × Int) :=
 (D3 N p0 p1 p2).bind fun v1 =>
 AJ ((v1.2.2 != 0))
  (some (0, v1.2.2))
  (AJ ((decide (v1.2.1 < 0)))
   (some (0, 15))
   (some (v1.2.1, 0)))
def BL (N : Nat) (p0 : Aa) (j3 : ((List Int) × (List Int)) → Option (Af × Int)) : Nat → ((List Int) × (List Int) × Int) → Option (Af × Int)
 | 0, _ => none
 | n3 + 1, v3 =>
  AJ ((decide (v3.2.2 < (p0.fc.length : Int))))
   ((Bs p0.fj v3.2.2).bind fun v6 =>
   (Fz (v3.1.length + (([v6] : List Int)).length ≤ HX)).bind fun _ =>
   (Fz (v3.2.1.length + (([(-1)] : List Int)).length ≤ HX)).bind fun _ =>
   BL N p0 j3 n3 (v3.1 ++ (([v6] : List Int)), v3.2.1 ++ (([(-1)] : List Int)), (wI .i64 (v3.2.2 + 1))))
   (j3 (v3.1, v3.2.1))
def A7 (N : Nat) (p0 : Aa) (j9 : ((List Int)) → Option (Af × Int)) : Nat → ((List Int) × Int) → Option (Af × Int)
 | 0, _ => none
 | n9 + 1, v9 =>
  AJ ((decide (v9.2 < (p0.fd.length : Int))))
   (Ba (fun (v12 : Int) =>
    (Fz (v9.1.length + (([v12] : List Int)).length ≤ HX)).bind fun _ =>
    A7 N p0 j9 n9 (v9.1 ++ (([v12] : List Int)), (wI .i64 (v9.2 + 1))))
   fun j12 =>
   (Bs p0.fd v9.2).bind fun v13 =>
   (Bc N v13).bind fun v14 =>
   AJ v14
    ((Bs p0.fd v9.2).bind fun v16 =>
    (Bs p0.fj v16.fk).bind fun v17 =>
    (Fz (0 ≤ v17)).bind fun _ =>
    j12 (DZ .u8 1 v17))
    (j12 0))
   (j9 v9.1)
def C0 (N : Nat) (p0 : Aa) : Option (Af × Int) :=
 (Bj N p0).bind fun v1 =>
 AJ ((v1 != 0))
  (some ((Af.mk (([] : List Int)) (([] : List Int)) (([] : List Int))), v1))
  (BL N p0 (fun (v4 : (List Int) × (List Int)) =>
   A7 N p0 (fun (v10 : (List Int)) =>
    some ((Af.mk v4.1 v4.2 v10), 0)) N (([] : List Int), 0)) N (([] : List Int), ([] : List Int), 0))
def B8 (_ : Nat) (p0 : Af) (p1 : Int) : Option Int :=
 (Bs p0.fh p1).bind fun v1 =>
 (Fz (0 ≤ v1)).bind fun _ =>
 Ba (fun (v3 : Int) =>
  some v3)
 fun j3 =>
 (Bs p0.ff p1).bind fun v4 =>
 AJ ((decide (0 ≤ v4)))
  ((Bs p0.ff p1).bind fun v6 =>
  (Fz (0 ≤ v6)).bind fun _ =>
  j3 (LW .u8 ((DZ .u8 1 v1)) ((DZ .u8 1 v6))))
  (j3 (DZ .u8 1 v1))
def BK (N : Nat) (p0 : Aa) (p1 : Af) (j7 : Unit → Option Int) : Nat → Int → Option Int
 | 0, _ => none
 | n7 + 1, v7 =>
  AJ ((decide (v7 < (p0.fc.length : Int))))
   (Ba (fun (v10 : Bool) =>
    AJ v10
     (some 7)
     ((Bs p1.fh v7).bind fun v21 =>
     (Bs p1.ff v7).bind fun v22 =>
     AJ ((v21 == v22))
      (some 1)
      (BK N p0 p1 j7 n7 (wI .i64 (v7 + 1)))))
   fun j10 =>
   (Bs p1.fh v7).bind fun v11 =>
   AJ ((decide (v11 < 0)))
    (j10 true)
    ((Bs p1.fh v7).bind fun v13 =>
    (Bs p0.fc v7).bind fun v14 =>
    AJ ((decide (v14 ≤ v13)))
     (j10 true)
     ((Bs p1.ff v7).bind fun v16 =>
     AJ ((decide (v16 < (-1))))
      (j10 true)
      ((Bs p1.ff v7).bind fun v18 =>
      (Bs p0.fc v7).bind fun v19 =>
      j10 (decide (v19 ≤ v18))))))
   (j7 ())
def By (N : Nat) (p0 : Aa) (p1 : Af) (j24 : Unit → Option Int) : Nat → Int → Option Int
 | 0, _ => none
 | n24 + 1, v24 =>
  AJ ((decide (v24 < (p0.fd.length : Int))))
   ((Bs p0.fd v24).bind fun v27 =>
   (Bs p0.fc v27.fk).bind fun v28 =>
   (Fz (0 ≤ v28)).bind fun _ =>
   Ba (fun (v30 : Bool) =>
    AJ v30
     (some 1)
     (By N p0 p1 j24 n24 (wI .i64 (v24 + 1))))
   fun j30 =>
   (Bc N v27).bind fun v31 =>
   AJ ((!v31))
    ((Bs p1.fg v24).bind fun v33 =>
    AJ ((v33 != 0))
     (j30 true)
     ((Bc N v27).bind fun v35 =>
     AJ v35
      ((Bs p1.fg v24).bind fun v37 =>
      AJ (((CA .u8 v37 ((wI .u8 ((DZ .u8 1 v28) - 1)))) != 0))
       (j30 true)
       ((B8 N p1 v27.fk).bind fun v39 =>
       (Bs p1.fg v24).bind fun v40 =>
       j30 ((CA .u8 v39 v40) != 0)))
      (j30 false)))
    ((Bc N v27).bind fun v41 =>
    AJ v41
     ((Bs p1.fg v24).bind fun v43 =>
     AJ (((CA .u8 v43 ((wI .u8 ((DZ .u8 1 v28) - 1)))) != 0))
      (j30 true)
      ((B8 N p1 v27.fk).bind fun v45 =>
      (Bs p1.fg v24).bind fun v46 =>
      j30 ((CA .u8 v45 v46) != 0)))
     (j30 false)))
   (j24 ())
def C5 (N : Nat) (p0 : Aa) (p1 : Af) : Option Int :=
 (Bj N p0).bind fun v1 =>
 AJ ((v1 != 0))
  (some v1)
  (Ba (fun (v3 : Bool) =>
   AJ v3
    (some 6)
    (BK N p0 p1 (fun (_ : Unit) =>
     By N p0 p1 (fun (_ : Unit) =>
      some 0) N 0) N 0))
  fun j3 =>
  AJ (((p1.fh.length : Int) != (p0.fc.length : Int)))
   (j3 true)
   (AJ (((p1.ff.length : Int) != (p0.fc.length : Int)))
    (j3 true)
    (j3 ((p1.fg.length : Int) != (p0.fd.length : Int)))))
def DV (_ : Nat) (p0 : Ao) : Option Bool :=
 Ba (fun (v1 : Bool) =>
  some v1)
 fun j1 =>
 AJ ((decide (1 ≤ p0.fa)))
  (AJ ((decide (p0.fa ≤ 4)))
   (AJ ((decide (0 ≤ p0.fm)))
    (AJ ((decide (0 ≤ p0.fr)))
     (AJ ((p0.fa == 1))
      (j1 true)
      (j1 (p0.fr == 0)))
     (j1 false))
    (j1 false))
   (j1 false))
  (j1 false)
def DG (_ : Nat) (p0 : Int) (p1 : Int) : Option Bool :=
 (Fz (0 ≤ p1)).bind fun _ =>
 some (((FW .u8 ((Ga .u8 p0 p1)) 1) == 1))
def BD (N : Nat) (p0 : Aa) (p2 : Ao) (j12 : ((List Int)) → Option (Af × Bool)) : Nat → ((List Int) × Int) → Option (Af × Bool)
 | 0, _ => none
 | n12 + 1, v12 =>
  AJ ((decide (v12.2 < (p0.fd.length : Int))))
   (Ba (fun (v15 : (List Int)) =>
    BD N p0 p2 j12 n12 (v15, (wI .i64 (v12.2 + 1))))
   fun j15 =>
   Ba (fun (v16 : Bool) =>
    AJ v16
     ((Bs v12.1 v12.2).bind fun v22 =>
     (Fz (0 ≤ p2.fr)).bind fun _ =>
     (Bs v12.1 v12.2).bind fun _ =>
     j15 (v12.1.set ((v12.2).toNat) ((LW .u8 v22 ((DZ .u8 1 p2.fr))))))
     (j15 v12.1))
   fun j16 =>
   (Bs p0.fd v12.2).bind fun v17 =>
   AJ ((v17.fk == p2.fm))
    ((Bs p0.fd v12.2).bind fun v19 =>
    (Bc N v19).bind fun v20 =>
    j16 v20)
    (j16 false))
   (j12 v12.1)
def Bl (N : Nat) (p0 : Aa) (p1 : Af) (p2 : Ao) (v32 : AL) (v35 : Int) (j38 : Unit → Option (Af × Bool)) : Nat → Int → Option (Af × Bool)
 | 0, _ => none
 | n38 + 1, v38 =>
  (Bs p0.fc v32.fk).bind fun v40 =>
  AJ ((decide (v38 < v40)))
   (Ba (fun (v42 : Bool) =>
    Ba (fun (v47 : Bool) =>
     AJ v47
      (some ((Af.mk (([] : List Int)) (([] : List Int)) (([] : List Int))), false))
      (Bl N p0 p1 p2 v32 v35 j38 n38 (wI .i64 (v38 + 1))))
    fun j47 =>
    AJ v42
     (AJ ((v32.fa == 4))
      ((Bs v32.fw v38).bind fun v50 =>
      (Bs p1.fh v32.fk).bind fun v51 =>
      (Bs v50 v51).bind fun v52 =>
      j47 (!v52))
      (j47 false))
     (j47 false))
   fun j42 =>
   (Bs p1.fg p2.fm).bind fun v43 =>
   (DG N v43 v38).bind fun v44 =>
   AJ v44
    ((DG N v35 v38).bind fun v46 =>
    j42 (!v46))
    (j42 false))
   (j38 ())
def Bz (N : Nat) (p0 : Aa) (p1 : Af) (p2 : Ao) : Option (Af × Bool) :=
 (Fz ((([] : List Int)).length + p1.fh.length ≤ HX)).bind fun _ =>
 (Fz ((([] : List Int)).length + p1.ff.length ≤ HX)).bind fun _ =>
 (Fz ((([] : List Int)).length + p1.fg.length ≤ HX)).bind fun _ =>
 Ba (fun (v4 : (List Int) × (List Int) × (List Int)) =>
  some ((Af.mk v4.1 v4.2.1 v4.2.2), true))
 fun j4 =>
 AJ ((p2.fa == 1))
  (Ba (fun (v6 : Bool) =>
   AJ v6
    (some ((Af.mk (([] : List Int)) (([] : List Int)) (([] : List Int))), false))
    ((Bs ((([] : List Int)) ++ p1.ff) p2.fm).bind fun _ =>
    BD N p0 p2 (fun (v13 : (List Int)) =>
     j4 ((([] : List Int)) ++ p1.fh, ((([] : List Int)) ++ p1.ff).set ((p2.fm).toNat) p2.fr, v13)) N ((([] : List Int)) ++ p1.fg, 0)))
  fun j6 =>
  (Bs p1.ff p2.fm).bind fun v7 =>
  AJ ((decide (0 ≤ v7)))
   (j6 true)
   ((Bs p1.fh p2.fm).bind fun v9 =>
   j6 (p2.fr == v9)))
  (AJ ((p2.fa == 2))
   ((Bs p1.ff p2.fm).bind fun v26 =>
   AJ ((decide (v26 < 0)))
    (some ((Af.mk (([] : List Int)) (([] : List Int)) (([] : List Int))), false))
    ((Bs p1.ff p2.fm).bind fun v28 =>
    (Bs ((([] : List Int)) ++ p1.fh) p2.fm).bind fun _ =>
    (Bs ((([] : List Int)) ++ p1.ff) p2.fm).bind fun _ =>
    j4 (((([] : List Int)) ++ p1.fh).set ((p2.fm).toNat) v28, ((([] : List Int)) ++ p1.ff).set ((p2.fm).toNat) ((-1)), (([] : List Int)) ++ p1.fg)))
   (AJ ((p2.fa == 3))
    ((Bs p0.fd p2.fm).bind fun v32 =>
    (Bc N v32).bind fun v33 =>
    AJ ((!v33))
     (some ((Af.mk (([] : List Int)) (([] : List Int)) (([] : List Int))), false))
     ((B8 N p1 v32.fk).bind fun v35 =>
     (Bs p1.fg p2.fm).bind fun v36 =>
     AJ ((v36 == v35))
      (some ((Af.mk (([] : List Int)) (([] : List Int)) (([] : List Int))), false))
      (Bl N p0 p1 p2 v32 v35 (fun (_ : Unit) =>
       (Bs ((([] : List Int)) ++ p1.fg) p2.fm).bind fun _ =>
       j4 ((([] : List Int)) ++ p1.fh, (([] : List Int)) ++ p1.ff, ((([] : List Int)) ++ p1.fg).set ((p2.fm).toNat) v35)) N 0)))
    ((Bs p1.ff p2.fm).bind fun v55 =>
    AJ ((decide (v55 < 0)))
     (some ((Af.mk (([] : List Int)) (([] : List Int)) (([] : List Int))), false))
     ((Bs ((([] : List Int)) ++ p1.ff) p2.fm).bind fun _ =>
     j4 ((([] : List Int)) ++ p1.fh, ((([] : List Int)) ++ p1.ff).set ((p2.fm).toNat) ((-1)), (([] : List Int)) ++ p1.fg)))))
def DU (N : Nat) (p0 : Aa) (p1 : Af) (p2 : Ao) : Option (Af × Int) :=
 (C5 N p0 p1).bind fun v1 =>
 AJ ((v1 != 0))
  (some ((Af.mk (([] : List Int)) (([] : List Int)) (([] : List Int))), v1))
  ((DV N p2).bind fun v3 =>
  AJ ((!v3))
   (some ((Af.mk (([] : List Int)) (([] : List Int)) (([] : List Int))), 1))
   (Ba (fun (v5 : Bool) =>
    AJ v5
     (some ((Af.mk (([] : List Int)) (([] : List Int)) (([] : List Int))), 4))
     (Ba (fun (v11 : Bool) =>
      AJ v11
       (some ((Af.mk (([] : List Int)) (([] : List Int)) (([] : List Int))), 4))
       ((Bz N p0 p1 p2).bind fun v15 =>
       AJ ((!v15.2))
        (some ((Af.mk (([] : List Int)) (([] : List Int)) (([] : List Int))), 11))
        (some (v15.1, 0))))
     fun j11 =>
     AJ ((p2.fa == 1))
      ((Bs p0.fc p2.fm).bind fun v13 =>
      j11 (decide (v13 ≤ p2.fr)))
      (j11 false)))
   fun j5 =>
   AJ ((p2.fa == 3))
    (AJ ((decide ((p0.fd.length : Int) ≤ p2.fm)))
     (j5 true)
     (AJ ((p2.fa != 3))
      (j5 (decide ((p0.fc.length : Int) ≤ p2.fm)))
      (j5 false)))
    (AJ ((p2.fa != 3))
     (j5 (decide ((p0.fc.length : Int) ≤ p2.fm)))
     (j5 false))))
def CI (N : Nat) (p0 : Aa) (p2 : List Ao) (j3 : ((List Af)) → Option ((List Af) × Int × Int)) : Nat → ((List Af) × Int) → Option ((List Af) × Int × Int)
 | 0, _ => none
 | n3 + 1, v3 =>
  AJ ((decide (v3.2 < (p2.length : Int))))
   ((Bs v3.1 v3.2).bind fun v6 =>
   (Bs p2 v3.2).bind fun v7 =>
   (DU N p0 v6 v7).bind fun v8 =>
   AJ ((v8.2 != 0))
    (some (([] : List Af), v3.2, v8.2))
    ((Fz (v3.1.length + (([v8.1] : List Af)).length ≤ HX)).bind fun _ =>
    CI N p0 p2 j3 n3 (v3.1 ++ (([v8.1] : List Af)), (wI .i64 (v3.2 + 1)))))
   (j3 v3.1)
def DJ (N : Nat) (p0 : Aa) (p1 : Af) (p2 : List Ao) : Option ((List Af) × Int × Int) :=
 (C5 N p0 p1).bind fun v1 =>
 AJ ((v1 != 0))
  (some (([] : List Af), 0, v1))
  (CI N p0 p2 (fun (v4 : (List Af)) =>
   some (v4, (p2.length : Int), 0)) N (([p1] : List Af), 0))
def Ck (N : Nat) (p1 : List Ao) (j3 : Unit → Option Int) : Nat → Int → Option Int
 | 0, _ => none
 | n3 + 1, v3 =>
  AJ ((decide (v3 < (p1.length : Int))))
   ((Bs p1 v3).bind fun v6 =>
   AJ ((v6.fa == 4))
    (some 1)
    (Ck N p1 j3 n3 (wI .i64 (v3 + 1))))
   (j3 ())
def CZ (N : Nat) (p0 : Aa) (p1 : List Ao) : Option Int :=
 (C0 N p0).bind fun v1 =>
 AJ ((v1.2 != 0))
  (some v1.2)
  (Ck N p1 (fun (_ : Unit) =>
   (DJ N p0 v1.1 p1).bind fun v8 =>
   some v8.2.2) N 0)
def En (N : Nat) (p0 : Aa) : Option AD :=
 (C0 N p0).bind fun v1 =>
 some ((AD.mk 0 false false v1.1))
def Dj (_ : Nat) (p0 : Ab) : Option Bool :=
 Ba (fun (v1 : Bool) =>
  some v1)
 fun j1 =>
 AJ ((decide (2 ≤ p0.fa)))
  (j1 (decide (p0.fa ≤ 5)))
  (j1 false)
def CU (N : Nat) (p0 : Aa) (p1 : List Ao) (p2 : AD) (p3 : Ab) : Option (AD × Bool) :=
 (Dj N p3).bind fun v1 =>
 AJ ((!v1))
  (some ((AD.mk p2.fi p2.fN p2.fM ((Af.mk p2.fe.fh p2.fe.ff p2.fe.fg))), true))
  (Ba (fun (v3 : Bool) =>
   AJ v3
    (some ((AD.mk p2.fi p2.fN p2.fM ((Af.mk p2.fe.fh p2.fe.ff p2.fe.fg))), false))
    ((Bs p1 p2.fi).bind fun v6 =>
    Ba (fun (v7 : Int × Bool × Bool × (List Int) × (List Int) × (List Int)) =>
     some ((AD.mk v7.1 v7.2.1 v7.2.2.1 ((Af.mk v7.2.2.2.1 v7.2.2.2.2.1 v7.2.2.2.2.2))), true))
    fun j7 =>
    Ba (fun (v8 : Bool) =>
     AJ v8
      (AJ ((v6.fa == 1))
       ((Bz N p0 ((Af.mk p2.fe.fh p2.fe.ff p2.fe.fg)) v6).bind fun v13 =>
       j7 (p2.fi, true, p2.fM, v13.1.fh, v13.1.ff, v13.1.fg))
       (j7 (p2.fi, true, p2.fM, p2.fe.fh, p2.fe.ff, p2.fe.fg)))
      (Ba (fun (v14 : Bool) =>
       AJ v14
        (AJ ((v6.fa != 1))
         ((Bz N p0 ((Af.mk p2.fe.fh p2.fe.ff p2.fe.fg)) v6).bind fun v18 =>
         j7 ((wI .i64 (p2.fi + 1)), false, p2.fM, v18.1.fh, v18.1.ff, v18.1.fg))
         (j7 ((wI .i64 (p2.fi + 1)), false, p2.fM, p2.fe.fh, p2.fe.ff, p2.fe.fg)))
        (Ba (fun (v19 : Bool) =>
         AJ v19
          (j7 (p2.fi, false, true, p2.fe.fh, p2.fe.ff, p2.fe.fg))
          (Ba (fun (v23 : Bool) =>
           AJ v23
            ((Bz N p0 ((Af.mk p2.fe.fh p2.fe.ff p2.fe.fg)) ((Ao.mk 4 v6.fm 0))).bind fun v26 =>
            j7 (p2.fi, p2.fN, false, v26.1.fh, v26.1.ff, v26.1.fg))
            (some ((AD.mk p2.fi p2.fN p2.fM ((Af.mk p2.fe.fh p2.fe.ff p2.fe.fg))), false)))
          fun j23 =>
          AJ ((p3.fa == 5))
           (j23 p2.fM)
           (j23 false)))
        fun j19 =>
        AJ ((p3.fa == 4))
         (AJ p2.fN
          (j19 (v6.fa == 1))
          (j19 false))
         (j19 false)))
      fun j14 =>
      AJ ((p3.fa == 3))
       (j14 p2.fN)
       (j14 false)))
    fun j8 =>
    AJ ((p3.fa == 2))
     (AJ ((!p2.fN))
      (j8 (!p2.fM))
      (j8 false))
     (j8 false)))
  fun j3 =>
  AJ ((p3.fm != p2.fi))
   (j3 true)
   (j3 (decide ((p1.length : Int) ≤ p2.fi))))
def Cy (N : Nat) (p0 : Aa) (p1 : List Ao) (p2 : List Ab) (j2 : AD → Option (AD × Int)) : Nat → (Int × Bool × Bool × (List Int) × (List Int) × (List Int) × Int) → Option (AD × Int)
 | 0, _ => none
 | n2 + 1, v2 =>
  AJ ((decide (v2.2.2.2.2.2.2 < (p2.length : Int))))
   ((Bs p2 v2.2.2.2.2.2.2).bind fun v5 =>
   (CU N p0 p1 ((AD.mk v2.1 v2.2.1 v2.2.2.1 ((Af.mk v2.2.2.2.1 v2.2.2.2.2.1 v2.2.2.2.2.2.1)))) v5).bind fun v6 =>
   AJ ((!v6.2))
    (some ((AD.mk v2.1 v2.2.1 v2.2.2.1 ((Af.mk v2.2.2.2.1 v2.2.2.2.2.1 v2.2.2.2.2.2.1))), v2.2.2.2.2.2.2))
    (Cy N p0 p1 p2 j2 n2 (v6.1.fi, v6.1.fN, v6.1.fM, v6.1.fe.fh, v6.1.fe.ff, v6.1.fe.fg, (wI .i64 (v2.2.2.2.2.2.2 + 1)))))
   (j2 (AD.mk v2.1 v2.2.1 v2.2.2.1 ((Af.mk v2.2.2.2.1 v2.2.2.2.2.1 v2.2.2.2.2.2.1))))
def D9 (N : Nat) (p0 : Aa) (p1 : List Ao) (p2 : List Ab) : Option (AD × Int) :=
 (En N p0).bind fun v1 =>
 Cy N p0 p1 p2 (fun (v3 : AD) =>
  some ((AD.mk v3.fi v3.fN v3.fM ((Af.mk v3.fe.fh v3.fe.ff v3.fe.fg))), (-1))) N (v1.fi, v1.fN, v1.fM, v1.fe.fh, v1.fe.ff, v1.fe.fg, 0)
def C4 (N : Nat) (p0 : Aa) (p1 : List Ao) (p2 : List Ab) : Option (Int × Int) :=
 (CZ N p0 p1).bind fun v1 =>
 AJ ((v1 != 0))
  (some (0, v1))
  ((B6 N p2).bind fun v3 =>
  AJ ((v3 != 0))
   (some (0, v3))
   ((D9 N p0 p1 p2).bind fun v5 =>
   AJ ((decide (0 ≤ v5.2)))
    (some (v5.2, 0))
    (some (0, 15))))
def D1 (N : Nat) (p0 : Ab) (p1 : AB) : Option (Bool × AB × (List (Int × Int))) :=
 (CH N p1 p0).bind fun v1 =>
 some ((!v1.1), (AB.mk v1.2.1.fy v1.2.1.fA v1.2.1.fB v1.2.2), v1.2.2)
def AN (N : Nat) (p0 : List Ab) (j1 : ((List (Int × Int)) × Int × Int × Bool) → Option (Int × AB × (List (Int × Int)))) : Nat → ((List (Int × Int)) × Int × Int × Bool × Int) → Option (Int × AB × (List (Int × Int)))
 | 0, _ => none
 | n1 + 1, v1 =>
  AJ ((decide (v1.2.2.2.2 < (p0.length : Int))))
   ((Bs p0 v1.2.2.2.2).bind fun v4 =>
   (D1 N v4 ((AB.mk v1.2.1 v1.2.2.1 v1.2.2.2.1 v1.1))).bind fun v5 =>
   AJ v5.1
    (some (v1.2.2.2.2, (AB.mk v5.2.1.fy v5.2.1.fA v5.2.1.fB v5.2.2), v5.2.2))
    (AN N p0 j1 n1 (v5.2.2, v5.2.1.fy, v5.2.1.fA, v5.2.1.fB, (wI .i64 (v1.2.2.2.2 + 1)))))
   (j1 (v1.1, v1.2.1, v1.2.2.1, v1.2.2.2.1))
def BF (N : Nat) (p0 : List Ab) (p1 : AB) : Option (Int × AB × (List (Int × Int))) :=
 AN N p0 (fun (v2 : (List (Int × Int)) × Int × Int × Bool) =>
  some ((-1), (AB.mk v2.2.1 v2.2.2.1 v2.2.2.2 v2.1), v2.1)) N (p1.fG, p1.fy, p1.fA, p1.fB, 0)
def FA (N : Nat) (p0 : List Ab) (p1 : AB) : Option (Int × Int × AB × (List (Int × Int))) :=
 (BF N p0 p1).bind fun v1 =>
 AJ ((decide (v1.1 < 0)))
  (some (0, 15, (AB.mk v1.2.1.fy v1.2.1.fA v1.2.1.fB v1.2.2), v1.2.2))
  (some (v1.1, 0, (AB.mk v1.2.1.fy v1.2.1.fA v1.2.1.fB v1.2.2), v1.2.2))
def EZ (N : Nat) (p0 : List Ab) : Option (Int × Int) :=
 (CQ N p0).bind fun v1 =>
 AJ ((v1 != 0))
  (some (0, v1))
  ((DL N).bind fun v3 =>
  (FA N p0 v3).bind fun v4 =>
  some (v4.1, v4.2.1))
def Cm (N : Nat) (p0 : List Ab) (p1 : Ab) (j1 : Unit → Option Bool) : Nat → Int → Option Bool
 | 0, _ => none
 | n1 + 1, v1 =>
  AJ ((decide (v1 < (p0.length : Int))))
   ((Bs p0 v1).bind fun v4 =>
   Ba (fun (v5 : Bool) =>
    AJ v5
     (some true)
     (Ba (fun (v11 : Bool) =>
      AJ v11
       (some true)
       (Ba (fun (v16 : Bool) =>
        AJ v16
         (some true)
         (Cm N p0 p1 j1 n1 (wI .i64 (v1 + 1))))
       fun j16 =>
       AJ ((v4.fa == 7))
        (AJ ((p1.fa == 7))
         (j16 (decide (p1.fu ≤ v4.fu)))
         (j16 false))
        (j16 false)))
     fun j11 =>
     AJ ((v4.fa == 6))
      (AJ ((p1.fa == 6))
       (AJ ((p1.fv == v4.fv))
        (j11 (decide (p1.fI < v4.fI)))
        (j11 false))
       (j11 false))
      (j11 false)))
   fun j5 =>
   (Dj N v4).bind fun v6 =>
   AJ v6
    ((Dj N p1).bind fun v8 =>
    AJ v8
     (j5 (decide (p1.fu < v4.fu)))
     (j5 false))
    (j5 false))
   (j1 ())
def DQ (N : Nat) (p0 : List Ab) (p1 : Ab) : Option Bool :=
 Cm N p0 p1 (fun (_ : Unit) =>
  some false) N 0
def Cd (N : Nat) (p0 : List Ab) (j3 : Unit → Option (Int × Int)) : Nat → Int → Option (Int × Int)
 | 0, _ => none
 | n3 + 1, v3 =>
  AJ ((decide (v3 < (p0.length : Int))))
   ((Fz ((0 : Int) ≤ v3 ∧ 0 ≤ (v3).toNat ∧ (v3).toNat ≤ p0.length)).bind fun _ =>
   (Bs p0 v3).bind fun v7 =>
   (DQ N (((p0.drop 0).take ((v3).toNat - 0))) v7).bind fun v8 =>
   AJ v8
    (some (v3, 0))
    (Cd N p0 j3 n3 (wI .i64 (v3 + 1))))
   (j3 ())
def DC (N : Nat) (p0 : List Ab) : Option (Int × Int) :=
 (B6 N p0).bind fun v1 =>
 AJ ((v1 != 0))
  (some (0, v1))
  (Cd N p0 (fun (_ : Unit) =>
   some (0, 15)) N 0)
def B7 (N : Nat) (p1 : List Int) (j4 : Unit → Option Int) : Nat → Int → Option Int
 | 0, _ => none
 | n4 + 1, v4 =>
  AJ ((decide (v4 < (p1.length : Int))))
   (Ba (fun (v7 : Bool) =>
    AJ v7
     (some 7)
     (B7 N p1 j4 n4 (wI .i64 (v4 + 1))))
   fun j7 =>
   (Bs p1 v4).bind fun v8 =>
   AJ ((decide (v8 < 1)))
    (j7 true)
    ((Bs p1 v4).bind fun v10 =>
    j7 (decide (4 < v10))))
   (j4 ())
def Di (N : Nat) (p0 : Aa) (p1 : List Int) : Option Int :=
 (Bj N p0).bind fun v1 =>
 AJ ((v1 != 0))
  (some v1)
  (AJ (((p1.length : Int) != (p0.fc.length : Int)))
   (some 6)
   (B7 N p1 (fun (_ : Unit) =>
    some 0) N 0))
def C1 (N : Nat) (p0 : Aa) (p1 : List Int) (p2 : List Ao) (p3 : List Ab) : Option Int :=
 (Di N p0 p1).bind fun v1 =>
 AJ ((v1 != 0))
  (some v1)
  ((CZ N p0 p2).bind fun v3 =>
  AJ ((v3 != 0))
   (some v3)
   ((B6 N p3).bind fun v5 =>
   some v5))
def CB (N : Nat) (p0 : B3) : Option Bool :=
 Ba (fun (v1 : Bool) =>
  AJ v1
   ((DY N).bind fun v6 =>
   some v6)
   ((AX N p0.fH).bind fun v7 =>
   (EF N ((Aa.mk p0.fb.fc p0.fb.fj p0.fb.fq p0.fb.fd)) v7).bind fun v8 =>
   (CY N ((Aa.mk p0.fb.fc p0.fb.fj p0.fb.fq p0.fb.fd)) p0.fH).bind fun v9 =>
   (AX N p0.fH).bind fun v10 =>
   (EH N ((Aa.mk p0.fb.fc p0.fb.fj p0.fb.fq p0.fb.fd)) p0.ft v10).bind fun v11 =>
   (C4 N ((Aa.mk p0.fb.fc p0.fb.fj p0.fb.fq p0.fb.fd)) p0.ft p0.fH).bind fun v12 =>
   (AX N p0.fH).bind fun v13 =>
   (EZ N v13).bind fun v14 =>
   (DC N p0.fH).bind fun v15 =>
   Ba (fun (v16 : Bool) =>
    AJ v16
     (some false)
     ((C1 N ((Aa.mk p0.fb.fc p0.fb.fj p0.fb.fq p0.fb.fd)) p0.fS p0.ft p0.fH).bind fun v23 =>
     AJ ((v23 != 0))
      (some true)
      ((AX N p0.fH).bind fun v25 =>
      (DW N ((Aa.mk p0.fb.fc p0.fb.fj p0.fb.fq p0.fb.fd)) p0.fS p0.ft v25).bind fun v26 =>
      AJ ((v26.2.2 == 15))
       (Ba (fun (v28 : Bool) =>
        some v28)
       fun j28 =>
       AJ ((v8.2 == 15))
        (AJ ((v11.2 == 15))
         (j28 (v14.2 == 15))
         (j28 false))
        (j28 false))
       (Ba (fun (v31 : Bool) =>
        some v31)
       fun j31 =>
       AJ ((v26.2.2 == 0))
        (AJ ((v8.2 != 0))
         (AJ ((v11.2 != 0))
          (AJ ((v14.2 != 0))
           (j31 true)
           (j31 (decide (v26.1 ≤ v14.1))))
          (AJ ((decide (v26.1 ≤ v11.1)))
           (AJ ((v14.2 != 0))
            (j31 true)
            (j31 (decide (v26.1 ≤ v14.1))))
           (j31 false)))
         (AJ ((decide (v26.1 ≤ v8.1)))
          (AJ ((v11.2 != 0))
           (AJ ((v14.2 != 0))
            (j31 true)
            (j31 (decide (v26.1 ≤ v14.1))))
           (AJ ((decide (v26.1 ≤ v11.1)))
            (AJ ((v14.2 != 0))
             (j31 true)
             (j31 (decide (v26.1 ≤ v14.1))))
            (j31 false)))
          (j31 false)))
        (j31 false)))))
   fun j16 =>
   AJ ((v8.1 != v9.1))
    (j16 true)
    (AJ ((v8.2 != v9.2))
     (j16 true)
     (AJ ((v11.1 != v12.1))
      (j16 true)
      (AJ ((v11.2 != v12.2))
       (j16 true)
       (AJ ((v14.1 != v15.1))
        (j16 true)
        (j16 (v14.2 != v15.2))))))))
 fun j1 =>
 (DY N).bind fun v2 =>
 AJ ((!v2))
  (j1 true)
  ((Cs N ((B3.mk ((Aa.mk p0.fb.fc p0.fb.fj p0.fb.fq p0.fb.fd)) p0.fS p0.ft p0.fH))).bind fun v4 =>
  j1 (!v4))
def DA (N : Nat) (p0 : List Int) (j1 : Unit → Option Int) : Nat → (Int × Int) → Option Int
 | 0, _ => none
 | n1 + 1, v1 =>
  AJ ((decide (v1.2 < (p0.length : Int))))
   ((Bs p0 v1.2).bind fun v4 =>
   AJ ((decide (v1.1 < v4)))
    (some v1.2)
    ((Bs p0 v1.2).bind fun v6 =>
    DA N p0 j1 n1 ((wI .i64 (v1.1 - v6)), (wI .i64 (v1.2 + 1)))))
   (j1 ())
def ES (N : Nat) (p0 : List Int) (p1 : Int) : Option Int :=
 DA N p0 (fun (_ : Unit) =>
  some ((-1))) N (p1, 0)
def ET (_ : Nat) (p0 : Af) (p1 : Int) (p2 : Int) : Option Bool :=
 Ba (fun (v1 : Bool) =>
  some v1)
 fun j1 =>
 AJ ((decide (0 ≤ p2)))
  ((Bs p0.fh p1).bind fun v3 =>
  AJ ((p2 == v3))
   (j1 true)
   ((Bs p0.ff p1).bind fun v5 =>
   j1 (p2 == v5)))
  (j1 false)
def Lq {α : Type} (w : α → Prop) (xs : List α) : Prop := ∀ x, x ∈ xs → w x
def He (n : Int) : Prop := (Lit.int .i64 n).wf = true
def R3 (n : Int) : Prop := (Lit.int .u8 n).wf = true
def K0 (x : AL) : Prop := He x.fa ∧ He x.fk ∧ He x.fF ∧ (fun _ => True) x.fQ ∧ (Lq (Lq (fun _ => True))) x.fJ ∧ (Lq (Lq (fun _ => True))) x.fw ∧ True
def Lx (x : Aa) : Prop := (Lq He) x.fc ∧ (Lq He) x.fj ∧ (Lq He) x.fq ∧ (Lq K0) x.fd ∧ True
def MK (x : Ao) : Prop := He x.fa ∧ He x.fm ∧ He x.fr ∧ True
def Ju (x : Ab) : Prop := He x.fi ∧ He x.fa ∧ He x.fD ∧ He x.fE ∧ He x.fK ∧ He x.fm ∧ He x.fu ∧ He x.fI ∧ He x.fv ∧ He x.fr ∧ He x.fO ∧ True
def zFS (x : B3) : Prop := Lx x.fb ∧ (Lq He) x.fS ∧ (Lq MK) x.ft ∧ (Lq Ju) x.fH ∧ True
open Go.RowKit
open Go.Proofs
abbrev CV (x : AL) : List C := [iC x.fa, iC x.fk, iC x.fF, .pure (.val (.bool x.fQ)), sC (x.fJ.map (L9 eB)), sC (x.fw.map (L9 eB))]
abbrev Al (x : Aa) : List C := [sC (x.fc.map As), sC (x.fj.map As), sC (x.fq.map As), sC (x.fd.map Bw)]
abbrev BY (x : Ao) : List C := [iC x.fa, iC x.fm, iC x.fr]
abbrev AP (x : Ab) : List C := [iC x.fi, iC x.fa, iC x.fD, iC x.fE, iC x.fK, iC x.fm, iC x.fu, iC x.fI, iC x.fv, iC x.fr, iC x.fO]
abbrev FV (x : B3) : List C := [sC (x.fb.fc.map As), sC (x.fb.fj.map As), sC (x.fb.fq.map As), sC (x.fb.fd.map Bw), sC (x.fS.map As), sC (x.ft.map AQ), sC (x.fH.map Aw)]
abbrev Bp (x : Af) : List C := [sC (x.fh.map As), sC (x.ff.map As), sC (x.fg.map DO)]
abbrev AA (x : Ai) : List C := [sC (x.fb.fc.map As), sC (x.fb.fj.map As), sC (x.fb.fq.map As), sC (x.fb.fd.map Bw), sC (x.ft.map AQ), iC x.fi, iC x.fC, sC (x.fe.fh.map As), sC (x.fe.ff.map As), sC (x.fe.fg.map DO)]
abbrev AZ (x : AD) : List C := [iC x.fi, .pure (.val (.bool x.fN)), .pure (.val (.bool x.fM)), sC (x.fe.fh.map As), sC (x.fe.ff.map As), sC (x.fe.fg.map DO)]
theorem Ax : Tryz.prog.follows .mixedOrders = true := by kernel_rfl
theorem wq {X : Hc} {y : Code} {id : Nat} {ops : Array Oper} {dr : Bool} {Q : Exit → St → Prop} {st : St} {n : Nat} (hn : ops.size = n) (h : Bd zA X ops dr (fun st' => W zA X y Q st') n 0 st []) : W zA X (.seq (.region id ops dr) y) Q st := Yx Ax hn h
theorem wp {X : Hc} {y z : Code} {id : Nat} {ops : Array Oper} {dr : Bool} {Q : Exit → St → Prop} {st : St} {n : Nat} (hn : ops.size = n) (h : Bd zA X ops dr (fun st' => W zA X y (NJ (W zA X z Q) Q) st') n 0 st []) : W zA X (.seq (.seq (.region id ops dr) y) z) Q st := AT (Yx Ax hn h)
theorem FB : Eo zA 110 false = true := by kernel_rfl
theorem Fj : Eo zA 112 true = true := by kernel_rfl
theorem H8 : Eo zA 113 false = true := by kernel_rfl
theorem WQ : Eo zA 120 false = true := by kernel_rfl
theorem J4 : Eo zA 125 false = true := by kernel_rfl
theorem UN : Eo zA 164 false = true := by kernel_rfl
theorem HW : Eo zA 2 false = true := by kernel_rfl
theorem Bm : Eo zA 22 false = true := by kernel_rfl
theorem Fl : Eo zA 23 false = true := by kernel_rfl
theorem Dg : Eo zA 25 true = true := by kernel_rfl
theorem PW : Eo zA 26 false = true := by kernel_rfl
theorem Ov : Eo zA 27 false = true := by kernel_rfl
theorem X1 : Eo zA 29 true = true := by kernel_rfl
theorem A4 : Eo zA 3 false = true := by kernel_rfl
theorem Fe : Eo zA 37 true = true := by kernel_rfl
theorem HJ : Eo zA 38 false = true := by kernel_rfl
theorem Rk : Eo zA 4 false = true := by kernel_rfl
theorem Cc : Eo zA 40 true = true := by kernel_rfl
theorem I1 : Eo zA 67 true = true := by kernel_rfl
theorem Kk : Eo zA 73 true = true := by kernel_rfl
theorem Ys : Eo zA 9 false = true := by kernel_rfl
theorem Tx : SS zA 209 8 9 = true := by kernel_rfl
theorem Ot : GJ zA 113 1 = true := by kernel_rfl
theorem RD : GJ zA 3 8 = true := by kernel_rfl
theorem Wj : GJ zA 37 88 = true := by kernel_rfl
theorem UT : GJ zA 40 72 = true := by kernel_rfl
theorem Ef : Bv zA 112 0 0 = true := by kernel_rfl
theorem Cq : Bv zA 112 1 1 = true := by kernel_rfl
theorem Hb : Bv zA 112 2 2 = true := by kernel_rfl
theorem PC : Bv zA 112 3 3 = true := by kernel_rfl
theorem G8 : Bv zA 112 4 4 = true := by kernel_rfl
theorem Er : Bv zA 112 5 5 = true := by kernel_rfl
theorem Pe : Bv zA 166 0 0 = true := by kernel_rfl
theorem PT : Bv zA 166 1 1 = true := by kernel_rfl
theorem P0 : Bv zA 166 2 2 = true := by kernel_rfl
theorem P3 : Bv zA 166 3 3 = true := by kernel_rfl
theorem BG : Bv zA 25 0 0 = true := by kernel_rfl
theorem Gk : Bv zA 25 1 1 = true := by kernel_rfl
theorem JC : Bv zA 25 2 2 = true := by kernel_rfl
theorem BN : Bv zA 25 3 3 = true := by kernel_rfl
theorem IM : Bv zA 29 0 0 = true := by kernel_rfl
theorem Od : Bv zA 29 1 4 = true := by kernel_rfl
theorem KT : Bv zA 29 2 5 = true := by kernel_rfl
theorem Hw : Bv zA 29 3 6 = true := by kernel_rfl
theorem Hs : Bv zA 37 0 0 = true := by kernel_rfl
theorem Cg : Bv zA 37 1 1 = true := by kernel_rfl
theorem Ky : Bv zA 37 10 10 = true := by kernel_rfl
theorem GS : Bv zA 37 2 2 = true := by kernel_rfl
theorem GT : Bv zA 37 3 3 = true := by kernel_rfl
theorem Hy : Bv zA 37 4 4 = true := by kernel_rfl
theorem Jx : Bv zA 37 5 5 = true := by kernel_rfl
theorem Ey : Bv zA 37 6 6 = true := by kernel_rfl
theorem Ia : Bv zA 37 7 7 = true := by kernel_rfl
theorem Hv : Bv zA 37 8 8 = true := by kernel_rfl
theorem KQ : Bv zA 37 9 9 = true := by kernel_rfl
theorem Dy : Bv zA 40 0 0 = true := by kernel_rfl
theorem B4 : Bv zA 40 1 1 = true := by kernel_rfl
theorem C8 : Bv zA 40 2 2 = true := by kernel_rfl
theorem Dh : Bv zA 67 0 0 = true := by kernel_rfl
theorem D5 : Bv zA 67 1 1 = true := by kernel_rfl
theorem FU : Bv zA 67 2 2 = true := by kernel_rfl
theorem KL : Bv zA 73 0 0 = true := by kernel_rfl
theorem Jz : Bv zA 73 1 1 = true := by kernel_rfl
theorem L8 : Bv zA 73 2 2 = true := by kernel_rfl
theorem Jy : Bv zA 73 3 3 = true := by kernel_rfl
theorem OD : Bv zA 81 0 0 = true := by kernel_rfl
theorem N8 : Bv zA 81 1 4 = true := by kernel_rfl
theorem JE : Bv zA 81 2 5 = true := by kernel_rfl
theorem H5 : Bv zA 81 3 6 = true := by kernel_rfl
theorem Kv : Bv zA 81 4 7 = true := by kernel_rfl
theorem WV : Ay zA 101 = true := by kernel_rfl
theorem Q5 : Ay zA 102 = true := by kernel_rfl
theorem Xt : Ay zA 103 = true := by kernel_rfl
theorem UZ : Ay zA 104 = true := by kernel_rfl
theorem Xo : Ay zA 106 = true := by kernel_rfl
theorem Xx : Ay zA 107 = true := by kernel_rfl
theorem Wy : Ay zA 108 = true := by kernel_rfl
theorem Xg : Ay zA 109 = true := by kernel_rfl
theorem WB : Ay zA 11 = true := by kernel_rfl
theorem W9 : Ay zA 110 = true := by kernel_rfl
theorem Wt : Ay zA 111 = true := by kernel_rfl
theorem WN : Ay zA 112 = true := by kernel_rfl
theorem Xq : Ay zA 113 = true := by kernel_rfl
theorem Xa : Ay zA 114 = true := by kernel_rfl
theorem ST : Ay zA 115 = true := by kernel_rfl
theorem Xl : Ay zA 116 = true := by kernel_rfl
theorem SY : Ay zA 117 = true := by kernel_rfl
theorem WY : Ay zA 118 = true := by kernel_rfl
theorem U2 : Ay zA 119 = true := by kernel_rfl
theorem Yo : Ay zA 12 = true := by kernel_rfl
theorem Vj : Ay zA 120 = true := by kernel_rfl
theorem W8 : Ay zA 121 = true := by kernel_rfl
theorem Wp : Ay zA 122 = true := by kernel_rfl
theorem W5 : Ay zA 123 = true := by kernel_rfl
theorem U1 : Ay zA 125 = true := by kernel_rfl
theorem Wa : Ay zA 127 = true := by kernel_rfl
theorem Vx : Ay zA 13 = true := by kernel_rfl
theorem TP : Ay zA 14 = true := by kernel_rfl
theorem Vb : Ay zA 143 = true := by kernel_rfl
theorem Xd : Ay zA 144 = true := by kernel_rfl
theorem UX : Ay zA 145 = true := by kernel_rfl
theorem Xf : Ay zA 147 = true := by kernel_rfl
theorem Wx : Ay zA 148 = true := by kernel_rfl
theorem To : Ay zA 149 = true := by kernel_rfl
theorem Xi : Ay zA 150 = true := by kernel_rfl
theorem UM : Ay zA 151 = true := by kernel_rfl
theorem U5 : Ay zA 152 = true := by kernel_rfl
theorem U9 : Ay zA 153 = true := by kernel_rfl
theorem U0 : Ay zA 154 = true := by kernel_rfl
theorem W7 : Ay zA 155 = true := by kernel_rfl
theorem WW : Ay zA 156 = true := by kernel_rfl
theorem XE : Ay zA 157 = true := by kernel_rfl
theorem Yf : Ay zA 16 = true := by kernel_rfl
theorem Ww : Ay zA 173 = true := by kernel_rfl
theorem WL : Ay zA 174 = true := by kernel_rfl
theorem Xj : Ay zA 175 = true := by kernel_rfl
theorem Xu : Ay zA 176 = true := by kernel_rfl
theorem Wo : Ay zA 177 = true := by kernel_rfl
theorem WX : Ay zA 178 = true := by kernel_rfl
theorem Xc : Ay zA 179 = true := by kernel_rfl
theorem Wn : Ay zA 180 = true := by kernel_rfl
theorem Wf : Ay zA 189 = true := by kernel_rfl
theorem X7 : Ay zA 19 = true := by kernel_rfl
theorem Wg : Ay zA 190 = true := by kernel_rfl
theorem Wb : Ay zA 191 = true := by kernel_rfl
theorem We : Ay zA 192 = true := by kernel_rfl
theorem XC : Ay zA 193 = true := by kernel_rfl
theorem Vg : Ay zA 197 = true := by kernel_rfl
theorem Ws : Ay zA 198 = true := by kernel_rfl
theorem Wz : Ay zA 199 = true := by kernel_rfl
theorem Wr : Ay zA 200 = true := by kernel_rfl
theorem WI : Ay zA 22 = true := by kernel_rfl
theorem Yq : Ay zA 23 = true := by kernel_rfl
theorem X0 : Ay zA 26 = true := by kernel_rfl
theorem Yn : Ay zA 27 = true := by kernel_rfl
theorem XT : Ay zA 28 = true := by kernel_rfl
theorem XQ : Ay zA 29 = true := by kernel_rfl
theorem Yp : Ay zA 30 = true := by kernel_rfl
theorem Yk : Ay zA 31 = true := by kernel_rfl
theorem TD : Ay zA 33 = true := by kernel_rfl
theorem XN : Ay zA 34 = true := by kernel_rfl
theorem X6 : Ay zA 35 = true := by kernel_rfl
theorem XP : Ay zA 36 = true := by kernel_rfl
theorem XY : Ay zA 37 = true := by kernel_rfl
theorem Xh : Ay zA 39 = true := by kernel_rfl
theorem Wl : Ay zA 40 = true := by kernel_rfl
theorem X2 : Ay zA 41 = true := by kernel_rfl
theorem Tz : Ay zA 43 = true := by kernel_rfl
theorem Yh : Ay zA 44 = true := by kernel_rfl
theorem XK : Ay zA 45 = true := by kernel_rfl
theorem XU : Ay zA 46 = true := by kernel_rfl
theorem X8 : Ay zA 47 = true := by kernel_rfl
theorem T9 : Ay zA 55 = true := by kernel_rfl
theorem Qn : Ay zA 56 = true := by kernel_rfl
theorem Vs : Ay zA 57 = true := by kernel_rfl
theorem XZ : Ay zA 58 = true := by kernel_rfl
theorem Tk : Ay zA 59 = true := by kernel_rfl
theorem WA : Ay zA 60 = true := by kernel_rfl
theorem XS : Ay zA 61 = true := by kernel_rfl
theorem XA : Ay zA 62 = true := by kernel_rfl
theorem XW : Ay zA 63 = true := by kernel_rfl
theorem WG : Ay zA 64 = true := by kernel_rfl
theorem XO : Ay zA 65 = true := by kernel_rfl
theorem XF : Ay zA 66 = true := by kernel_rfl
theorem Ye : Ay zA 67 = true := by kernel_rfl
theorem XL : Ay zA 70 = true := by kernel_rfl
theorem Yb : Ay zA 71 = true := by kernel_rfl
theorem W6 : Ay zA 72 = true := by kernel_rfl
theorem X4 : Ay zA 73 = true := by kernel_rfl
theorem Wm : Ay zA 74 = true := by kernel_rfl
theorem Vl : Ay zA 75 = true := by kernel_rfl
theorem T4 : Ay zA 76 = true := by kernel_rfl
theorem Xs : Ay zA 79 = true := by kernel_rfl
theorem TN : Ay zA 80 = true := by kernel_rfl
theorem WM : Ay zA 81 = true := by kernel_rfl
theorem Xn : Ay zA 82 = true := by kernel_rfl
theorem XX : Ay zA 83 = true := by kernel_rfl
theorem Yj : Ay zA 86 = true := by kernel_rfl
theorem Ya : Ay zA 92 = true := by kernel_rfl
theorem Vk : OF zA 214 .u64 = true := by kernel_rfl
theorem Rq : OF zA 234 .u64 = true := by kernel_rfl
theorem Q4 : OF zA 242 .u32 = true := by kernel_rfl
theorem Yt : OF zA 3 .i64 = true := by kernel_rfl
theorem WD : Tryz.prog.underlying 3 = some (.int .i64) := by kernel_rfl
theorem QA : Tryz.prog.underlying 164 = some (.map 3 3) := by kernel_rfl
theorem Xv : GV zA 166 = some [(0, 1), (1, 1), (2, 1), (3, 1)] := by kernel_rfl
theorem X9 : GV zA 25 = some [(0, 1), (1, 1), (2, 1), (3, 1)] := by kernel_rfl
theorem RI : GV zA 37 = some [(0, 1), (1, 1), (2, 1), (3, 1), (4, 1), (5, 1), (6, 1), (7, 1), (8, 1), (9, 1), (10, 1)] := by kernel_rfl
theorem HB : GV zA 40 = some [(0, 1), (1, 1), (2, 1)] := by kernel_rfl
theorem UC : GV zA 67 = some [(0, 1), (1, 1), (2, 1)] := by kernel_rfl
theorem Yg : GV zA 73 = some [(0, 1), (1, 1), (2, 1), (3, 3)] := by kernel_rfl
theorem Wk : GV zA 81 = some [(0, 4), (4, 1), (5, 1), (6, 1), (7, 3)] := by kernel_rfl
theorem Vd : Ua zA 37 = some [0, 0, 0, 0, 0, 0, 0, 0, 0, 0, 0] := by kernel_rfl
theorem Eg : sliceB zA 110 125 = true := by kernel_rfl
theorem Ih : sliceB zA 125 4 = true := by kernel_rfl
theorem Ib : sliceB zA 135 40 = true := by kernel_rfl
theorem Cv : sliceB zA 167 2 = true := by kernel_rfl
theorem AG : sliceB zA 22 3 = true := by kernel_rfl
theorem De : sliceB zA 23 112 = true := by kernel_rfl
theorem G6 : sliceB zA 26 67 = true := by kernel_rfl
theorem DB : sliceB zA 27 37 = true := by kernel_rfl
theorem Ea : sliceB zA 38 113 = true := by kernel_rfl
theorem UO : sliceB zA 89 9 = true := by kernel_rfl
theorem UU : (Tryz.prog.underlying 214).isSome = true := by kernel_rfl
theorem Te : (Tryz.prog.underlying 234).isSome = true := by kernel_rfl
theorem Rj : (Tryz.prog.underlying 242).isSome = true := by kernel_rfl
theorem Yw : (Tryz.prog.underlying 3).isSome = true := by kernel_rfl
theorem YA : (Tryz.prog.underlying 5).isSome = true := by kernel_rfl
theorem O9 : LD zA 9 = true := by kernel_rfl
theorem B1 : GH zA 112 6 = true := by kernel_rfl
theorem Ek : GH zA 113 1 = true := by kernel_rfl
theorem Xe : GH zA 120 1 = true := by kernel_rfl
theorem J1 : GH zA 125 1 = true := by kernel_rfl
theorem I2 : GH zA 2 1 = true := by kernel_rfl
theorem W0 : GH zA 209 8 = true := by kernel_rfl
theorem Xp : GH zA 22 1 = true := by kernel_rfl
theorem Da : GH zA 25 4 = true := by kernel_rfl
theorem Yd : GH zA 29 7 = true := by kernel_rfl
theorem Db : GH zA 3 1 = true := by kernel_rfl
theorem CG : GH zA 37 11 = true := by kernel_rfl
theorem XV : GH zA 38 1 = true := by kernel_rfl
theorem Sa : GH zA 4 1 = true := by kernel_rfl
theorem AY : GH zA 40 3 = true := by kernel_rfl
theorem Gr : GH zA 67 3 = true := by kernel_rfl
theorem G1 : GH zA 73 6 = true := by kernel_rfl
theorem XI : GH zA 9 1 = true := by kernel_rfl
theorem J0 : DM zA 112 = some (.agg #[.int .i64 0, .int .i64 0, .int .i64 0, .bool false, .slice none 0 0, .slice none 0 0]) := by kernel_rfl
theorem MJ : DM zA 113 = some (.int .u8 0) := by kernel_rfl
theorem Xr : DM zA 120 = some (.pointer none) := by kernel_rfl
theorem W4 : DM zA 166 = some (.agg #[.int .i64 0, .int .i64 0, .bool false, .map none]) := by kernel_rfl
theorem Vh : DM zA 2 = some (.int .i64 0) := by kernel_rfl
theorem UR : DM zA 209 = some (.agg #[.string ⟨#[]⟩, .string ⟨#[]⟩, .string ⟨#[]⟩, .string ⟨#[]⟩, .string ⟨#[]⟩, .string ⟨#[]⟩, .string ⟨#[]⟩, .string ⟨#[]⟩]) := by kernel_rfl
theorem Xk : DM zA 25 = some (.agg #[.slice none 0 0, .slice none 0 0, .slice none 0 0, .slice none 0 0]) := by kernel_rfl
theorem Pa : DM zA 3 = some (.int .i64 0) := by kernel_rfl
theorem Jb : DM zA 37 = some (.agg #[.int .i64 0, .int .i64 0, .int .i64 0, .int .i64 0, .int .i64 0, .int .i64 0, .int .i64 0, .int .i64 0, .int .i64 0, .int .i64 0, .int .i64 0]) := by kernel_rfl
theorem DI : DM zA 40 = some (.agg #[.slice none 0 0, .slice none 0 0, .slice none 0 0]) := by kernel_rfl
theorem Pd : DM zA 67 = some (.agg #[.int .i64 0, .int .i64 0, .int .i64 0]) := by kernel_rfl
theorem QB : DM zA 73 = some (.agg #[.int .i64 0, .bool false, .bool false, .slice none 0 0, .slice none 0 0, .slice none 0 0]) := by kernel_rfl
theorem WR : DM zA 81 = some (.agg #[.slice none 0 0, .slice none 0 0, .slice none 0 0, .slice none 0 0, .slice none 0 0, .int .i64 0, .int .i64 0, .slice none 0 0, .slice none 0 0, .slice none 0 0]) := by kernel_rfl
theorem YB : DM zA 9 = some (.string ⟨#[]⟩) := by kernel_rfl
set_option maxRecDepth 10000
theorem Gw (N : Nat) (p0 : Int) (p1 : Int) (r : Bool) (h : Du N p0 p1 = some r) : Ar zA 102 [iD p0, iD p1] [] (bD r) := by
 unfold Du at h
 refine cw (n := 12) (rs := [.tmp 4]) Tryz.func102 fun w0 S0 => ?_
 refine wq rfl (qe rfl ?_)
 refine AM h (fun v1 => mk [(4, bD v1)] []) (fun j1 h => ?_) (fun v1 h => ?_)
 ·refine Aj Ax rfl (qm rfl (Dt rfl (qm rfl ?_)))
  refine Ce 7 h rfl (fun h => ?_) fun h => ?_
  ·refine qw 2 rfl (A1 rfl (qp rfl (qe rfl ?_)))
   exact sn [] h
  ·refine qw 3 rfl (qp rfl (qe rfl ?_))
   exact sn [] h
 ·obtain rfl := sj h
  refine Ae (sm [] [(4, bD v1)] [] rfl rfl) (Aq ?_)
  exact ⟨⟨[_], tm, rfl⟩, tv⟩
theorem O7 (N : Nat) (p0 : Int) (p1 : Bool) (r : Bool) (h : FR N p0 p1 = some r) : Ar zA 144 [iD p0, bD p1] [] (bD r) := by
 unfold FR at h
 refine cw (n := 23) (rs := [.tmp 4]) Tryz.func144 fun w0 S0 => ?_
 refine wq rfl (qe rfl ?_)
 refine AM h (fun v1 => mk [(4, bD v1)] []) (fun j1 h => ?_) (fun v1 h => ?_)
 ·refine Aj Ax rfl (qm rfl (AS rfl (qm rfl ?_)))
  refine Ce 7 h rfl (fun h => ?_) fun h => ?_
  ·refine qw 2 rfl (qp rfl (qw 4 rfl (qu rfl (qu rfl (qw 2 rfl (qu rfl (qu rfl (qn rfl (qp rfl (qe rfl ?_))))))))))
   exact sn [] h
  ·refine qm rfl (AS rfl (qp rfl (qm rfl ?_)))
   refine Ce 11 h rfl (fun h => ?_) fun h => ?_
   ·refine qw 3 rfl (qu rfl (qu rfl (qw 2 rfl (qu rfl (qu rfl (qn rfl (qp rfl (qe rfl ?_))))))))
    exact sn [] h
   ·refine qm rfl (AS rfl (qm rfl ?_))
    refine Ce 14 h rfl (fun h => ?_) fun h => ?_
    ·refine qw 2 rfl (qp rfl (qw 2 rfl (Cl rfl (qp rfl (qp rfl (qe rfl ?_))))))
     exact sn [] h
    ·refine qm rfl (AS rfl (qp rfl (qm rfl ?_)))
     refine Ce 18 h rfl (fun h => ?_) fun h => ?_
     ·refine qm rfl (Cl rfl (qp rfl (qp rfl (qe rfl ?_))))
      exact sn [] h
     ·refine qw 2 rfl (qp rfl (qp rfl (qe rfl ?_)))
      exact sn [] h
 ·obtain rfl := sj h
  refine Ae (sm [] [(4, bD v1)] [] rfl rfl) (Aq ?_)
  exact ⟨⟨[_], tm, rfl⟩, tv⟩
theorem K9 (N : Nat) (p0 : List Bool) (p1 : Int) (r : Bool) (h : Dl N p0 p1 = some r) : Ar zA 174 [pD (.sl (p0.map eB)), oD (.rop [.val (.int .i64 p1)])] [] (bD r) := by
 unfold Dl at h
 refine cw (n := 8) (rs := [.tmp 3]) Tryz.func174 fun w0 S0 => ?_
 refine wq rfl (qa rfl (Ac (wq rfl (qm rfl (AK Ih rfl (qk A4 rfl (Bb rfl (qe rfl ?_))))))))
 obtain rfl := sj h
 refine Ae (sm [] [(3, bD (((p0.length : Int) != p1)))] [] rfl rfl) (Aq ?_)
 exact ⟨⟨[_], tm, rfl⟩, tv⟩
theorem Hi (N : Nat) (p0 : List (List Bool)) (p1 : (List Bool) → Option Bool) (r : Int) (h : CE N p0 p1 = some r) : Ar zA 189 [pD (.sl (p0.map (L9 eB))), oD (.clo (Il (LL false (L9 eB)) tB p1))] [] (iD r) := by
 unfold CE at h
 refine cw (n := 19) (rs := [.tmp 4]) Tryz.func189 fun w0 S0 => ?_
 refine wq rfl (qa rfl (Ac (wp rfl (qm rfl (AK Eg rfl (qm rfl (Ac ?_)))))))
 refine A0 (L := Be N p0 p1) h (fun v1 => mk [(0, pD (.sl (p0.map (L9 eB)))), (1, oD (.clo (Il (LL false (L9 eB)) tB p1))), (7, iD ((p0.length : Int))), (8, iD v1)] []) (fun v2 => mk [] []) (fun _ _ => rfl) (sm [] _ _ rfl rfl) (fun j1 n1 v1 h => ?_) (fun v2 s h hs => ?_)
 ·unfold Be at h
  refine wq rfl (A1 rfl (Ac (AT ?_)))
  refine Bg h (fun h => ?_) fun h => ?_
  ·refine Ap (AT (AU (wq rfl (qm rfl (qa rfl (Ac (wq rfl (qw 3 rfl ?_))))))))
   refine BU h fun v4 a4 b4 h => qi Eg J1 a4 (Ah b4) rfl (qk J4 rfl ?_)
   refine BS h fun v5 a5 h => Ko (ds0 := [_]) (ar := (LL false (L9 eB)) v4) (.p rfl) rfl rfl ⟨rfl, tv⟩ rfl rfl rfl (KB (KV _ _ (Wd X5)) a5) ?_
   refine Ac ?_
   refine Bg h (fun h => ?_) fun h => ?_
   ·refine wq rfl (qm rfl (qe rfl ?_))
    obtain rfl := sj h
    refine Ae (sm [] [(4, iD v1)] [] rfl rfl) (Aq ?_)
    exact ⟨⟨[_], tm, rfl⟩, tv⟩
   ·refine Ap (Aj Ax rfl (Ch rfl (qm rfl (Ac ?_))))
    exact sn [] h
  ·refine BT ?_
   exact sn [] h
 ·refine Ae hs (wq rfl (qe rfl ?_))
  obtain rfl := sj h
  refine Ae (sm [] [(4, iD ((-1)))] [] rfl rfl) (Aq ?_)
  exact ⟨⟨[_], tm, rfl⟩, tv⟩
theorem GD (N : Nat) (p0 : List (List Bool)) (p1 : (List Bool) → Option Bool) (r : Bool) (h : Ci N p0 p1 = some r) : Ar zA 173 [pD (.sl (p0.map (L9 eB))), oD (.clo (Il (LL false (L9 eB)) tB p1))] [] (bD r) := by
 unfold Ci at h
 refine cw (n := 9) (rs := [.tmp 4]) Tryz.func173 fun w0 S0 => ?_
 refine wq rfl (qa rfl (Ac (wq rfl (qw 2 rfl ?_))))
 refine BS h fun v1 a1 h => Av [] (Hi N p0 p1 v1 a1) Wf rfl (Dt rfl (qe rfl ?_))
 obtain rfl := sj h
 refine Ae (sm [] [(4, bD ((decide (0 ≤ v1))))] [] rfl rfl) (Aq ?_)
 exact ⟨⟨[_], tm, rfl⟩, tv⟩
theorem Jn (N : Nat) (p0 : List (List Bool)) (p1 : Int) (p2 : Int) (r : Bool) (h : Em N p0 p1 p2 = some r) : Ar zA 145 [pD (.sl (p0.map (L9 eB))), iD p1, iD p2] [] (bD r) := by
 unfold Em at h
 refine cw (n := 17) (rs := [.tmp 6]) Tryz.func145 fun w0 S0 => ?_
 refine wq rfl (qb rfl (qe rfl ?_))
 refine AM h (fun v1 => mk [(6, bD v1)] []) (fun j1 h => ?_) (fun v1 h => ?_)
 ·refine Aj Ax rfl (qm rfl (AK Eg rfl (qm rfl (AS rfl (qm rfl ?_)))))
  refine Ce 11 h rfl (fun h => ?_) fun h => ?_
  ·refine qm rfl (FO (Iw 5 [.val (.int .i64 p2)] rfl rfl) ?_)
   refine Mo (capD := [_]) (Il (LL false (L9 eB)) tB ((fun (x : List Bool) => Dl N x p2))) (.g rfl rfl) WL rfl ⟨rfl, tv⟩ rfl (fun ar t ht => by obtain ⟨x, r, rfl, hq, rfl⟩ := ID ht; exact K9 N x p2 r hq) ?_
   refine BS h fun v3 a3 h => Av [] (GD N p0 ((fun (x : List Bool) => Dl N x p2)) v3 a3) Ww rfl (Cl rfl (qp rfl (qe rfl ?_)))
   exact sn [] h
  ·refine qw 4 rfl (qp rfl (qe rfl ?_))
   exact sn [] h
 ·obtain rfl := sj h
  refine Ae (sm [] [(6, bD v1)] [] rfl rfl) (Aq ?_)
  exact ⟨⟨[_], tm, rfl⟩, tv⟩
theorem Ny (N : Nat) (p0 : Aa) (p1 : AL) (r : Int) (h : Fr N p0 p1 = some r) : Ar zA 103 [.e (.agg (Al p0)), .e (.agg (CV p1))] [] (iD r) := by
 unfold Fr at h
 refine cw (n := 87) (rs := [.tmp 4]) Tryz.func103 fun w0 S0 => ?_
 refine wq rfl (qb rfl (qb rfl (qa rfl (Ac (wp rfl (qf Ef rfl (ql A4 rfl (qf PC rfl (ql Rk rfl ?_)))))))))
 refine BS h fun v1 a1 h => Av [] (O7 N p1.fa p1.fQ v1 a1) Xd rfl (Cl rfl (Ac ?_))
 refine Bg h (fun h => ?_) fun h => ?_
 ·refine wq rfl (qe rfl ?_)
  obtain rfl := sj h
  refine Ae (sm [] [(4, iD 1)] [] rfl rfl) (Aq ?_)
  exact ⟨⟨[_], tm, rfl⟩, tv⟩
 ·refine Ap (AT ?_)
  refine AM h (fun v3 => mk [(2, oD (.ptr 2 0)), (3, oD (.ptr 3 0)), (29, bD v3)] [(2, .box (Al p0)), (3, .box (CV p1))]) (fun j3 h => ?_) (fun v3 h => ?_)
  ·refine Aj Ax rfl (qf Cq rfl (ql A4 rfl (qf BG rfl (ql Bm rfl (AK AG rfl ?_)))))
   refine BS h fun v4 a4 h => Av [] (Gw N p1.fk ((p0.fc.length : Int)) v4 a4) Q5 rfl (Cl rfl (qm rfl ?_))
   refine Ce 21 h rfl (fun h => ?_) fun h => ?_
   ·refine qw 7 rfl (qp rfl (Ac ?_))
    exact sn [] h
   ·refine qf Hb rfl (ql A4 rfl (qf BG rfl (ql Bm rfl (AK AG rfl ?_))))
    refine BS h fun v6 a6 h => Av [] (Gw N p1.fF ((p0.fc.length : Int)) v6 a6) Q5 rfl (Cl rfl (qp rfl (Ac ?_)))
    exact sn [] h
  ·refine Bg h (fun h => ?_) fun h => ?_
   ·refine wq rfl (qe rfl ?_)
    obtain rfl := sj h
    refine Ae (sm [] [(4, iD 4)] [] rfl rfl) (Aq ?_)
    exact ⟨⟨[_], tm, rfl⟩, tv⟩
   ·refine Ap (wq rfl (qf BG rfl (ql Bm rfl (qf Cq rfl (ql A4 rfl ?_)))))
    refine BU h fun v8 a8 b8 h => qi AG Db a8 (Ah b8) rfl (qk A4 rfl (qa rfl (Ac (wq rfl (qf Ef rfl (ql A4 rfl (AS rfl (qa rfl (Ac (AT ?_))))))))))
    refine AM h (fun v9 => mk [(3, oD (.ptr 3 0)), (70, bD v9)] [(3, .box (CV p1))]) (fun j9 h => ?_) (fun v9 h => ?_)
    ·refine Aj Ax rfl (qf G8 rfl (ql FB rfl (qm rfl (qf BG rfl (ql Bm rfl (qf Hb rfl (ql A4 rfl ?_)))))))
     refine BU h fun v10 a10 b10 h => qi AG Db a10 (Ah b10) rfl (qk A4 rfl ?_)
     refine BS h fun v11 a11 h => Av [] (Jn N p1.fJ v8 v10 v11 a11) UX rfl (Cl rfl (qm rfl ?_))
     refine Ce 50 h rfl (fun h => ?_) fun h => ?_
     ·refine qw 2 rfl (qu rfl (qu rfl (qu rfl (qu rfl (qu rfl (qu rfl (qn rfl (qp rfl (qw 4 rfl (qu rfl (qu rfl (qu rfl (qu rfl (qn rfl (qp rfl (AH (by kernel_rfl) ?_))))))))))))))))
      exact sn [] h
     ·refine qw 2 rfl ?_
      refine Ce 52 h rfl (fun h => ?_) fun h => ?_
      ·refine qf Er rfl (ql FB rfl (qw 2 rfl ?_))
       refine BS h fun v14 a14 h => Av [] (Jn N p1.fw v8 v8 v14 a14) UX rfl (Cl rfl (qp rfl (qp rfl (qm rfl ?_))))
       refine Ce 61 h rfl (fun h => ?_) fun h => ?_
       ·refine qw 3 rfl (qu rfl (qu rfl (qu rfl (qu rfl (qn rfl (qp rfl (AH (by kernel_rfl) ?_)))))))
        exact sn [] h
       ·refine qm rfl (Cl rfl (qm rfl ?_))
        refine Ce 64 h rfl (fun h => ?_) fun h => ?_
        ·refine qf Er rfl (ql FB rfl (AK Eg rfl (Eu rfl (qp rfl (qp rfl (AH (by kernel_rfl) ?_))))))
         exact sn [] h
        ·refine qw 4 rfl (qp rfl (qp rfl (AH (by kernel_rfl) ?_)))
         exact sn [] h
      ·refine qw 6 rfl (qp rfl (qp rfl (qw 2 rfl (Cl rfl (qm rfl ?_)))))
       refine Ce 64 h rfl (fun h => ?_) fun h => ?_
       ·refine qf Er rfl (ql FB rfl (AK Eg rfl (Eu rfl (qp rfl (qp rfl (AH (by kernel_rfl) ?_))))))
        exact sn [] h
       ·refine qw 4 rfl (qp rfl (qp rfl (AH (by kernel_rfl) ?_)))
        exact sn [] h
    ·refine Bg h (fun h => ?_) fun h => ?_
     ·refine wq rfl (qe rfl ?_)
      obtain rfl := sj h
      refine Ae (sm [] [(4, iD 6)] [] rfl rfl) (Aq ?_)
      exact ⟨⟨[_], tm, rfl⟩, tv⟩
     ·refine Ap (wp rfl (qf Er rfl (ql FB rfl (AK Eg rfl (qm rfl (Ac ?_))))))
      refine A0 (L := Ct N p1) h (fun v19 => mk [(3, oD (.ptr 3 0)), (73, iD ((p1.fw.length : Int))), (74, iD v19)] [(3, .box (CV p1))]) (fun v20 => mk [] []) (fun _ _ => rfl) (sm [] _ _ rfl rfl) (fun j19 n19 v19 h => ?_) (fun v20 s h hs => ?_)
      ·unfold Ct at h
       refine wq rfl (A1 rfl (Ac (AT ?_)))
       refine Bg h (fun h => ?_) fun h => ?_
       ·refine Ap (AT (AU (wq rfl (qm rfl (qa rfl (Ac (wq rfl (qf Er rfl (ql FB rfl (qm rfl ?_))))))))))
        refine BU h fun v22 a22 b22 h => qi Eg J1 a22 (Ah b22) rfl (qk J4 rfl (qm rfl ?_))
        refine BU h fun v23 a23 b23 h => qi Ih Sa a23 (Ah b23) rfl (qk Rk rfl (Cl rfl (Ac ?_)))
        refine Bg h (fun h => ?_) fun h => ?_
        ·refine wq rfl (qe rfl ?_)
         obtain rfl := sj h
         refine Ae (sm [] [(4, iD 1)] [] rfl rfl) (Aq ?_)
         exact ⟨⟨[_], tm, rfl⟩, tv⟩
        ·refine Ap (Aj Ax rfl (Ch rfl (qm rfl (Ac ?_))))
         exact sn [] h
       ·refine BT ?_
        exact sn [] h
      ·refine Ae hs (wq rfl (qe rfl ?_))
       obtain rfl := sj h
       refine Ae (sm [] [(4, iD 0)] [] rfl rfl) (Aq ?_)
       exact ⟨⟨[_], tm, rfl⟩, tv⟩
theorem DT (N : Nat) (p0 : Aa) (r : Int) (h : BI N p0 = some r) : Ar zA 59 [.e (.agg (Al p0))] [] (iD r) := by
 unfold BI at h
 refine cw (n := 81) (rs := [.tmp 2]) Tryz.func59 fun w0 S0 => ?_
 refine wq rfl (qb rfl (qa rfl (Ac (wq rfl (qf BG rfl (ql Bm rfl (AK AG rfl (qa rfl (Ac (AT ?_))))))))))
 refine AM h (fun v1 => mk [(1, oD (.ptr 1 0)), (3, iD ((p0.fc.length : Int))), (19, bD v1)] [(1, .box (Al p0))]) (fun j1 h => ?_) (fun v1 h => ?_)
 ·refine Aj Ax rfl (qm rfl (Eu rfl (qm rfl ?_)))
  refine Ce 14 h rfl (fun h => ?_) fun h => ?_
  ·refine qw 4 rfl (qp rfl (Ac ?_))
   exact sn [] h
  ·refine qf BN rfl (ql Fl rfl (AK De rfl (Eu rfl (qp rfl (Ac ?_)))))
   exact sn [] h
 ·refine Bg h (fun h => ?_) fun h => ?_
  ·refine wq rfl (qe rfl ?_)
   obtain rfl := sj h
   refine Ae (sm [] [(2, iD 3)] [] rfl rfl) (Aq ?_)
   exact ⟨⟨[_], tm, rfl⟩, tv⟩
  ·refine Ap (AT ?_)
   refine AM h (fun v4 => mk [(1, oD (.ptr 1 0)), (31, bD v4)] [(1, .box (Al p0))]) (fun j4 h => ?_) (fun v4 h => ?_)
   ·refine Aj Ax rfl (qf Gk rfl (ql Bm rfl (AK AG rfl (qm rfl (Bb rfl (qm rfl ?_))))))
    refine Ce 25 h rfl (fun h => ?_) fun h => ?_
    ·refine qw 5 rfl (qp rfl (Ac ?_))
     exact sn [] h
    ·refine qf JC rfl (ql Bm rfl (AK AG rfl (qm rfl (Bb rfl (qp rfl (Ac ?_))))))
     exact sn [] h
   ·refine Bg h (fun h => ?_) fun h => ?_
    ·refine wq rfl (qe rfl ?_)
     obtain rfl := sj h
     refine Ae (sm [] [(2, iD 6)] [] rfl rfl) (Aq ?_)
     exact ⟨⟨[_], tm, rfl⟩, tv⟩
    ·refine Ap (wp rfl (qf BG rfl (ql Bm rfl (AK AG rfl (qm rfl (Ac ?_))))))
     refine A0 (L := BB N p0) h (fun v7 => mk [(1, oD (.ptr 1 0)), (33, pD (.sl (p0.fc.map As))), (34, iD ((p0.fc.length : Int))), (35, iD v7)] [(1, .box (Al p0))]) (fun v8 => mk [(1, oD (.ptr 1 0))] [(1, .box (Al p0))]) (fun _ _ => rfl) (sm [] _ _ rfl rfl) (fun j7 n7 v7 h => ?_) (fun v8 s h hs => ?_)
     ·unfold BB at h
      refine wq rfl (A1 rfl (Ac (AT ?_)))
      refine Bg h (fun h => ?_) fun h => ?_
      ·refine Ap (AT (AU (wq rfl (qm rfl ?_))))
       refine BU h fun v10 a10 b10 h => qi AG Db a10 (Ah b10) rfl (qk A4 rfl (qa rfl (qe rfl ?_)))
       refine AM h (fun v11 => mk [(1, oD (.ptr 1 0)), (33, pD (.sl (p0.fc.map As))), (34, iD ((p0.fc.length : Int))), (35, iD v7), (65, bD v11)] [(1, .box (Al p0))]) (fun j11 h => ?_) (fun v11 h => ?_)
       ·refine Aj Ax rfl (qm rfl (A1 rfl (qm rfl ?_)))
        refine Ce 42 h rfl (fun h => ?_) fun h => ?_
        ·refine qw 2 rfl (qp rfl (qw 9 rfl (qp rfl (qw 9 rfl (qp rfl (Ac ?_))))))
         exact sn [] h
        ·refine qm rfl (Eu rfl (qp rfl (qm rfl ?_)))
         refine Ce 46 h rfl (fun h => ?_) fun h => ?_
         ·refine qw 8 rfl (qp rfl (qw 9 rfl (qp rfl (Ac ?_))))
          exact sn [] h
         ·refine qf Gk rfl (ql Bm rfl (qm rfl ?_))
          refine BU h fun v14 a14 b14 h => qi AG Db a14 (Ah b14) rfl (qk A4 rfl (qm rfl ?_))
          refine BS h fun v15 a15 h => Av [] (Gw N v14 v10 v15 a15) Q5 rfl (Cl rfl (qp rfl (qm rfl ?_)))
          refine Ce 56 h rfl (fun h => ?_) fun h => ?_
          ·refine qw 8 rfl (qp rfl (Ac ?_))
           exact sn [] h
          ·refine qf JC rfl (ql Bm rfl (qm rfl ?_))
           refine BU h fun v17 a17 b17 h => qi AG Db a17 (Ah b17) rfl (qk A4 rfl (qm rfl ?_))
           refine BS h fun v18 a18 h => Av [] (Gw N v17 v10 v18 a18) Q5 rfl (Cl rfl (qp rfl (Ac ?_)))
           exact sn [] h
       ·refine Bg h (fun h => ?_) fun h => ?_
        ·refine wq rfl (qe rfl ?_)
         obtain rfl := sj h
         refine Ae (sm [] [(2, iD 7)] [] rfl rfl) (Aq ?_)
         exact ⟨⟨[_], tm, rfl⟩, tv⟩
        ·refine Ap (Aj Ax rfl (Ch rfl (qm rfl (Ac ?_))))
         exact sn [] h
      ·refine BT ?_
       exact sn [] h
     ·refine Ae hs (wp rfl (qf BN rfl (ql Fl rfl (AK De rfl (qm rfl (Ac ?_))))))
      refine A0 (L := Bt N p0) h (fun v20 => mk [(1, oD (.ptr 1 0)), (68, pD (.sl (p0.fd.map Bw))), (69, iD ((p0.fd.length : Int))), (70, iD v20)] [(1, .box (Al p0))]) (fun v21 => mk [] []) (fun _ _ => rfl) (sm [] _ _ rfl rfl) (fun j20 n20 v20 h => ?_) (fun v21 s h hs => ?_)
      ·unfold Bt at h
       refine wq rfl (A1 rfl (Ac (AT ?_)))
       refine Bg h (fun h => ?_) fun h => ?_
       ·refine Ap (AT (AU (wq rfl ?_)))
        refine BU h fun v23 a23 b23 h => qi De B1 a23 (Ah b23) rfl (qK Fj B1 rfl (qz J0 rfl (qs B1 rfl (Ac (wq rfl (qL Dg Da rfl (qL Fj B1 rfl ?_)))))))
        refine BS h fun v24 a24 h => Av [] (Ny N p0 v23 v24 a24) Xt rfl (qa rfl (Ac (wq rfl (qm rfl (Bb rfl (Ac ?_))))))
        refine Bg h (fun h => ?_) fun h => ?_
        ·refine wq rfl (qm rfl (qe rfl ?_))
         obtain rfl := sj h
         refine Ae (sm [] [(2, iD v24)] [] rfl rfl) (Aq ?_)
         exact ⟨⟨[_], tm, rfl⟩, tv⟩
        ·refine Ap (Aj Ax rfl (Ch rfl (qm rfl (Ac ?_))))
         exact sn [] h
       ·refine BT ?_
        exact sn [] h
      ·refine Ae hs (wq rfl (qe rfl ?_))
       obtain rfl := sj h
       refine Ae (sm [] [(2, iD 0)] [] rfl rfl) (Aq ?_)
       exact ⟨⟨[_], tm, rfl⟩, tv⟩
theorem HK (N : Nat) (p0 : List Int) (p1 : Int → Option Bool) (r : Int) (h : C7 N p0 p1 = some r) : Ar zA 147 [pD (.sl (p0.map As)), oD (.clo (Il (LL false As) tB p1))] [] (iD r) := by
 unfold C7 at h
 refine cw (n := 19) (rs := [.tmp 4]) Tryz.func147 fun w0 S0 => ?_
 refine wq rfl (qa rfl (Ac (wp rfl (qm rfl (AK AG rfl (qm rfl (Ac ?_)))))))
 refine A0 (L := A8 N p0 p1) h (fun v1 => mk [(0, pD (.sl (p0.map As))), (1, oD (.clo (Il (LL false As) tB p1))), (7, iD ((p0.length : Int))), (8, iD v1)] []) (fun v2 => mk [] []) (fun _ _ => rfl) (sm [] _ _ rfl rfl) (fun j1 n1 v1 h => ?_) (fun v2 s h hs => ?_)
 ·unfold A8 at h
  refine wq rfl (A1 rfl (Ac (AT ?_)))
  refine Bg h (fun h => ?_) fun h => ?_
  ·refine Ap (AT (AU (wq rfl (qm rfl (qa rfl (Ac (wq rfl (qw 3 rfl ?_))))))))
   refine BU h fun v4 a4 b4 h => qi AG Db a4 (Ah b4) rfl (qk A4 rfl ?_)
   refine BS h fun v5 a5 h => Ko (ds0 := [_]) (ar := (LL false As) v4) (.p rfl) rfl rfl ⟨rfl, tv⟩ rfl rfl rfl (KB (KV _ _ Tb) a5) ?_
   refine Ac ?_
   refine Bg h (fun h => ?_) fun h => ?_
   ·refine wq rfl (qm rfl (qe rfl ?_))
    obtain rfl := sj h
    refine Ae (sm [] [(4, iD v1)] [] rfl rfl) (Aq ?_)
    exact ⟨⟨[_], tm, rfl⟩, tv⟩
   ·refine Ap (Aj Ax rfl (Ch rfl (qm rfl (Ac ?_))))
    exact sn [] h
  ·refine BT ?_
   exact sn [] h
 ·refine Ae hs (wq rfl (qe rfl ?_))
  obtain rfl := sj h
  refine Ae (sm [] [(4, iD ((-1)))] [] rfl rfl) (Aq ?_)
  exact ⟨⟨[_], tm, rfl⟩, tv⟩
theorem GZ (N : Nat) (p0 : List Int) (p1 : Int → Option Bool) (r : Bool) (h : B2 N p0 p1 = some r) : Ar zA 108 [pD (.sl (p0.map As)), oD (.clo (Il (LL false As) tB p1))] [] (bD r) := by
 unfold B2 at h
 refine cw (n := 9) (rs := [.tmp 4]) Tryz.func108 fun w0 S0 => ?_
 refine wq rfl (qa rfl (Ac (wq rfl (qw 2 rfl ?_))))
 refine BS h fun v1 a1 h => Av [] (HK N p0 p1 v1 a1) Xf rfl (Dt rfl (qe rfl ?_))
 obtain rfl := sj h
 refine Ae (sm [] [(4, bD ((decide (0 ≤ v1))))] [] rfl rfl) (Aq ?_)
 exact ⟨⟨[_], tm, rfl⟩, tv⟩
theorem KU (N : Nat) (p0 : Int) (r : Bool) (h : Eh N p0 = some r) : Ar zA 109 [iD p0] [] (bD r) := by
 unfold Eh at h
 refine cw (n := 9) (rs := [.tmp 2]) Tryz.func109 fun w0 S0 => ?_
 refine wq rfl (qe rfl ?_)
 refine AM h (fun v1 => mk [(2, bD v1)] []) (fun j1 h => ?_) (fun v1 h => ?_)
 ·refine Aj Ax rfl (qm rfl (A1 rfl (qm rfl ?_)))
  refine Ce 5 h rfl (fun h => ?_) fun h => ?_
  ·refine qw 2 rfl (qp rfl (qe rfl ?_))
   exact sn [] h
  ·refine qm rfl (Eu rfl (qp rfl (qe rfl ?_)))
   exact sn [] h
 ·obtain rfl := sj h
  refine Ae (sm [] [(2, bD v1)] [] rfl rfl) (Aq ?_)
  exact ⟨⟨[_], tm, rfl⟩, tv⟩
theorem LU (N : Nat) (p0 : Aa) (p1 : List Int) (r : Int) (h : EN N p0 p1 = some r) : Ar zA 71 [.e (.agg (Al p0)), pD (.sl (p1.map As))] [] (iD r) := by
 unfold EN at h
 refine cw (n := 15) (rs := [.tmp 4]) Tryz.func71 fun w0 S0 => ?_
 refine wq rfl (qb rfl (qa rfl (Ac (AT (AU (wq rfl (qm rfl (AK AG rfl (qf BG rfl (ql Bm rfl (AK AG rfl (Bb rfl (qe rfl ?_)))))))))))))
 refine Bg h (fun h => ?_) fun h => ?_
 ·refine wq rfl (qe rfl ?_)
  obtain rfl := sj h
  refine Ae (sm [] [(4, iD 6)] [] rfl rfl) (Aq ?_)
  exact ⟨⟨[_], tm, rfl⟩, tv⟩
 ·refine wq rfl (qm rfl ?_)
  refine BS h fun v2 a2 h => Av [] (Ar.weak (ds' := [pD (.sl (p1.map As)), oD (.fnc 109)]) (GZ N p1 ((fun (x : Int) => Eh N x)) v2 a2) ⟨(fun _ _ _ hh => hh), (fun _ _ _ hh => N7 Xg (fun ar t ht => by obtain ⟨x, r, rfl, hq, rfl⟩ := ID ht; exact KU N x r hq) hh), tv⟩) Wy rfl ?_
  refine qa rfl (Ac ?_)
  refine Bg h (fun h => ?_) fun h => ?_
  ·refine wq rfl (qe rfl ?_)
   obtain rfl := sj h
   refine Ae (sm [] [(4, iD 7)] [] rfl rfl) (Aq ?_)
   exact ⟨⟨[_], tm, rfl⟩, tv⟩
  ·refine Ap (wq rfl (qe rfl ?_))
   obtain rfl := sj h
   refine Ae (sm [] [(4, iD 0)] [] rfl rfl) (Aq ?_)
   exact ⟨⟨[_], tm, rfl⟩, tv⟩
theorem FG (N : Nat) (p0 : List Ao) (p1 : Ao → Option Bool) (r : Int) (h : Bq N p0 p1 = some r) : Ar zA 148 [pD (.sl (p0.map AQ)), oD (.clo (Il (LL true AQ) tB p1))] [] (iD r) := by
 unfold Bq at h
 refine cw (n := 19) (rs := [.tmp 4]) Tryz.func148 fun w0 S0 => ?_
 refine wq rfl (qa rfl (Ac (wp rfl (qm rfl (AK G6 rfl (qm rfl (Ac ?_)))))))
 refine A0 (L := AV N p0 p1) h (fun v1 => mk [(0, pD (.sl (p0.map AQ))), (1, oD (.clo (Il (LL true AQ) tB p1))), (7, iD ((p0.length : Int))), (8, iD v1)] []) (fun v2 => mk [] []) (fun _ _ => rfl) (sm [] _ _ rfl rfl) (fun j1 n1 v1 h => ?_) (fun v2 s h hs => ?_)
 ·unfold AV at h
  refine wq rfl (A1 rfl (Ac (AT ?_)))
  refine Bg h (fun h => ?_) fun h => ?_
  ·refine Ap (AT (AU (wq rfl (qm rfl (qa rfl (Ac (wq rfl (qw 3 rfl ?_))))))))
   refine BU h fun v4 a4 b4 h => qi G6 Gr a4 (Ah b4) rfl (qK I1 Gr rfl ?_)
   refine BS h fun v5 a5 h => Ko (ds0 := [_]) (ar := (LL true AQ) v4) (.p rfl) rfl rfl ⟨rfl, tv⟩ rfl rfl rfl (KB (KV _ _ Qu) a5) ?_
   refine Ac ?_
   refine Bg h (fun h => ?_) fun h => ?_
   ·refine wq rfl (qm rfl (qe rfl ?_))
    obtain rfl := sj h
    refine Ae (sm [] [(4, iD v1)] [] rfl rfl) (Aq ?_)
    exact ⟨⟨[_], tm, rfl⟩, tv⟩
   ·refine Ap (Aj Ax rfl (Ch rfl (qm rfl (Ac ?_))))
    exact sn [] h
  ·refine BT ?_
   exact sn [] h
 ·refine Ae hs (wq rfl (qe rfl ?_))
  obtain rfl := sj h
  refine Ae (sm [] [(4, iD ((-1)))] [] rfl rfl) (Aq ?_)
  exact ⟨⟨[_], tm, rfl⟩, tv⟩
theorem Fm (N : Nat) (p0 : List Ao) (p1 : Ao → Option Bool) (r : Bool) (h : Bi N p0 p1 = some r) : Ar zA 110 [pD (.sl (p0.map AQ)), oD (.clo (Il (LL true AQ) tB p1))] [] (bD r) := by
 unfold Bi at h
 refine cw (n := 9) (rs := [.tmp 4]) Tryz.func110 fun w0 S0 => ?_
 refine wq rfl (qa rfl (Ac (wq rfl (qw 2 rfl ?_))))
 refine BS h fun v1 a1 h => Av [] (FG N p0 p1 v1 a1) Wx rfl (Dt rfl (qe rfl ?_))
 obtain rfl := sj h
 refine Ae (sm [] [(4, bD ((decide (0 ≤ v1))))] [] rfl rfl) (Aq ?_)
 exact ⟨⟨[_], tm, rfl⟩, tv⟩
theorem JL (N : Nat) (p0 : Ao) (r : Bool) (h : DR N p0 = some r) : Ar zA 111 [.e (.agg (BY p0))] [] (bD r) := by
 unfold DR at h
 refine cw (n := 6) (rs := [.tmp 2]) Tryz.func111 fun w0 S0 => ?_
 refine wq rfl (qb rfl (qa rfl (Ac (wq rfl (qf Dh rfl (ql A4 rfl (AS rfl (qe rfl ?_))))))))
 obtain rfl := sj h
 refine Ae (sm [] [(2, bD ((p0.fa == 4)))] [] rfl rfl) (Aq ?_)
 exact ⟨⟨[_], tm, rfl⟩, tv⟩
theorem EU (N : Nat) (p0 : List Int) (r : (List Int)) (h : B0 N p0 = some r) : Ar zA 149 [pD (.sl (p0.map As))] [(1, r.map As)] (oD (.own 0)) := by
 unfold B0 at h
 refine cw (n := 8) (rs := [.tmp 2]) Tryz.func149 fun w0 S0 => ?_
 refine wq rfl (qa rfl (Ac (wp rfl (qm rfl ?_))))
 refine Oe (.p rfl) rfl AG ?_
 refine Ac ?_
 refine Ol rfl (fun c2 => ?_) ?_
 ·have c2 := uF.1 c2
  rw [c2] at h
  have h : (some (([] : List Int))) = some r := h
  refine wq rfl (qe rfl ?_)
  obtain rfl := sj h
  refine Ae ((FZ 2 2001 1 rfl rfl rfl).trans (sm [(1000, 2001)] [(2, oD (.own 1000))] [(1000, .vec 1 ((([] : List Int)).map As))] rfl rfl)) (Aq ?_)
  exact ⟨⟨[_], tm, rfl⟩, ⟨rfl, tv⟩⟩
 ·refine Ap (wq rfl (F8 AG Db Pa rfl (qm rfl ?_)))
  refine Iq h fun c1 h => Li (f := As) AG AG Db RD Pa (fun _ => rfl) c1 rfl (qe rfl ?_)
  obtain rfl := sj h
  refine Ae (sm [(1000, 7)] [(2, oD (.own 1000))] [(1000, .vec 1 (((([] : List Int)) ++ p0).map As))] rfl rfl) (Aq ?_)
  exact ⟨⟨[_], tm, rfl⟩, ⟨rfl, tv⟩⟩
theorem Kp (N : Nat) (p0 : Int) (p1 : Int) (r : Int × Int) (h : F0 N p0 p1 = some r) : Ar zA 190 [pD (.val (.int .u32 p0)), pD (.val (.int .u32 p1))] [] (.tup [.one (.pure (.val (.int .u32 r.1))), .one (.pure (.val (.int .u32 r.2)))]) := by
 unfold F0 at h
 refine cw (n := 17) (rs := [.tmp 4, .tmp 5]) Tryz.func190 fun w0 S0 => ?_
 refine wq rfl (qa rfl (qa rfl (Ac (wq rfl (qm rfl (LZ Rj Vk rfl (qm rfl (LZ Rj Vk rfl (NT rfl (qa rfl (Ac (wq rfl (qm rfl (LC rfl (by decide) (LZ UU Q4 rfl (qm rfl (LZ UU Q4 rfl (qa rfl (qe rfl ?_)))))))))))))))))))
 obtain rfl := sj h
 refine Ae (sm [] [(4, pD (.val (.int .u32 ((wI .u32 ((Ga .u64 ((wI .u64 ((wI .u64 p0) * (wI .u64 p1)))) 32))))))), (5, pD (.val (.int .u32 ((wI .u32 ((wI .u64 ((wI .u64 p0) * (wI .u64 p1)))))))))] [] rfl rfl) (Aq ?_)
 exact ⟨⟨[_, _], ⟨.tmp _ _ rfl, tm⟩, rfl⟩, tv⟩
theorem KW (N : Nat) (p0 : Int) (p1 : Int) (r : Int × Int) (h : FY N p0 p1 = some r) : Ar zA 191 [pD (.val (.int .u64 p0)), pD (.val (.int .u64 p1))] [] (.tup [.one (.pure (.val (.int .u64 r.1))), .one (.pure (.val (.int .u64 r.2)))]) := by
 unfold FY at h
 refine cw (n := 51) (rs := [.tmp 4, .tmp 5]) Tryz.func191 fun w0 S0 => ?_
 refine wq rfl (qa rfl (qa rfl (Ac (wq rfl (qm rfl (NW rfl (qa rfl (Ac (wq rfl (qm rfl (LC rfl (by decide) (qa rfl (Ac (wq rfl (qm rfl (NW rfl (qa rfl (Ac (wq rfl (qm rfl (LC rfl (by decide) (qa rfl (Ac (wq rfl (qw 2 rfl (NT rfl (qa rfl (Ac (wq rfl (qw 2 rfl ?_))))))))))))))))))))))))))))))
 refine NT rfl (qm rfl (LC rfl (by decide) (Ch rfl (qa rfl (Ac (wq rfl (qm rfl (NW rfl (qa rfl (Ac (wq rfl (qm rfl (LC rfl (by decide) (qa rfl (Ac (wq rfl (qw 3 rfl (NT rfl (Ch rfl (qa rfl (Ac (wq rfl (qw 2 rfl (NT rfl (qm rfl (Ch rfl (qm rfl (LC rfl (by decide) (Ch rfl (qa rfl (Ac (AT ?_))))))))))))))))))))))))))))))))
 refine Aj Ax rfl (qw 2 rfl (NT rfl (qe rfl ?_)))
 obtain rfl := sj h
 refine Ae (sm [] [(4, pD (.val (.int .u64 ((wI .u64 ((wI .u64 ((wI .u64 ((Ga .u64 p0 32) * (Ga .u64 p1 32))) + (Ga .u64 ((wI .u64 ((wI .u64 ((Ga .u64 p0 32) * (FW .u64 p1 4294967295))) + (Ga .u64 ((wI .u64 ((FW .u64 p0 4294967295) * (FW .u64 p1 4294967295)))) 32)))) 32))) + (Ga .u64 ((wI .u64 ((FW .u64 ((wI .u64 ((wI .u64 ((Ga .u64 p0 32) * (FW .u64 p1 4294967295))) + (Ga .u64 ((wI .u64 ((FW .u64 p0 4294967295) * (FW .u64 p1 4294967295)))) 32)))) 4294967295) + (wI .u64 ((FW .u64 p0 4294967295) * (Ga .u64 p1 32)))))) 32))))))), (5, pD (.val (.int .u64 ((wI .u64 (p0 * p1))))))] [] rfl rfl) (Aq ?_)
 exact ⟨⟨[_, _], ⟨.tmp _ _ rfl, tm⟩, rfl⟩, tv⟩
theorem LQ (N : Nat) (p0 : Int) (p1 : Int) (r : Int × Int) (h : GQ N p0 p1 = some r) : Ar zA 175 [pD (.val (.int .u64 p0)), pD (.val (.int .u64 p1))] [] (.tup [.one (.pure (.val (.int .u64 r.1))), .one (.pure (.val (.int .u64 r.2)))]) := by
 unfold GQ at h
 refine cw (n := 30) (rs := [.tmp 4, .tmp 5]) Tryz.func175 fun w0 S0 => ?_
 refine wq rfl (qa rfl (qa rfl (Ac (AT ?_))))
 refine Bg h (fun h => ?_) fun h => ?_
 ·refine wq rfl (qm rfl (LZ Te Q4 rfl (qm rfl (LZ Te Q4 rfl ?_))))
  refine BS h fun v2 a2 h => Av [] (Kp N ((wI .u32 p0)) ((wI .u32 p1)) v2 a2) Wg rfl (qm rfl (qx rfl (qx rfl (qa rfl (qa rfl (Ac (wq rfl (qm rfl (LZ Rj Rq rfl (qm rfl (LZ Rj Rq rfl (qa rfl (qe rfl ?_)))))))))))))
  obtain rfl := sj h
  refine Ae (sm [] [(4, pD (.val (.int .u64 ((wI .u64 v2.1))))), (5, pD (.val (.int .u64 ((wI .u64 v2.2)))))] [] rfl rfl) (Aq ?_)
  exact ⟨⟨[_, _], ⟨.tmp _ _ rfl, tm⟩, rfl⟩, tv⟩
 ·refine Ap (wq rfl (qw 2 rfl ?_))
  refine BS h fun v3 a3 h => Av [] (KW N p0 p1 v3 a3) Wb rfl (qm rfl (qx rfl (qx rfl (qa rfl (qa rfl (Ac (wq rfl (qw 2 rfl (qa rfl (qe rfl ?_))))))))))
  obtain rfl := sj h
  refine Ae (sm [] [(4, pD (.val (.int .u64 v3.1))), (5, pD (.val (.int .u64 v3.2)))] [] rfl rfl) (Aq ?_)
  exact ⟨⟨[_, _], ⟨.tmp _ _ rfl, tm⟩, rfl⟩, tv⟩
theorem IF (N : Nat) (p0 : List Int) (p1 : Int) (r : (List Int)) (h : DP N p0 p1 = some r) : Ar zA 150 [pD (.sl (p0.map As)), iD p1] [(1, r.map As)] (oD (.own 0)) := by
 unfold DP at h
 refine cw (n := 48) (rs := [.tmp 4]) Tryz.func150 fun w0 S0 => ?_
 refine wq rfl (qe rfl ?_)
 refine AM h (fun v1 => mk [(0, pD (.sl (p0.map As))), (1, iD p1)] []) (fun j1 h => ?_) (fun v1 h => ?_)
 ·refine wq rfl (qm rfl (A1 rfl (Ac ?_)))
  refine Bg h (fun h => ?_) fun h => ?_
  ·refine Aj Ax rfl ?_
   cases h
  ·refine Ap ?_
   exact sn [] h
 ·refine wq rfl (qm rfl (AK AG rfl (LZ Yw Rq rfl (qm rfl (LZ Yw Rq rfl ?_)))))
  refine BS h fun v3 a3 h => Av [] (LQ N ((wI .u64 ((p0.length : Int)))) ((wI .u64 p1)) v3 a3) Xj rfl (qm rfl (qx rfl (qx rfl (qa rfl (qe rfl ?_)))))
  refine AM h (fun v4 => mk [(0, pD (.sl (p0.map As))), (6, pD (.val (.int .u64 v3.2)))] []) (fun j4 h => ?_) (fun v4 h => ?_)
  ·refine AM h (fun v5 => mk [(0, pD (.sl (p0.map As))), (6, pD (.val (.int .u64 v3.2))), (26, bD v5)] []) (fun j5 h => ?_) (fun v5 h => ?_)
   ·refine Aj Ax rfl (qm rfl (Eu rfl (qm rfl ?_)))
    refine Ce 23 h rfl (fun h => ?_) fun h => ?_
    ·refine qw 2 rfl (qp rfl (Ac ?_))
     exact sn [] h
    ·refine qm rfl (Eu rfl (qp rfl (Ac ?_)))
     exact sn [] h
   ·refine Bg h (fun h => ?_) fun h => ?_
    ·refine Aj Ax rfl ?_
     cases h
    ·refine Ap ?_
     exact sn [] h
  ·refine wq rfl (qm rfl (LZ Te Yt rfl ?_))
   refine Iq h fun c8 h => Ly (.p rfl) rfl rfl rfl AG Db RD (Ge rfl) Pa rfl rfl rfl c8.1 c8.2.1 c8.2.2 (Q3 As _ ((0 : Int))) ?_
   refine qa rfl (Ac (wq rfl (qw 2 rfl ?_)))
   refine Ra As (zK ((wI .i64 v3.2)).toNat ((0 : Int))) p0 (.p rfl) rfl (MV As _ _ (zK ((wI .i64 v3.2)).toNat ((0 : Int)))) rfl rfl (TO As _ _ (fun _ => rfl)) tv AG Db ?_
   refine qa rfl (Ac (AT ?_))
   refine A0 (L := C6 N) h (fun v9 => mk [(7, oD (.own 2001)), (8, iD v9.2)] [(2001, .vec 1 (v9.1.map As))]) (fun v10 => mk [(7, oD (.own 2002))] [(2002, .vec 1 (v10.map As))]) (fun _ _ => rfl) (sm [(2001, 30)] _ _ rfl rfl) (fun j9 n9 v9 h => ?_) (fun v10 s h hs => ?_)
   ·unfold C6 at h
    refine wp rfl (qw 2 rfl (QU AG rfl (A1 rfl (Ac ?_))))
    refine Bg h (fun h => ?_) fun h => ?_
    ·refine Ap (AU (Aj Ax rfl (qw 3 rfl ?_)))
     obtain ⟨c12, h⟩ := HG h
     have w13 : ((v9.2).toNat) + ((v9.1.length - (v9.2).toNat)) ≤ v9.1.length := by have := c12.2.1; have := c12.2.2; omega
     refine Pb As v9.1 (.p rfl) rfl (MV As _ _ v9.1) rfl AG Db (.some _ _ _ _ c12.1) (.none _) ⟨rfl, tv⟩ tv c12.2.1 (by rw [zI]; exact c12.2.2) (zI _) rfl ?_
     refine qw 2 rfl ?_
     obtain ⟨c14, h⟩ := HG h
     have w15 : 0 + ((v9.2).toNat) ≤ v9.1.length := by have := c14.2.1; have := c14.2.2; omega
     refine Pb As v9.1 (.p rfl) rfl (MV As _ _ v9.1) rfl AG Db (.none _) (.some _ _ _ _ c14.1) tv ⟨rfl, tv⟩ c14.2.1 (by rw [zI]; exact c14.2.2) (zI _) rfl ?_
     refine Ra As v9.1 (((v9.1.drop 0).take ((v9.2).toNat))) (.p rfl) rfl (RG As _ _ ((v9.2).toNat) ((v9.1.length - (v9.2).toNat)) v9.1 w13) rfl rfl (RW As _ _ 0 ((v9.2).toNat) v9.1 w15) ⟨rfl, tv⟩ AG Db ?_
     refine Ch rfl (qa rfl (AH (by kernel_rfl) ?_))
     exact sn [] h
    ·refine BT ?_
     exact sn [(2002, 2001)] h
   ·refine Ae hs (wq rfl (qm rfl (qe rfl ?_)))
    obtain rfl := sj h
    refine Ae (sm [(1000, 2002)] [(4, oD (.own 1000))] [(1000, .vec 1 (v10.map As))] rfl rfl) (Aq ?_)
    exact ⟨⟨[_], tm, rfl⟩, ⟨rfl, tv⟩⟩
theorem Ks (N : Nat) (p0 : AL) (r : Bool) (h : E3 N p0 = some r) : Ar zA 151 [.e (.agg (CV p0))] [] (bD r) := by
 unfold E3 at h
 refine cw (n := 11) (rs := [.tmp 2]) Tryz.func151 fun w0 S0 => ?_
 refine wq rfl (qb rfl (qe rfl ?_))
 refine AM h (fun v1 => mk [(2, bD v1)] []) (fun j1 h => ?_) (fun v1 h => ?_)
 ·refine Aj Ax rfl (qf Ef rfl (ql A4 rfl (AS rfl (qm rfl ?_))))
  refine Ce 6 h rfl (fun h => ?_) fun h => ?_
  ·refine qw 3 rfl (qp rfl (qe rfl ?_))
   exact sn [] h
  ·refine qf Ef rfl (ql A4 rfl (AS rfl (qp rfl (qe rfl ?_))))
   exact sn [] h
 ·obtain rfl := sj h
  refine Ae (sm [] [(2, bD v1)] [] rfl rfl) (Aq ?_)
  exact ⟨⟨[_], tm, rfl⟩, tv⟩
theorem Pl (N : Nat) (p0 : Aa) (r : Af × Int) (h : Gg N p0 = some r) : Ar zA 112 [.e (.agg (Al p0))] [(1, r.1.fh.map As), (1, r.1.ff.map As), (1, r.1.fg.map DO)] (.tup [.agg [.own 0, .own 1, .own 2], .one (iC r.2)]) := by
 unfold Gg at h
 refine cw (n := 50) (rs := [.cell 2 40, .tmp 3]) Tryz.func112 fun w0 S0 => ?_
 refine wq rfl (qb rfl (qz DI rfl (qa rfl (Ac (wp rfl (qL Dg Da rfl ?_))))))
 refine BS h fun v1 a1 h => Av [] (DT N p0 v1 a1) Tk rfl (qa rfl (Ac (wq rfl (qm rfl (Bb rfl (Ac ?_))))))
 refine Bg h (fun h => ?_) fun h => ?_
 ·refine wq rfl (Bx DI HB rfl (qm rfl (qs AY rfl (qe rfl ?_))))
  obtain rfl := sj h
  refine Ae ((Az 2 0 2001 1 _ rfl rfl rfl rfl).trans ((Az 2 1 2002 1 _ rfl rfl rfl rfl).trans ((Az 2 2 2003 1 _ rfl rfl rfl rfl).trans (sm [(1000, 2001), (1001, 2002), (1002, 2003)] [(2, oD (.ptr 2 0)), (3, iD v1)] [(2, .box [.own 1000, .own 1001, .own 1002]), (1000, .vec 1 ((([] : List Int)).map As)), (1001, .vec 1 ((([] : List Int)).map As)), (1002, .vec 1 ((([] : List Int)).map DO))] rfl rfl)))) (Aq ?_)
  exact ⟨⟨[_, _], ⟨.cellN _ _ _ _ _ _ _ rfl rfl Cc AY rfl rfl (Io rfl), tm⟩, rfl⟩, ⟨rfl, rfl, rfl, tv⟩⟩
 ·refine Ap (wq rfl (qf Gk rfl (ql Bm rfl ?_)))
  refine BS h fun v3 a3 h => Av [2004] (EU N p0.fj v3 a3) To rfl (F8 AG Db Pa rfl (qf Gk rfl (ql Bm rfl (AK AG rfl ?_))))
  refine BS h fun v4 a4 h => Gj [2005] [17] (IF N (([(-1)] : List Int)) ((p0.fj.length : Int)) v4 a4) Xi (Qf (fun _ => rfl) EC) rfl (qf BN rfl (ql Fl rfl (AK De rfl ?_)))
  refine Iq h fun c5 h => Ly (.p rfl) rfl rfl rfl Ea Ek Ot (Ge rfl) MJ rfl rfl rfl c5.1 c5.2.1 c5.2.2 (Q3 DO _ ((0 : Int))) ?_
  refine Bx DI HB rfl (qz DI rfl (qs AY rfl (AH (by kernel_rfl) (wp rfl (qf BN rfl (ql Fl rfl (AK De rfl (qm rfl (Ac ?_)))))))))
  refine A0 (L := Dn N p0) h (fun v6 => mk [(1, oD (.ptr 1 0)), (2, oD (.ptr 2 0)), (5, oD (.ptr 5 0)), (28, pD (.sl (p0.fd.map Bw))), (29, iD ((p0.fd.length : Int))), (30, iD v6.2)] [(1, .box (Al p0)), (2, .box [.pure (.nil0), .pure (.nil0), .pure (.nil0)]), (5, .box [.own 2006, .own 2007, .own 2008]), (2006, .vec 1 (v3.map As)), (2007, .vec 1 (v4.map As)), (2008, .vec 1 (v6.1.map DO))]) (fun v7 => mk [(2, oD (.ptr 2 0)), (5, oD (.ptr 5 0))] [(2, .box [.pure (.nil0), .pure (.nil0), .pure (.nil0)]), (5, .box [.own 2009, .own 2010, .own 2011]), (2009, .vec 1 (v3.map As)), (2010, .vec 1 (v4.map As)), (2011, .vec 1 (v7.map DO))]) (fun _ _ => rfl) (sm [(2006, 2004), (2007, 2005), (2008, 25)] _ _ rfl rfl) (fun j6 n6 v6 h => ?_) (fun v7 s h hs => ?_)
  ·unfold Dn at h
   refine wq rfl (A1 rfl (Ac (AT ?_)))
   refine Bg h (fun h => ?_) fun h => ?_
   ·refine Ap ?_
    refine AM h (fun v9 => mk [(1, oD (.ptr 1 0)), (2, oD (.ptr 2 0)), (5, oD (.ptr 5 0)), (28, pD (.sl (p0.fd.map Bw))), (29, iD ((p0.fd.length : Int))), (30, iD v6.2)] [(1, .box (Al p0)), (2, .box [.pure (.nil0), .pure (.nil0), .pure (.nil0)]), (5, .box [.own 2012, .own 2013, .own 2014]), (2012, .vec 1 (v3.map As)), (2013, .vec 1 (v4.map As)), (2014, .vec 1 (v9.map DO))]) (fun j9 h => ?_) (fun v9 h => ?_)
    ·refine AU (wq rfl (qm rfl ?_))
     refine BU h fun v10 a10 b10 h => qi De B1 a10 (Ah b10) rfl (qK Fj B1 rfl (qz J0 rfl (qa rfl (qs B1 rfl (Ac (wq rfl (qL Fj B1 rfl ?_)))))))
     refine BS h fun v11 a11 h => Av [] (Ks N v10 v11 a11) UM rfl (Ac ?_)
     refine Bg h (fun h => ?_) fun h => ?_
     ·refine Aj Ax rfl (qf C8 rfl (ql HJ rfl (qm rfl (qf Gk rfl (ql Bm rfl (qf Cq rfl (ql A4 rfl ?_)))))))
      refine BU h fun v13 a13 b13 h => qi AG Db a13 (Ah b13) rfl (qk A4 rfl ?_)
      refine Iq h fun c14 h => IX rfl c14 ?_
      refine BU h fun v15 a15 b15 h => qI Ea Ek a15 (Ah b15) rfl ?_
      refine EX rfl rfl rfl rfl (Ah b15) rfl Ek rfl (Ge rfl) (EY DO v6.1 _ ((DZ .u8 1 v13))) ?_
      refine AH (by kernel_rfl) ?_
      exact sn [(2012, 2006), (2013, 2007), (2014, 2008)] h
     ·refine Ap ?_
      exact sn [(2012, 2006), (2013, 2007), (2014, 2008)] h
    ·refine Aj Ax rfl (Ch rfl (qm rfl (Ac ?_)))
     exact sn [(2006, 2012), (2007, 2013), (2008, 2014)] h
   ·refine BT ?_
    exact sn [(2009, 2006), (2010, 2007), (2011, 2008)] h
  ·refine Ae hs (wq rfl (qL Cc AY rfl (qs AY rfl (qe rfl ?_))))
   obtain rfl := sj h
   refine Ae (sm [(1000, 2009), (1001, 2010), (1002, 2011)] [(2, oD (.ptr 2 0)), (3, iD 0)] [(2, .box [.own 1000, .own 1001, .own 1002]), (1000, .vec 1 (v3.map As)), (1001, .vec 1 (v4.map As)), (1002, .vec 1 (v7.map DO))] rfl rfl) (Aq ?_)
   exact ⟨⟨[_, _], ⟨.cellN _ _ _ _ _ _ _ rfl rfl Cc AY rfl rfl (Io rfl), tm⟩, rfl⟩, ⟨rfl, rfl, rfl, tv⟩⟩
theorem M8 (N : Nat) (p0 : Af) (p1 : Int) (r : Int) (h : Fp N p0 p1 = some r) : Ar zA 176 [.e (.agg (Bp p0)), iD p1] [] (pD (.val (.int .u8 r))) := by
 unfold Fp at h
 refine cw (n := 27) (rs := [.tmp 4]) Tryz.func176 fun w0 S0 => ?_
 refine wq rfl (qb rfl (qa rfl (Ac (wq rfl (qf Dy rfl (ql Bm rfl (qm rfl ?_)))))))
 refine BU h fun v1 a1 b1 h => qi AG Db a1 (Ah b1) rfl (qk A4 rfl ?_)
 refine Iq h fun c2 h => IX rfl c2 (qe rfl ?_)
 refine AM h (fun v3 => mk [(5, pD (.val (.int .u8 v3)))] []) (fun j3 h => ?_) (fun v3 h => ?_)
 ·refine wq rfl (qf B4 rfl (ql Bm rfl (qm rfl ?_)))
  refine BU h fun v4 a4 b4 h => qi AG Db a4 (Ah b4) rfl (qk A4 rfl (Dt rfl (Ac ?_)))
  refine Bg h (fun h => ?_) fun h => ?_
  ·refine Aj Ax rfl (qm rfl (qf B4 rfl (ql Bm rfl (qm rfl ?_))))
   refine BU h fun v6 a6 b6 h => qi AG Db a6 (Ah b6) rfl (qk A4 rfl ?_)
   refine Iq h fun c7 h => IX rfl c7 (Sw rfl (qe rfl ?_))
   exact sn [] h
  ·refine Ap ?_
   exact sn [] h
 ·refine wq rfl (qm rfl (qe rfl ?_))
  obtain rfl := sj h
  refine Ae (sm [] [(4, pD (.val (.int .u8 v3)))] [] rfl rfl) (Aq ?_)
  exact ⟨⟨[_], tm, rfl⟩, tv⟩
theorem Lu (N : Nat) (p0 : Aa) (p1 : Af) (r : Int) (h : Fy N p0 p1 = some r) : Ar zA 152 [.e (.agg (Al p0)), .e (.agg (Bp p1))] [] (iD r) := by
 unfold Fy at h
 refine cw (n := 135) (rs := [.tmp 4]) Tryz.func152 fun w0 S0 => ?_
 refine wq rfl (qb rfl (qb rfl (qa rfl (Ac (wp rfl (qL Dg Da rfl ?_))))))
 refine BS h fun v1 a1 h => Av [] (DT N p0 v1 a1) Tk rfl (qa rfl (Ac (wq rfl (qm rfl (Bb rfl (Ac ?_))))))
 refine Bg h (fun h => ?_) fun h => ?_
 ·refine wq rfl (qm rfl (qe rfl ?_))
  obtain rfl := sj h
  refine Ae (sm [] [(4, iD v1)] [] rfl rfl) (Aq ?_)
  exact ⟨⟨[_], tm, rfl⟩, tv⟩
 ·refine Ap (AT ?_)
  refine AM h (fun v3 => mk [(2, oD (.ptr 2 0)), (3, oD (.ptr 3 0)), (41, bD v3)] [(2, .box (Al p0)), (3, .box (Bp p1))]) (fun j3 h => ?_) (fun v3 h => ?_)
  ·refine Aj Ax rfl (qf Dy rfl (ql Bm rfl (AK AG rfl (qf BG rfl (ql Bm rfl (AK AG rfl (Bb rfl (qm rfl ?_))))))))
   refine Ce 24 h rfl (fun h => ?_) fun h => ?_
   ·refine qw 7 rfl (qp rfl (qw 8 rfl (qp rfl (Ac ?_))))
    exact sn [] h
   ·refine qf B4 rfl (ql Bm rfl (AK AG rfl (qf BG rfl (ql Bm rfl (AK AG rfl (Bb rfl (qp rfl (qm rfl ?_))))))))
    refine Ce 33 h rfl (fun h => ?_) fun h => ?_
    ·refine qw 7 rfl (qp rfl (Ac ?_))
     exact sn [] h
    ·refine qf C8 rfl (ql HJ rfl (AK Ea rfl (qf BN rfl (ql Fl rfl (AK De rfl (Bb rfl (qp rfl (Ac ?_))))))))
     exact sn [] h
  ·refine Bg h (fun h => ?_) fun h => ?_
   ·refine wq rfl (qe rfl ?_)
    obtain rfl := sj h
    refine Ae (sm [] [(4, iD 6)] [] rfl rfl) (Aq ?_)
    exact ⟨⟨[_], tm, rfl⟩, tv⟩
   ·refine Ap (wp rfl (qf BG rfl (ql Bm rfl (AK AG rfl (qm rfl (Ac ?_))))))
    refine A0 (L := Dq N p0 p1) h (fun v7 => mk [(2, oD (.ptr 2 0)), (3, oD (.ptr 3 0)), (43, pD (.sl (p0.fc.map As))), (44, iD ((p0.fc.length : Int))), (45, iD v7)] [(2, .box (Al p0)), (3, .box (Bp p1))]) (fun v8 => mk [(2, oD (.ptr 2 0)), (3, oD (.ptr 3 0))] [(2, .box (Al p0)), (3, .box (Bp p1))]) (fun _ _ => rfl) (sm [] _ _ rfl rfl) (fun j7 n7 v7 h => ?_) (fun v8 s h hs => ?_)
    ·unfold Dq at h
     refine wq rfl (A1 rfl (Ac (AT ?_)))
     refine Bg h (fun h => ?_) fun h => ?_
     ·refine Ap (AT (AU (wq rfl (qm rfl ?_))))
      refine BU h fun v10 a10 b10 h => qi AG Db a10 (Ah b10) rfl (qk A4 rfl (qa rfl (qa rfl (Ac (AT ?_)))))
      refine AM h (fun v11 => mk [(2, oD (.ptr 2 0)), (3, oD (.ptr 3 0)), (6, iD v7), (43, pD (.sl (p0.fc.map As))), (44, iD ((p0.fc.length : Int))), (45, iD v7), (81, bD v11)] [(2, .box (Al p0)), (3, .box (Bp p1))]) (fun j11 h => ?_) (fun v11 h => ?_)
      ·refine Aj Ax rfl (qf Dy rfl (ql Bm rfl (qm rfl ?_)))
       refine BU h fun v12 a12 b12 h => qi AG Db a12 (Ah b12) rfl (qk A4 rfl (A1 rfl (qm rfl ?_)))
       refine Ce 56 h rfl (fun h => ?_) fun h => ?_
       ·refine qw 7 rfl (qp rfl (qw 7 rfl (qp rfl (qw 8 rfl (qp rfl (Ac ?_))))))
        exact sn [] h
       ·refine qf Dy rfl (ql Bm rfl (qm rfl ?_))
        refine BU h fun v14 a14 b14 h => qi AG Db a14 (Ah b14) rfl (qk A4 rfl (qm rfl (Dt rfl (qp rfl (qm rfl ?_)))))
        refine Ce 65 h rfl (fun h => ?_) fun h => ?_
        ·refine qw 6 rfl (qp rfl (qw 8 rfl (qp rfl (Ac ?_))))
         exact sn [] h
        ·refine qf B4 rfl (ql Bm rfl (qm rfl ?_))
         refine BU h fun v16 a16 b16 h => qi AG Db a16 (Ah b16) rfl (qk A4 rfl (A1 rfl (qp rfl (qm rfl ?_))))
         refine Ce 73 h rfl (fun h => ?_) fun h => ?_
         ·refine qw 7 rfl (qp rfl (Ac ?_))
          exact sn [] h
         ·refine qf B4 rfl (ql Bm rfl (qm rfl ?_))
          refine BU h fun v18 a18 b18 h => qi AG Db a18 (Ah b18) rfl (qk A4 rfl (qm rfl (Dt rfl (qp rfl (Ac ?_)))))
          exact sn [] h
      ·refine Bg h (fun h => ?_) fun h => ?_
       ·refine wq rfl (qe rfl ?_)
        obtain rfl := sj h
        refine Ae (sm [] [(4, iD 7)] [] rfl rfl) (Aq ?_)
        exact ⟨⟨[_], tm, rfl⟩, tv⟩
       ·refine Ap (wq rfl (qf Dy rfl (ql Bm rfl (qm rfl ?_))))
        refine BU h fun v20 a20 b20 h => qi AG Db a20 (Ah b20) rfl (qk A4 rfl (qf B4 rfl (ql Bm rfl (qm rfl ?_))))
        refine BU h fun v21 a21 b21 h => qi AG Db a21 (Ah b21) rfl (qk A4 rfl (AS rfl (AH (by kernel_rfl) ?_)))
        refine Bg h (fun h => ?_) fun h => ?_
        ·refine wq rfl (qe rfl ?_)
         obtain rfl := sj h
         refine Ae (sm [] [(4, iD 1)] [] rfl rfl) (Aq ?_)
         exact ⟨⟨[_], tm, rfl⟩, tv⟩
        ·refine Ap (Aj Ax rfl (Ch rfl (qm rfl (Ac ?_))))
         exact sn [] h
     ·refine BT ?_
      exact sn [] h
    ·refine Ae hs (wp rfl (qf BN rfl (ql Fl rfl (AK De rfl (qm rfl (Ac ?_))))))
     refine A0 (L := C3 N p0 p1) h (fun v23 => mk [(2, oD (.ptr 2 0)), (3, oD (.ptr 3 0)), (95, pD (.sl (p0.fd.map Bw))), (96, iD ((p0.fd.length : Int))), (97, iD v23)] [(2, .box (Al p0)), (3, .box (Bp p1))]) (fun v24 => mk [] []) (fun _ _ => rfl) (sm [] _ _ rfl rfl) (fun j23 n23 v23 h => ?_) (fun v24 s h hs => ?_)
     ·unfold C3 at h
      refine wq rfl (A1 rfl (Ac (AT ?_)))
      refine Bg h (fun h => ?_) fun h => ?_
      ·refine Ap (AT (AU (wq rfl (qm rfl ?_))))
       refine BU h fun v26 a26 b26 h => qi De B1 a26 (Ah b26) rfl (qK Fj B1 rfl (qz J0 rfl (qa rfl (qs B1 rfl (Ac (wq rfl (qa rfl (qe rfl ?_))))))))
       refine AM h (fun v27 => mk [(2, oD (.ptr 2 0)), (3, oD (.ptr 3 0)), (8, iD v23), (10, pD (.val (.int .u8 v27.1))), (11, pD (.val (.int .u8 v27.2))), (95, pD (.sl (p0.fd.map Bw))), (96, iD ((p0.fd.length : Int))), (97, iD v23)] [(2, .box (Al p0)), (3, .box (Bp p1))]) (fun j27 h => ?_) (fun v27 h => ?_)
       ·refine wq rfl (qL Fj B1 rfl ?_)
        refine BS h fun v28 a28 h => Av [] (Ks N v26 v28 a28) UM rfl (Ac ?_)
        refine Bg h (fun h => ?_) fun h => ?_
        ·refine Aj Ax rfl (qL Cc AY rfl (qf Cq rfl (ql A4 rfl ?_)))
         refine BS h fun v30 a30 h => Av [] (M8 N p1 v26.fk v30 a30) Xu rfl (qf BG rfl (ql Bm rfl (qf Cq rfl (ql A4 rfl ?_))))
         refine BU h fun v31 a31 b31 h => qi AG Db a31 (Ah b31) rfl (qk A4 rfl ?_)
         refine Iq h fun c32 h => IX rfl c32 (Lo rfl (qa rfl (qa rfl (AH (by kernel_rfl) ?_))))
         exact sn [] h
        ·refine Ap ?_
         exact sn [] h
       ·refine AM h (fun v33 => mk [(2, oD (.ptr 2 0)), (3, oD (.ptr 3 0)), (95, pD (.sl (p0.fd.map Bw))), (96, iD ((p0.fd.length : Int))), (97, iD v23), (133, bD v33)] [(2, .box (Al p0)), (3, .box (Bp p1))]) (fun j33 h => ?_) (fun v33 h => ?_)
        ·refine Aj Ax rfl (qm rfl (qf C8 rfl (ql HJ rfl (qm rfl ?_))))
         refine BU h fun v34 a34 b34 h => qi Ea Ek a34 (Ah b34) rfl (qk H8 rfl (HU rfl (Bb rfl (qm rfl ?_))))
         refine Ce 124 h rfl (fun h => ?_) fun h => ?_
         ·refine qw 8 rfl (qp rfl (Ac ?_))
          exact sn [] h
         ·refine qf C8 rfl (ql HJ rfl (qm rfl ?_))
          refine BU h fun v36 a36 b36 h => qi Ea Ek a36 (Ah b36) rfl (qk H8 rfl (qm rfl (HU rfl (Bb rfl (qp rfl (Ac ?_))))))
          exact sn [] h
        ·refine Bg h (fun h => ?_) fun h => ?_
         ·refine wq rfl (qe rfl ?_)
          obtain rfl := sj h
          refine Ae (sm [] [(4, iD 1)] [] rfl rfl) (Aq ?_)
          exact ⟨⟨[_], tm, rfl⟩, tv⟩
         ·refine Ap (Aj Ax rfl (Ch rfl (qm rfl (Ac ?_))))
          exact sn [] h
      ·refine BT ?_
       exact sn [] h
     ·refine Ae hs (wq rfl (qe rfl ?_))
      obtain rfl := sj h
      refine Ae (sm [] [(4, iD 0)] [] rfl rfl) (Aq ?_)
      exact ⟨⟨[_], tm, rfl⟩, tv⟩
theorem GO (N : Nat) (p0 : List Int) (r : (List Int)) (h : BX N p0 = some r) : Ar zA 177 [pD (.sl (p0.map DO))] [(1, r.map DO)] (oD (.own 0)) := by
 unfold BX at h
 refine cw (n := 8) (rs := [.tmp 2]) Tryz.func177 fun w0 S0 => ?_
 refine wq rfl (qa rfl (Ac (wp rfl (qm rfl ?_))))
 refine Oe (.p rfl) rfl Ea ?_
 refine Ac ?_
 refine Ol rfl (fun c2 => ?_) ?_
 ·have c2 := uF.1 c2
  rw [c2] at h
  have h : (some (([] : List Int))) = some r := h
  refine wq rfl (qe rfl ?_)
  obtain rfl := sj h
  refine Ae ((FZ 2 2001 1 rfl rfl rfl).trans (sm [(1000, 2001)] [(2, oD (.own 1000))] [(1000, .vec 1 ((([] : List Int)).map DO))] rfl rfl)) (Aq ?_)
  exact ⟨⟨[_], tm, rfl⟩, ⟨rfl, tv⟩⟩
 ·refine Ap (wq rfl (F8 Ea Ek MJ rfl (qm rfl ?_)))
  refine Iq h fun c1 h => Li (f := DO) Ea Ea Ek Ot MJ (fun _ => rfl) c1 rfl (qe rfl ?_)
  obtain rfl := sj h
  refine Ae (sm [(1000, 7)] [(2, oD (.own 1000))] [(1000, .vec 1 (((([] : List Int)) ++ p0).map DO))] rfl rfl) (Aq ?_)
  exact ⟨⟨[_], tm, rfl⟩, ⟨rfl, tv⟩⟩
theorem JY (N : Nat) (p0 : Af) (r : Af) (h : EB N p0 = some r) : Ar zA 153 [.e (.agg (Bp p0))] [(1, r.fh.map As), (1, r.ff.map As), (1, r.fg.map DO)] (.e (.agg [.own 0, .own 1, .own 2])) := by
 unfold EB at h
 refine cw (n := 13) (rs := [.cell 2 40]) Tryz.func153 fun w0 S0 => ?_
 refine wq rfl (qb rfl (qz DI rfl (Ac (wq rfl (qf Dy rfl (ql Bm rfl ?_))))))
 refine BS h fun v1 a1 h => Av [2001] (EU N p0.fh v1 a1) To rfl (qf B4 rfl (ql Bm rfl ?_))
 refine BS h fun v2 a2 h => Av [2002] (EU N p0.ff v2 a2) To rfl (qf C8 rfl (ql HJ rfl ?_))
 refine BS h fun v3 a3 h => Av [2003] (GO N p0.fg v3 a3) Wo rfl (Bx DI HB rfl (qs AY rfl (AH (by kernel_rfl) ?_)))
 obtain rfl := sj h
 refine Ae (sm [(1000, 2001), (1001, 2002), (1002, 2003)] [(2, oD (.ptr 2 0))] [(2, .box [.own 1000, .own 1001, .own 1002]), (1000, .vec 1 (v1.map As)), (1001, .vec 1 (v2.map As)), (1002, .vec 1 (v3.map DO))] rfl rfl) (Aq ?_)
 exact ⟨⟨[_], ⟨.cellN _ _ _ _ _ _ _ rfl rfl Cc AY rfl rfl (Io rfl), tv⟩, rfl⟩, ⟨rfl, rfl, rfl, tv⟩⟩
theorem ON (N : Nat) (p0 : Ao) (r : Bool) (h : FM N p0 = some r) : Ar zA 178 [.e (.agg (BY p0))] [] (bD r) := by
 unfold FM at h
 refine cw (n := 27) (rs := [.tmp 2]) Tryz.func178 fun w0 S0 => ?_
 refine wq rfl (qb rfl (qa rfl (Ac (AT ?_))))
 refine AM h (fun v1 => mk [(1, oD (.ptr 1 0)), (18, bD v1)] [(1, .box (BY p0))]) (fun j1 h => ?_) (fun v1 h => ?_)
 ·refine Aj Ax rfl (qf D5 rfl (ql A4 rfl (qf FU rfl (ql A4 rfl ?_))))
  refine Wc (.p rfl) rfl rfl ?_
  refine A1 rfl (qm rfl ?_)
  refine Ce 9 h rfl (fun h => ?_) fun h => ?_
  ·refine qw 3 rfl (qp rfl (qw 4 rfl (qp rfl (Ac ?_))))
   exact sn [] h
  ·refine qf Dh rfl (ql A4 rfl (A1 rfl (qp rfl (qm rfl ?_))))
   refine Ce 14 h rfl (fun h => ?_) fun h => ?_
   ·refine qw 3 rfl (qp rfl (Ac ?_))
    exact sn [] h
   ·refine qf Dh rfl (ql A4 rfl (Eu rfl (qp rfl (Ac ?_))))
    exact sn [] h
 ·refine Bg h (fun h => ?_) fun h => ?_
  ·refine wq rfl (qe rfl ?_)
   obtain rfl := sj h
   refine Ae (sm [] [(2, bD false)] [] rfl rfl) (Aq ?_)
   exact ⟨⟨[_], tm, rfl⟩, tv⟩
  ·refine Ap ?_
   refine AM h (fun v5 => mk [(2, bD v5)] []) (fun j5 h => ?_) (fun v5 h => ?_)
   ·refine Aj Ax rfl (qf Dh rfl (ql A4 rfl (AS rfl (qm rfl ?_))))
    refine Ce 22 h rfl (fun h => ?_) fun h => ?_
    ·refine qw 3 rfl (qp rfl (qe rfl ?_))
     exact sn [] h
    ·refine qf FU rfl (ql A4 rfl (AS rfl (qp rfl (qe rfl ?_))))
     exact sn [] h
   ·obtain rfl := sj h
    refine Ae (sm [] [(2, bD v5)] [] rfl rfl) (Aq ?_)
    exact ⟨⟨[_], tm, rfl⟩, tv⟩
theorem Nn (N : Nat) (p0 : Aa) (p1 : Ao) (r : Bool) (h : Fo N p0 p1 = some r) : Ar zA 179 [.e (.agg (Al p0)), .e (.agg (BY p1))] [] (bD r) := by
 unfold Fo at h
 refine cw (n := 36) (rs := [.tmp 4]) Tryz.func179 fun w0 S0 => ?_
 refine wq rfl (qb rfl (qb rfl (qa rfl (Ac (wp rfl (qf Dh rfl (ql A4 rfl (AS rfl (Ac ?_)))))))))
 refine Bg h (fun h => ?_) fun h => ?_
 ·refine wq rfl (qf D5 rfl (ql A4 rfl (qf BN rfl (ql Fl rfl (AK De rfl (A1 rfl (qe rfl ?_)))))))
  obtain rfl := sj h
  refine Ae (sm [] [(4, bD ((decide (p1.fm < (p0.fd.length : Int)))))] [] rfl rfl) (Aq ?_)
  exact ⟨⟨[_], tm, rfl⟩, tv⟩
 ·refine Ap ?_
  refine AM h (fun v2 => mk [(4, bD v2)] []) (fun j2 h => ?_) (fun v2 h => ?_)
  ·refine Aj Ax rfl (qf D5 rfl (ql A4 rfl (qf BG rfl (ql Bm rfl (AK AG rfl (A1 rfl (qm rfl ?_)))))))
   refine Ce 20 h rfl (fun h => ?_) fun h => ?_
   ·refine qf Dh rfl (ql A4 rfl (Bb rfl (qm rfl ?_)))
    refine Ce 24 h rfl (fun h => ?_) fun h => ?_
    ·refine qw 9 rfl (qp rfl (qp rfl (qa rfl (AH (by kernel_rfl) ?_))))
     exact sn [] h
    ·refine qf FU rfl (ql A4 rfl (qf BG rfl (ql Bm rfl (qf D5 rfl (ql A4 rfl ?_)))))
     refine BU h fun v5 a5 b5 h => qi AG Db a5 (Ah b5) rfl (qk A4 rfl (A1 rfl (qp rfl (qp rfl (qa rfl (AH (by kernel_rfl) ?_))))))
     exact sn [] h
   ·refine qw 4 rfl (qu rfl (qu rfl (qu rfl (qu rfl (qu rfl (qu rfl (qu rfl (qu rfl (qu rfl (qn rfl (qp rfl (qa rfl (AH (by kernel_rfl) ?_)))))))))))))
    exact sn [] h
  ·obtain rfl := sj h
   refine Ae (sm [] [(4, bD v2)] [] rfl rfl) (Aq ?_)
   exact ⟨⟨[_], tm, rfl⟩, tv⟩
theorem JX (N : Nat) (p0 : AL) (r : Bool) (h : EK N p0 = some r) : Ar zA 197 [.e (.agg (CV p0))] [] (bD r) := by
 unfold EK at h
 refine cw (n := 11) (rs := [.tmp 2]) Tryz.func197 fun w0 S0 => ?_
 refine wq rfl (qb rfl (qe rfl ?_))
 refine AM h (fun v1 => mk [(2, bD v1)] []) (fun j1 h => ?_) (fun v1 h => ?_)
 ·refine Aj Ax rfl (qf Ef rfl (ql A4 rfl (AS rfl (qm rfl ?_))))
  refine Ce 6 h rfl (fun h => ?_) fun h => ?_
  ·refine qw 3 rfl (qp rfl (qe rfl ?_))
   exact sn [] h
  ·refine qf Ef rfl (ql A4 rfl (AS rfl (qp rfl (qe rfl ?_))))
   exact sn [] h
 ·obtain rfl := sj h
  refine Ae (sm [] [(2, bD v1)] [] rfl rfl) (Aq ?_)
  exact ⟨⟨[_], tm, rfl⟩, tv⟩
theorem Ou (N : Nat) (p0 : Aa) (p1 : Af) (p2 : Ao) (r : Bool × (List Int) × (List Int)) (h : GW N p0 p1 p2 = some r) : CO zA 192 [.e (.agg (Al p0)), oD (.ptr 90000 0), .e (.agg (BY p2))] [(.box [.own 90001, .own 90002, .own 90003], .box [.own 90001, .own 90002, .own 90003]), (.vec 1 (p1.fh.map As), .vec 1 (p1.fh.map As)), (.vec 1 (p1.ff.map As), .vec 1 (r.2.1.map As)), (.vec 1 (p1.fg.map DO), .vec 1 (r.2.2.map DO))] [] (bD r.1) := by
 unfold GW at h
 refine Cr (n := 70) (rs := [.tmp 6]) Tryz.func192 rfl rfl rfl (Ge rfl) (Ge rfl) rfl rfl (Ge rfl) rfl (Ge rfl) fun w0 S0 GL => ?_
 refine Ae (sm [] [(0, .e (.agg (Al p0))), (1, oD (.ptr 90000 0)), (2, .e (.agg (BY p2)))] [(90000, .box [.own 90001, .own 90002, .own 90003]), (90001, .vec 1 (p1.fh.map As)), (90002, .vec 1 (p1.ff.map As)), (90003, .vec 1 (p1.fg.map DO))] rfl rfl) (wq rfl (qb rfl (qb rfl (qa rfl (Ac (AT ?_))))))
 refine AM h (fun v1 => mk [(1, oD (.ptr 90000 0)), (3, oD (.ptr 3 0)), (5, oD (.ptr 5 0)), (30, bD v1)] [(3, .box (Al p0)), (5, .box (BY p2)), (90000, .box [.own 90001, .own 90002, .own 90003]), (90001, .vec 1 (p1.fh.map As)), (90002, .vec 1 (p1.ff.map As)), (90003, .vec 1 (p1.fg.map DO))]) (fun j1 h => ?_) (fun v1 h => ?_)
 ·refine Aj Ax rfl (qm rfl (Iz rfl (qf B4 rfl (ql Bm rfl (qf D5 rfl (ql A4 rfl ?_))))))
  refine BU h fun v2 a2 b2 h => qI AG Db a2 (Ah b2) rfl (qj A4 (Ah b2) rfl (Dt rfl (qm rfl ?_)))
  refine Ce 18 h rfl (fun h => ?_) fun h => ?_
  ·refine qw 11 rfl (qp rfl (AH (by kernel_rfl) ?_))
   exact sn [] h
  ·refine qm rfl (Iz rfl (qf Dy rfl (ql Bm rfl (qf D5 rfl (ql A4 rfl ?_)))))
   refine BU h fun v4 a4 b4 h => qI AG Db a4 (Ah b4) rfl (qj A4 (Ah b4) rfl (qf FU rfl (ql A4 rfl (AS rfl (qp rfl (AH (by kernel_rfl) ?_))))))
   exact sn [] h
 ·refine Bg h (fun h => ?_) fun h => ?_
  ·refine wq rfl (qe rfl ?_)
   obtain rfl := sj h
   refine Ae (sm [] [(6, bD false)] [(90000, .box [.own 90001, .own 90002, .own 90003]), (90001, .vec 1 (p1.fh.map As)), (90002, .vec 1 (p1.ff.map As)), (90003, .vec 1 (p1.fg.map DO))] rfl rfl) (Aq ?_)
   exact ⟨⟨[_], tm, rfl⟩, ⟨rfl, rfl, rfl, rfl, tv⟩, tv⟩
  ·refine Ap (wq rfl (qm rfl (Iz rfl (qf B4 rfl (ql Bm rfl (qf D5 rfl (ql A4 rfl (qf FU rfl (ql A4 rfl ?_)))))))))
   refine BU h fun v6 a6 b6 h => qI AG Db a6 (Ah b6) rfl ?_
   refine EX rfl rfl rfl rfl (Ah b6) rfl Db rfl (Ge rfl) (EY As p1.ff _ p2.fr) ?_
   refine AH (by kernel_rfl) (wp rfl (qf BN rfl (ql Fl rfl (AK De rfl (qm rfl (Ac ?_))))))
   refine A0 (L := CW N p0 p2) h (fun v7 => mk [(1, oD (.ptr 90000 0)), (5, oD (.ptr 5 0)), (41, pD (.sl (p0.fd.map Bw))), (42, iD ((p0.fd.length : Int))), (43, iD v7.2)] [(5, .box (BY p2)), (90000, .box [.own 90001, .own 90002, .own 90003]), (90001, .vec 1 (p1.fh.map As)), (90002, .vec 1 ((p1.ff.set ((p2.fm).toNat) p2.fr).map As)), (90003, .vec 1 (v7.1.map DO))]) (fun v8 => mk [] [(90000, .box [.own 90001, .own 90002, .own 90003]), (90001, .vec 1 (p1.fh.map As)), (90002, .vec 1 ((p1.ff.set ((p2.fm).toNat) p2.fr).map As)), (90003, .vec 1 (v8.map DO))]) (fun _ _ => rfl) (sm [] _ _ rfl rfl) (fun j7 n7 v7 h => ?_) (fun v8 s h hs => ?_)
   ·unfold CW at h
    refine wq rfl (A1 rfl (Ac (AT ?_)))
    refine Bg h (fun h => ?_) fun h => ?_
    ·refine Ap ?_
     refine AM h (fun v10 => mk [(1, oD (.ptr 90000 0)), (5, oD (.ptr 5 0)), (41, pD (.sl (p0.fd.map Bw))), (42, iD ((p0.fd.length : Int))), (43, iD v7.2)] [(5, .box (BY p2)), (90000, .box [.own 90001, .own 90002, .own 90003]), (90001, .vec 1 (p1.fh.map As)), (90002, .vec 1 ((p1.ff.set ((p2.fm).toNat) p2.fr).map As)), (90003, .vec 1 (v10.map DO))]) (fun j10 h => ?_) (fun v10 h => ?_)
     ·refine AU (wq rfl (qm rfl ?_))
      refine BU h fun v11 a11 b11 h => qi De B1 a11 (Ah b11) rfl (qK Fj B1 rfl (qz J0 rfl (qa rfl (qs B1 rfl (Ac ?_)))))
      refine AM h (fun v12 => mk [(1, oD (.ptr 90000 0)), (5, oD (.ptr 5 0)), (7, iD v7.2), (41, pD (.sl (p0.fd.map Bw))), (42, iD ((p0.fd.length : Int))), (43, iD v7.2), (56, bD v12)] [(5, .box (BY p2)), (90000, .box [.own 90001, .own 90002, .own 90003]), (90001, .vec 1 (p1.fh.map As)), (90002, .vec 1 ((p1.ff.set ((p2.fm).toNat) p2.fr).map As)), (90003, .vec 1 (v7.1.map DO))]) (fun j12 h => ?_) (fun v12 h => ?_)
      ·refine Aj Ax rfl (qf Cq rfl (ql A4 rfl (qf D5 rfl (ql A4 rfl (AS rfl (qm rfl ?_))))))
       refine Ce 53 h rfl (fun h => ?_) fun h => ?_
       ·refine qL Fj B1 rfl ?_
        refine BS h fun v14 a14 h => Av [] (JX N v11 v14 a14) Vg rfl (qp rfl (Ac ?_))
        exact sn [] h
       ·refine qw 2 rfl (qp rfl (Ac ?_))
        exact sn [] h
      ·refine Bg h (fun h => ?_) fun h => ?_
       ·refine Aj Ax rfl (qm rfl (Iz rfl (qf C8 rfl (ql HJ rfl (qm rfl ?_)))))
        refine BU h fun v16 a16 b16 h => qI Ea Ek a16 (Ah b16) rfl (qj H8 (Ah b16) rfl (qf FU rfl (ql A4 rfl ?_)))
        refine Iq h fun c17 h => IX rfl c17 (Sw rfl ?_)
        refine BU h fun v18 a18 b18 h => qI Ea Ek a18 (Ah b18) rfl ?_
        refine EX rfl rfl rfl rfl (Ah b18) rfl Ek rfl (Ge rfl) (EY DO v7.1 _ ((LW .u8 v16 ((DZ .u8 1 p2.fr))))) ?_
        refine AH (by kernel_rfl) ?_
        exact sn [] h
       ·refine Ap ?_
        exact sn [] h
     ·refine Aj Ax rfl (Ch rfl (qm rfl (Ac ?_)))
      exact sn [] h
    ·refine BT ?_
     exact sn [] h
   ·refine Ae hs (wq rfl (qe rfl ?_))
    obtain rfl := sj h
    refine Ae (sm [] [(6, bD true)] [(90000, .box [.own 90001, .own 90002, .own 90003]), (90001, .vec 1 (p1.fh.map As)), (90002, .vec 1 ((p1.ff.set ((p2.fm).toNat) p2.fr).map As)), (90003, .vec 1 (v8.map DO))] rfl rfl) (Aq ?_)
    exact ⟨⟨[_], tm, rfl⟩, ⟨rfl, rfl, rfl, rfl, tv⟩, tv⟩
theorem Mz (N : Nat) (p0 : Af) (p1 : Int) (r : Int) (h : EW N p0 p1 = some r) : Ar zA 198 [.e (.agg (Bp p0)), iD p1] [] (pD (.val (.int .u8 r))) := by
 unfold EW at h
 refine cw (n := 27) (rs := [.tmp 4]) Tryz.func198 fun w0 S0 => ?_
 refine wq rfl (qb rfl (qa rfl (Ac (wq rfl (qf Dy rfl (ql Bm rfl (qm rfl ?_)))))))
 refine BU h fun v1 a1 b1 h => qi AG Db a1 (Ah b1) rfl (qk A4 rfl ?_)
 refine Iq h fun c2 h => IX rfl c2 (qe rfl ?_)
 refine AM h (fun v3 => mk [(5, pD (.val (.int .u8 v3)))] []) (fun j3 h => ?_) (fun v3 h => ?_)
 ·refine wq rfl (qf B4 rfl (ql Bm rfl (qm rfl ?_)))
  refine BU h fun v4 a4 b4 h => qi AG Db a4 (Ah b4) rfl (qk A4 rfl (Dt rfl (Ac ?_)))
  refine Bg h (fun h => ?_) fun h => ?_
  ·refine Aj Ax rfl (qm rfl (qf B4 rfl (ql Bm rfl (qm rfl ?_))))
   refine BU h fun v6 a6 b6 h => qi AG Db a6 (Ah b6) rfl (qk A4 rfl ?_)
   refine Iq h fun c7 h => IX rfl c7 (Sw rfl (qe rfl ?_))
   exact sn [] h
  ·refine Ap ?_
   exact sn [] h
 ·refine wq rfl (qm rfl (qe rfl ?_))
  obtain rfl := sj h
  refine Ae (sm [] [(4, pD (.val (.int .u8 v3)))] [] rfl rfl) (Aq ?_)
  exact ⟨⟨[_], tm, rfl⟩, tv⟩
theorem HR (N : Nat) (p0 : Int) (r : Int) (h : Cf N p0 = some r) : Ar zA 200 [pD (.val (.int .u8 p0))] [] (iD r) := by
 unfold Cf at h
 refine cw (n := 6) (rs := [.tmp 2]) Tryz.func200 fun w0 S0 => ?_
 refine wq rfl (qa rfl (Ac (wq rfl (qm rfl ?_))))
 refine BS h fun v1 a1 h => RP (.p rfl) rfl rfl O9 a1 ?_
 refine LZ YA Yt rfl (qe rfl ?_)
 obtain rfl := sj h
 refine Ae (sm [] [(2, iD ((wI .i64 v1)))] [] rfl rfl) (Aq ?_)
 exact ⟨⟨[_], tm, rfl⟩, tv⟩
theorem Kt (N : Nat) (p0 : AL) (p1 : Int) (p2 : Int) (r : Bool) (h : EV N p0 p1 p2 = some r) : Ar zA 199 [.e (.agg (CV p0)), pD (.val (.int .u8 p1)), iD p2] [] (bD r) := by
 unfold EV at h
 refine cw (n := 25) (rs := [.tmp 6]) Tryz.func199 fun w0 S0 => ?_
 refine wq rfl (qb rfl (qa rfl (Ac (wp rfl (qm rfl (qe rfl ?_))))))
 refine A0 (L := CJ N p0 p2) h (fun v1 => mk [(2, iD p2), (3, oD (.ptr 3 0)), (7, pD (.val (.int .u8 v1)))] [(3, .box (CV p0))]) (fun v2 => mk [] []) (fun _ _ => rfl) (sm [] _ _ rfl rfl) (fun j1 n1 v1 h => ?_) (fun v2 s h hs => ?_)
 ·unfold CJ at h
  refine wp rfl (qm rfl (Bb rfl (Ac ?_)))
  refine Bg h (fun h => ?_) fun h => ?_
  ·refine Ap (AT (AU (wq rfl (qf Er rfl (ql FB rfl (qm rfl ?_))))))
   refine BS h fun v4 a4 h => Av [] (HR N v1 v4 a4) Wr rfl ?_
   refine BU h fun v5 a5 b5 h => qi Eg J1 a5 (Ah b5) rfl (qk J4 rfl (qm rfl ?_))
   refine BU h fun v6 a6 b6 h => qi Ih Sa a6 (Ah b6) rfl (qk Rk rfl (Cl rfl (AH (by kernel_rfl) ?_)))
   refine Bg h (fun h => ?_) fun h => ?_
   ·refine wq rfl (qe rfl ?_)
    obtain rfl := sj h
    refine Ae (sm [] [(6, bD false)] [] rfl rfl) (Aq ?_)
    exact ⟨⟨[_], tm, rfl⟩, tv⟩
   ·refine Ap (Aj Ax rfl (qw 2 rfl (Lo rfl (NW rfl (qe rfl ?_)))))
    exact sn [] h
  ·refine BT ?_
   exact sn [] h
 ·refine Ae hs (wq rfl (qe rfl ?_))
  obtain rfl := sj h
  refine Ae (sm [] [(6, bD true)] [] rfl rfl) (Aq ?_)
  exact ⟨⟨[_], tm, rfl⟩, tv⟩
theorem OV (N : Nat) (p0 : Aa) (p1 : Af) (p2 : Int) (r : Bool × (List Int)) (h : FK N p0 p1 p2 = some r) : CO zA 193 [.e (.agg (Al p0)), oD (.ptr 90000 0), iD p2] [(.box [.own 90001, .own 90002, .own 90003], .box [.own 90001, .own 90002, .own 90003]), (.vec 1 (p1.fh.map As), .vec 1 (p1.fh.map As)), (.vec 1 (p1.ff.map As), .vec 1 (p1.ff.map As)), (.vec 1 (p1.fg.map DO), .vec 1 (r.2.map DO))] [] (bD r.1) := by
 unfold FK at h
 refine Cr (n := 68) (rs := [.tmp 6]) Tryz.func193 rfl rfl rfl (Ge rfl) (Ge rfl) rfl rfl (Ge rfl) rfl (Ge rfl) fun w0 S0 GL => ?_
 refine Ae (sm [] [(0, .e (.agg (Al p0))), (1, oD (.ptr 90000 0)), (2, iD p2)] [(90000, .box [.own 90001, .own 90002, .own 90003]), (90001, .vec 1 (p1.fh.map As)), (90002, .vec 1 (p1.ff.map As)), (90003, .vec 1 (p1.fg.map DO))] rfl rfl) (wq rfl (qb rfl (qa rfl (Ac (wq rfl (qf BN rfl (ql Fl rfl (qm rfl ?_))))))))
 refine BU h fun v1 a1 b1 h => qi De B1 a1 (Ah b1) rfl (qK Fj B1 rfl (qz J0 rfl (qs B1 rfl (Ac (wp rfl (qL Fj B1 rfl ?_))))))
 refine BS h fun v2 a2 h => Av [] (JX N v1 v2 a2) Vg rfl (Cl rfl (Ac ?_))
 refine Bg h (fun h => ?_) fun h => ?_
 ·refine wq rfl (qe rfl ?_)
  obtain rfl := sj h
  refine Ae (sm [] [(6, bD false)] [(90000, .box [.own 90001, .own 90002, .own 90003]), (90001, .vec 1 (p1.fh.map As)), (90002, .vec 1 (p1.ff.map As)), (90003, .vec 1 (p1.fg.map DO))] rfl rfl) (Aq ?_)
  exact ⟨⟨[_], tm, rfl⟩, ⟨rfl, rfl, rfl, rfl, tv⟩, tv⟩
 ·refine Ap (wq rfl (qm rfl (Iz rfl (qL Cc AY rfl (qf Cq rfl (ql A4 rfl ?_))))))
  refine BS h fun v4 a4 h => Gj [] [90001, 90002, 90003] (Mz N p1 v1.fk v4 a4) Ws EC rfl (qa rfl (AH (by kernel_rfl) (wq rfl (qm rfl (Iz rfl (qf C8 rfl (ql HJ rfl (qm rfl ?_))))))))
  refine BU h fun v5 a5 b5 h => qI Ea Ek a5 (Ah b5) rfl (qj H8 (Ah b5) rfl (qm rfl (HU rfl (qa rfl (Ac (AT ?_))))))
  refine AM h (fun v6 => mk [(1, oD (.ptr 90000 0)), (2, iD p2), (8, pD (.val (.int .u8 v4))), (60, bD v6)] [(90000, .box [.own 90001, .own 90002, .own 90003]), (90001, .vec 1 (p1.fh.map As)), (90002, .vec 1 (p1.ff.map As)), (90003, .vec 1 (p1.fg.map DO))]) (fun j6 h => ?_) (fun v6 h => ?_)
  ·refine Aj Ax rfl (qm rfl (Iz rfl (qf C8 rfl (ql HJ rfl (qm rfl ?_)))))
   refine BU h fun v7 a7 b7 h => qI Ea Ek a7 (Ah b7) rfl (qj H8 (Ah b7) rfl (qm rfl (AS rfl (qm rfl ?_))))
   refine Ce 42 h rfl (fun h => ?_) fun h => ?_
   ·refine qw 4 rfl (qu rfl (qu rfl (qu rfl (qu rfl (qu rfl (qu rfl (qu rfl (qu rfl (qu rfl (qu rfl (qu rfl (qu rfl (qn rfl (qp rfl (AH (by kernel_rfl) ?_)))))))))))))))
    exact sn [] h
   ·refine qf Ef rfl (ql A4 rfl (AS rfl (qm rfl ?_)))
    refine Ce 46 h rfl (fun h => ?_) fun h => ?_
    ·refine qL Fj B1 rfl (qw 2 rfl (Iz rfl (qf Dy rfl (ql Bm rfl (qf Cq rfl (ql A4 rfl ?_))))))
     refine BU h fun v10 a10 b10 h => qI AG Db a10 (Ah b10) rfl (qj A4 (Ah b10) rfl ?_)
     refine BS h fun v11 a11 h => Av [] (Kt N v1 ((CA .u8 v5 v4)) v10 v11 a11) Wz rfl (Cl rfl (qp rfl (qp rfl (AH (by kernel_rfl) ?_))))
     exact sn [] h
    ·refine qw 12 rfl (qp rfl (qp rfl (AH (by kernel_rfl) ?_)))
     exact sn [] h
  ·refine Bg h (fun h => ?_) fun h => ?_
   ·refine wq rfl (qe rfl ?_)
    obtain rfl := sj h
    refine Ae (sm [] [(6, bD false)] [(90000, .box [.own 90001, .own 90002, .own 90003]), (90001, .vec 1 (p1.fh.map As)), (90002, .vec 1 (p1.ff.map As)), (90003, .vec 1 (p1.fg.map DO))] rfl rfl) (Aq ?_)
    exact ⟨⟨[_], tm, rfl⟩, ⟨rfl, rfl, rfl, rfl, tv⟩, tv⟩
   ·refine Ap (wq rfl (qm rfl (Iz rfl (qf C8 rfl (ql HJ rfl (qw 2 rfl ?_))))))
    refine BU h fun v13 a13 b13 h => qI Ea Ek a13 (Ah b13) rfl ?_
    refine EX rfl rfl rfl rfl (Ah b13) rfl Ek rfl (Ge rfl) (EY DO p1.fg _ v4) ?_
    refine Ac (wq rfl (qe rfl ?_))
    obtain rfl := sj h
    refine Ae (sm [] [(6, bD true)] [(90000, .box [.own 90001, .own 90002, .own 90003]), (90001, .vec 1 (p1.fh.map As)), (90002, .vec 1 (p1.ff.map As)), (90003, .vec 1 ((p1.fg.set ((p2).toNat) v4).map DO))] rfl rfl) (Aq ?_)
    exact ⟨⟨[_], tm, rfl⟩, ⟨rfl, rfl, rfl, rfl, tv⟩, tv⟩
theorem OQ (N : Nat) (p0 : Aa) (p1 : Af) (p2 : Ao) (r : Af × Bool) (h : FL N p0 p1 p2 = some r) : Ar zA 180 [.e (.agg (Al p0)), .e (.agg (Bp p1)), .e (.agg (BY p2))] [(1, r.1.fh.map As), (1, r.1.ff.map As), (1, r.1.fg.map DO)] (.tup [.agg [.own 0, .own 1, .own 2], .one (.pure (.val (.bool r.2)))]) := by
 unfold FL at h
 refine cw (n := 51) (rs := [.cell 6 40, .tmp 7]) Tryz.func180 fun w0 S0 => ?_
 refine wq rfl (qb rfl (qb rfl (qb rfl (qz DI rfl (qa rfl (Ac (wq rfl (qL Cc AY rfl ?_))))))))
 refine BS h fun v1 a1 h => Av [2001, 2002, 2003] (JY N p1 v1 a1) U9 rfl (qz DI rfl (qs AY rfl (Ac (wp rfl (qf Dh rfl (ql A4 rfl (Ac (AU (wq rfl (AS rfl (qe rfl ?_)))))))))))
 refine Bg h (fun h => ?_) fun h => ?_
 ·refine wq rfl (qL Cc AY rfl (qL Dg Da rfl (qL I1 Gr rfl ?_)))
  refine BS h fun v3 a3 h => Ez (ds0 := [_, _, _]) [8, 2001, 2002, 2003] [] [false, false, true, true] (Ou N p0 v1 p2 v3 a3) (.p rfl) We rfl ⟨rfl, rfl, rfl, tv⟩ rfl rfl (Dp rfl) ⟨rfl, rfl, rfl, rfl, tv⟩ rfl (B5 rfl) tv ⟨(fun _ => rfl), (fun _ => rfl), (fun h => by cases h), (fun h => by cases h), tv⟩ rfl rfl rfl ?_
  refine qs AY rfl (qa rfl (AH (by kernel_rfl) ?_))
  obtain rfl := sj h
  refine Ae (sm [(1000, 2001), (1001, 2002), (1002, 2003)] [(6, oD (.ptr 6 0)), (7, bD v3.1)] [(6, .box [.own 1000, .own 1001, .own 1002]), (1000, .vec 1 (v1.fh.map As)), (1001, .vec 1 (v3.2.1.map As)), (1002, .vec 1 (v3.2.2.map DO))] rfl rfl) (Aq ?_)
  exact ⟨⟨[_, _], ⟨.cellN _ _ _ _ _ _ _ rfl rfl Cc AY rfl rfl (Io rfl), tm⟩, rfl⟩, ⟨rfl, rfl, rfl, tv⟩⟩
 ·refine wq rfl (AS rfl (qe rfl ?_))
  refine Bg h (fun h => ?_) fun h => ?_
  ·refine wq rfl (qL Cc AY rfl (qL Dg Da rfl (qf D5 rfl (ql A4 rfl ?_))))
   refine BS h fun v5 a5 h => Ez (ds0 := [_, _, _]) [8, 2001, 2002, 2003] [] [false, false, false, true] (OV N p0 v1 p2.fm v5 a5) (.p rfl) XC rfl ⟨rfl, rfl, rfl, tv⟩ rfl rfl (Dp rfl) ⟨rfl, rfl, rfl, rfl, tv⟩ rfl (B5 rfl) tv ⟨(fun _ => rfl), (fun _ => rfl), (fun _ => rfl), (fun h => by cases h), tv⟩ rfl rfl rfl ?_
   refine qs AY rfl (qa rfl (AH (by kernel_rfl) ?_))
   obtain rfl := sj h
   refine Ae (sm [(1000, 2001), (1001, 2002), (1002, 2003)] [(6, oD (.ptr 6 0)), (7, bD v5.1)] [(6, .box [.own 1000, .own 1001, .own 1002]), (1000, .vec 1 (v1.fh.map As)), (1001, .vec 1 (v1.ff.map As)), (1002, .vec 1 (v5.2.map DO))] rfl rfl) (Aq ?_)
   exact ⟨⟨[_, _], ⟨.cellN _ _ _ _ _ _ _ rfl rfl Cc AY rfl rfl (Io rfl), tm⟩, rfl⟩, ⟨rfl, rfl, rfl, tv⟩⟩
  ·refine Ap (wq rfl (qf B4 rfl (ql Bm rfl (qf D5 rfl (ql A4 rfl ?_)))))
   refine BU h fun v6 a6 b6 h => qI AG Db a6 (Ah b6) rfl (qj A4 (Ah b6) rfl (qa rfl (Ac (wp rfl (qm rfl (A1 rfl (Ac ?_)))))))
   refine Bg h (fun h => ?_) fun h => ?_
   ·refine wq rfl (qL Cc AY rfl (qs AY rfl (qe rfl ?_)))
    obtain rfl := sj h
    refine Ae (sm [(1000, 2001), (1001, 2002), (1002, 2003)] [(6, oD (.ptr 6 0)), (7, bD false)] [(6, .box [.own 1000, .own 1001, .own 1002]), (1000, .vec 1 (v1.fh.map As)), (1001, .vec 1 (v1.ff.map As)), (1002, .vec 1 (v1.fg.map DO))] rfl rfl) (Aq ?_)
    exact ⟨⟨[_, _], ⟨.cellN _ _ _ _ _ _ _ rfl rfl Cc AY rfl rfl (Io rfl), tm⟩, rfl⟩, ⟨rfl, rfl, rfl, tv⟩⟩
   ·refine Ap (wq rfl (qf B4 rfl (ql Bm rfl (qf D5 rfl (ql A4 rfl ?_)))))
    refine BU h fun v8 a8 b8 h => qI AG Db a8 (Ah b8) rfl ?_
    refine EX rfl rfl rfl rfl (Ah b8) rfl Db rfl (Ge rfl) (EY As v1.ff _ ((-1))) ?_
    refine Ac ?_
    refine AM h (fun v9 => mk [(6, oD (.ptr 6 0)), (8, oD (.ptr 8 0))] [(6, .box [.pure (.nil0), .pure (.nil0), .pure (.nil0)]), (8, .box [.own 2004, .own 2005, .own 2006]), (2004, .vec 1 (v9.map As)), (2005, .vec 1 ((v1.ff.set ((p2.fm).toNat) ((-1))).map As)), (2006, .vec 1 (v1.fg.map DO))]) (fun j9 h => ?_) (fun v9 h => ?_)
    ·refine wq rfl (qf Dh rfl (ql A4 rfl (AS rfl (Ac ?_))))
     refine Bg h (fun h => ?_) fun h => ?_
     ·refine Aj Ax rfl (qf Dy rfl (ql Bm rfl (qf D5 rfl (ql A4 rfl (qm rfl ?_)))))
      refine BU h fun v11 a11 b11 h => qI AG Db a11 (Ah b11) rfl ?_
      refine EX rfl rfl rfl rfl (Ah b11) rfl Db rfl (Ge rfl) (EY As v1.fh _ v6) ?_
      refine Ac ?_
      exact sn [(2004, 2001), (2005, 2002), (2006, 2003)] h
     ·refine Ap ?_
      exact sn [(2004, 2001), (2005, 2002), (2006, 2003)] h
    ·refine wq rfl (qL Cc AY rfl (qs AY rfl (qe rfl ?_)))
     obtain rfl := sj h
     refine Ae (sm [(1000, 2004), (1001, 2005), (1002, 2006)] [(6, oD (.ptr 6 0)), (7, bD true)] [(6, .box [.own 1000, .own 1001, .own 1002]), (1000, .vec 1 (v9.map As)), (1001, .vec 1 ((v1.ff.set ((p2.fm).toNat) ((-1))).map As)), (1002, .vec 1 (v1.fg.map DO))] rfl rfl) (Aq ?_)
     exact ⟨⟨[_, _], ⟨.cellN _ _ _ _ _ _ _ rfl rfl Cc AY rfl rfl (Io rfl), tm⟩, rfl⟩, ⟨rfl, rfl, rfl, tv⟩⟩
theorem Kx (N : Nat) (p0 : Aa) (p1 : Af) (p2 : Ao) (r : Af × Int) (h : E4 N p0 p1 p2 = some r) : Ar zA 154 [.e (.agg (Al p0)), .e (.agg (Bp p1)), .e (.agg (BY p2))] [(1, r.1.fh.map As), (1, r.1.ff.map As), (1, r.1.fg.map DO)] (.tup [.agg [.own 0, .own 1, .own 2], .one (iC r.2)]) := by
 unfold E4 at h
 refine cw (n := 32) (rs := [.cell 6 40, .tmp 7]) Tryz.func154 fun w0 S0 => ?_
 refine wq rfl (qb rfl (qb rfl (qb rfl (qz DI rfl (qa rfl (Ac (AT (AU (wq rfl (qL I1 Gr rfl ?_))))))))))
 refine BS h fun v1 a1 h => Av [] (ON N p2 v1 a1) WX rfl (Cl rfl (qe rfl ?_))
 refine Bg h (fun h => ?_) fun h => ?_
 ·refine wq rfl (Bx DI HB rfl (qs AY rfl (qe rfl ?_)))
  obtain rfl := sj h
  refine Ae ((Az 6 0 2001 1 _ rfl rfl rfl rfl).trans ((Az 6 1 2002 1 _ rfl rfl rfl rfl).trans ((Az 6 2 2003 1 _ rfl rfl rfl rfl).trans (sm [(1000, 2001), (1001, 2002), (1002, 2003)] [(6, oD (.ptr 6 0)), (7, iD 1)] [(6, .box [.own 1000, .own 1001, .own 1002]), (1000, .vec 1 ((([] : List Int)).map As)), (1001, .vec 1 ((([] : List Int)).map As)), (1002, .vec 1 ((([] : List Int)).map DO))] rfl rfl)))) (Aq ?_)
  exact ⟨⟨[_, _], ⟨.cellN _ _ _ _ _ _ _ rfl rfl Cc AY rfl rfl (Io rfl), tm⟩, rfl⟩, ⟨rfl, rfl, rfl, tv⟩⟩
 ·refine wq rfl (qL Dg Da rfl (qL I1 Gr rfl ?_))
  refine BS h fun v3 a3 h => Av [] (Nn N p0 p2 v3 a3) Xc rfl (Cl rfl (qe rfl ?_))
  refine Bg h (fun h => ?_) fun h => ?_
  ·refine wq rfl (Bx DI HB rfl (qs AY rfl (qe rfl ?_)))
   obtain rfl := sj h
   refine Ae ((Az 6 0 2004 1 _ rfl rfl rfl rfl).trans ((Az 6 1 2005 1 _ rfl rfl rfl rfl).trans ((Az 6 2 2006 1 _ rfl rfl rfl rfl).trans (sm [(1000, 2004), (1001, 2005), (1002, 2006)] [(6, oD (.ptr 6 0)), (7, iD 4)] [(6, .box [.own 1000, .own 1001, .own 1002]), (1000, .vec 1 ((([] : List Int)).map As)), (1001, .vec 1 ((([] : List Int)).map As)), (1002, .vec 1 ((([] : List Int)).map DO))] rfl rfl)))) (Aq ?_)
   exact ⟨⟨[_, _], ⟨.cellN _ _ _ _ _ _ _ rfl rfl Cc AY rfl rfl (Io rfl), tm⟩, rfl⟩, ⟨rfl, rfl, rfl, tv⟩⟩
  ·refine Ap (wq rfl (qL Dg Da rfl (qL Cc AY rfl (qL I1 Gr rfl ?_))))
   refine BS h fun v5 a5 h => Av [2007, 2008, 2009] (OQ N p0 p1 p2 v5 a5) Wn rfl (qm rfl (qx rfl (qx rfl (qz DI rfl (qs AY rfl (qa rfl (Ac (wp rfl (qm rfl (Cl rfl (Ac ?_)))))))))))
   refine Bg h (fun h => ?_) fun h => ?_
   ·refine wq rfl (Bx DI HB rfl (qs AY rfl (qe rfl ?_)))
    obtain rfl := sj h
    refine Ae ((Az 6 0 2010 1 _ rfl rfl rfl rfl).trans ((Az 6 1 2011 1 _ rfl rfl rfl rfl).trans ((Az 6 2 2012 1 _ rfl rfl rfl rfl).trans (sm [(1000, 2010), (1001, 2011), (1002, 2012)] [(6, oD (.ptr 6 0)), (7, iD 11)] [(6, .box [.own 1000, .own 1001, .own 1002]), (1000, .vec 1 ((([] : List Int)).map As)), (1001, .vec 1 ((([] : List Int)).map As)), (1002, .vec 1 ((([] : List Int)).map DO))] rfl rfl)))) (Aq ?_)
    exact ⟨⟨[_, _], ⟨.cellN _ _ _ _ _ _ _ rfl rfl Cc AY rfl rfl (Io rfl), tm⟩, rfl⟩, ⟨rfl, rfl, rfl, tv⟩⟩
   ·refine Ap (wq rfl (qL Cc AY rfl (qs AY rfl (qe rfl ?_))))
    obtain rfl := sj h
    refine Ae (sm [(1000, 2007), (1001, 2008), (1002, 2009)] [(6, oD (.ptr 6 0)), (7, iD 0)] [(6, .box [.own 1000, .own 1001, .own 1002]), (1000, .vec 1 (v5.1.fh.map As)), (1001, .vec 1 (v5.1.ff.map As)), (1002, .vec 1 (v5.1.fg.map DO))] rfl rfl) (Aq ?_)
    exact ⟨⟨[_, _], ⟨.cellN _ _ _ _ _ _ _ rfl rfl Cc AY rfl rfl (Io rfl), tm⟩, rfl⟩, ⟨rfl, rfl, rfl, tv⟩⟩
theorem Qv (N : Nat) (p0 : Aa) (p1 : Af) (p2 : List Ao) (r : (List Af) × Int × Int) (h : Ha N p0 p1 p2 = some r) : Ar zA 113 [.e (.agg (Al p0)), .e (.agg (Bp p1)), pD (.sl (p2.map AQ))] [(3, r.1.map Fk)] (.tup [.one (.own 0), .one (iC r.2.1), .one (iC r.2.2)]) := by
 unfold Ha at h
 refine cw (n := 53) (rs := [.tmp 6, .tmp 7, .tmp 8]) Tryz.func113 fun w0 S0 => ?_
 refine wq rfl (qb rfl (qb rfl (qa rfl (qa rfl (qa rfl (Ac (wp rfl (qL Dg Da rfl (qL Cc AY rfl ?_)))))))))
 refine BS h fun v1 a1 h => Av [] (Lu N p0 p1 v1 a1) U5 rfl (qa rfl (Ac (wq rfl (qm rfl (Bb rfl (Ac ?_))))))
 refine Bg h (fun h => ?_) fun h => ?_
 ·refine wq rfl (qm rfl (qa rfl (qa rfl (qe rfl ?_))))
  obtain rfl := sj h
  refine Ae ((FZ 6 2001 3 rfl rfl rfl).trans (sm [(1000, 2001)] [(6, oD (.own 1000)), (7, iD 0), (8, iD v1)] [(1000, .vec 3 ((([] : List Af)).map Fk))] rfl rfl)) (Aq ?_)
  exact ⟨⟨[_, _, _], ⟨.tmp _ _ rfl, ⟨.tmp _ _ rfl, tm⟩⟩, rfl⟩, ⟨rfl, tv⟩⟩
 ·refine Ap (wq rfl (qL Cc AY rfl ?_))
  refine BS h fun v3 a3 h => Av [2002, 2003, 2004] (JY N p1 v3 a3) U9 rfl (FO (Bn 2002 _ _ rfl rfl) (FO (Bn 2003 _ _ rfl rfl) (FO (Bn 2004 _ _ rfl rfl) (F8 Ib AY DI rfl (qa rfl (Ac (wp rfl (qm rfl (AK G6 rfl (qm rfl (Ac ?_)))))))))))
  refine A0 (L := EG N p0 p2) h (fun v4 => mk [(2, pD (.sl (p2.map AQ))), (3, oD (.ptr 3 0)), (10, oD (.own 2005)), (24, pD (.sl (p2.map AQ))), (25, iD ((p2.length : Int))), (26, iD v4.2)] [(3, .box (Al p0)), (2005, .vec 3 (v4.1.map Fk))]) (fun v5 => mk [(2, pD (.sl (p2.map AQ))), (10, oD (.own 2006))] [(2006, .vec 3 (v5.map Fk))]) (fun _ _ => rfl) (sm [(2005, 23)] _ _ rfl rfl) (fun j4 n4 v4 h => ?_) (fun v5 s h hs => ?_)
  ·unfold EG at h
   refine wq rfl (A1 rfl (Ac (AT ?_)))
   refine Bg h (fun h => ?_) fun h => ?_
   ·refine Ap (AT (AU (wq rfl (qm rfl ?_))))
    refine BU h fun v7 a7 b7 h => qi G6 Gr a7 (Ah b7) rfl (qK I1 Gr rfl (qz Pd rfl (qa rfl (qs Gr rfl (Ac (wq rfl (qL Dg Da rfl (qw 2 rfl ?_))))))))
    refine BU h fun v8 a8 b8 h => qI Ib AY a8 (Ah b8) rfl (qJ Cc AY (Ah b8) rfl (qL I1 Gr rfl ?_))
    refine BS h fun v9 a9 h => Av [2007, 2008, 2009] (Kx N p0 v8 v7 v9 a9) U0 rfl (qm rfl (qx rfl (qx rfl (qz DI rfl (qs AY rfl (qa rfl (AH (by kernel_rfl) (wp rfl (qm rfl (Bb rfl (Ac ?_)))))))))))
    refine Bg h (fun h => ?_) fun h => ?_
    ·refine wq rfl (qw 2 rfl (qa rfl (qa rfl (qe rfl ?_))))
     obtain rfl := sj h
     refine Ae ((FZ 6 2010 3 rfl rfl rfl).trans (sm [(1000, 2010)] [(6, oD (.own 1000)), (7, iD v4.2), (8, iD v9.2)] [(1000, .vec 3 ((([] : List Af)).map Fk))] rfl rfl)) (Aq ?_)
     exact ⟨⟨[_, _, _], ⟨.tmp _ _ rfl, ⟨.tmp _ _ rfl, tm⟩⟩, rfl⟩, ⟨rfl, tv⟩⟩
    ·refine Ap (Aj Ax rfl (qm rfl (qL Cc AY rfl (FO (Bn 2007 _ _ rfl rfl) (FO (Bn 2008 _ _ rfl rfl) (FO (Bn 2009 _ _ rfl rfl) (F8 Ib AY DI rfl ?_)))))))
     refine Iq h fun c11 h => Me (f := Fk) Ib Ib AY UT DI c11 rfl (qa rfl (Ac (Aj Ax rfl (Ch rfl (qm rfl (Ac ?_))))))
     exact sn [(2005, 48)] h
   ·refine BT ?_
    exact sn [(2006, 2005)] h
  ·refine Ae hs (wq rfl (qw 2 rfl (AK G6 rfl (qa rfl (qa rfl (qe rfl ?_))))))
   obtain rfl := sj h
   refine Ae (sm [(1000, 2006)] [(6, oD (.own 1000)), (7, iD ((p2.length : Int))), (8, iD 0)] [(1000, .vec 3 (v5.map Fk))] rfl rfl) (Aq ?_)
   exact ⟨⟨[_, _, _], ⟨.tmp _ _ rfl, ⟨.tmp _ _ rfl, tm⟩⟩, rfl⟩, ⟨rfl, tv⟩⟩
theorem H3 (N : Nat) (p0 : Aa) (p1 : List Ao) (r : Af × Int) (h : DE N p0 p1 = some r) : Ar zA 72 [.e (.agg (Al p0)), pD (.sl (p1.map AQ))] [] (.tup [.agg (Bp r.1), .one (iC r.2)]) := by
 unfold DE at h
 refine cw (n := 30) (rs := [.cell 4 40, .tmp 5]) Tryz.func72 fun w0 S0 => ?_
 refine wq rfl (qb rfl (qz DI rfl (qa rfl (Ac (wp rfl (qm rfl ?_))))))
 refine BS h fun v1 a1 h => Av [] (Ar.weak (ds' := [pD (.sl (p1.map AQ)), oD (.fnc 111)]) (Fm N p1 ((fun (x : Ao) => DR N x)) v1 a1) ⟨(fun _ _ _ hh => hh), (fun _ _ _ hh => N7 Wt (fun ar t ht => by obtain ⟨x, r, rfl, hq, rfl⟩ := ID ht; exact JL N x r hq) hh), tv⟩) W9 rfl ?_
 refine Ac ?_
 refine Bg h (fun h => ?_) fun h => ?_
 ·refine wq rfl (Bx DI HB rfl (qs AY rfl (qe rfl ?_)))
  obtain rfl := sj h
  refine Ae ((JA 4 _ rfl).trans (sm [] [(4, oD (.ptr 4 0)), (5, iD 1)] [(4, .box [sC ((([] : List Int)).map As), sC ((([] : List Int)).map As), sC ((([] : List Int)).map DO)])] rfl rfl)) (Aq ?_)
  exact ⟨⟨[_, _], ⟨.cellN _ _ _ _ _ _ _ rfl rfl Cc AY rfl rfl (Io rfl), tm⟩, rfl⟩, tv⟩
 ·refine Ap (wq rfl (qL Dg Da rfl ?_))
  refine BS h fun v3 a3 h => Av [2001, 2002, 2003] (Pl N p0 v3 a3) WN rfl (qm rfl (qx rfl (qx rfl (qz DI rfl (qs AY rfl (qa rfl (Ac (wp rfl (qm rfl (Bb rfl (Ac ?_)))))))))))
  refine Bg h (fun h => ?_) fun h => ?_
  ·refine wq rfl (Bx DI HB rfl (qm rfl (qs AY rfl (qe rfl ?_))))
   obtain rfl := sj h
   refine Ae ((JA 4 _ rfl).trans (sm [] [(4, oD (.ptr 4 0)), (5, iD v3.2)] [(4, .box [sC ((([] : List Int)).map As), sC ((([] : List Int)).map As), sC ((([] : List Int)).map DO)])] rfl rfl)) (Aq ?_)
   exact ⟨⟨[_, _], ⟨.cellN _ _ _ _ _ _ _ rfl rfl Cc AY rfl rfl (Io rfl), tm⟩, rfl⟩, tv⟩
  ·refine Ap (wq rfl (qL Dg Da rfl (qL Cc AY rfl (qm rfl (FO (Bn 2001 _ _ rfl rfl) (FO (Bn 2002 _ _ rfl rfl) (FO (Bn 2003 _ _ rfl rfl) ?_)))))))
   refine BS h fun v5 a5 h => Av [2004] (Qv N p0 v3.1 p1 v5 a5) Xq rfl (qm rfl (qx rfl (qx rfl (qx rfl (qa rfl (Ac (wq rfl (qL Cc AY rfl (qm rfl (qs AY rfl (qe rfl ?_)))))))))))
   obtain rfl := sj h
   refine Ae (sm [] [(4, oD (.ptr 4 0)), (5, iD v5.2.2)] [(4, .box (Bp v3.1))] rfl rfl) (Aq ?_)
   exact ⟨⟨[_, _], ⟨.cellN _ _ _ _ _ _ _ rfl rfl Cc AY rfl rfl (Io rfl), tm⟩, rfl⟩, tv⟩
theorem Kq (N : Nat) (p0 : Int) (r : ByteArray) (h : E7 N p0 = some r) : Ar zA 119 [iD p0] [] (pD (.val (.string r))) := by
 unfold E7 at h
 refine cw (n := 14) (rs := [.tmp 2]) Tryz.func119 fun w0 S0 => ?_
 refine wq rfl (qa rfl (Ac (wq rfl ?_)))
 refine Sv [(1, .const (.string ⟨#[114, 101, 97, 100]⟩), _), (2, .const (.string ⟨#[98, 101, 103, 105, 110]⟩), _), (3, .const (.string ⟨#[100, 111, 110, 101]⟩), _), (4, .const (.string ⟨#[97, 98, 111, 114, 116]⟩), _), (5, .const (.string ⟨#[114, 101, 115, 117, 109, 101]⟩), _), (6, .const (.string ⟨#[115, 119, 105, 116, 99, 104]⟩), _), (7, .const (.string ⟨#[108, 101, 97, 115, 101]⟩), _)] (.p rfl) rfl ⟨rfl, rfl, rfl, rfl, rfl, rfl, rfl, tv⟩ UR rfl rfl Tx XI rfl ?_
 refine qz UR rfl (qs W0 rfl (Ac (AT ?_)))
 refine AM h (fun v1 => mk [(0, iD p0), (3, oD (.ptr 3 0)), (10, bD v1)] [(3, .box [.pure (.val (.string (⟨#[]⟩))), .pure (.val (.string ((⟨#[114, 101, 97, 100]⟩ : ByteArray)))), .pure (.val (.string ((⟨#[98, 101, 103, 105, 110]⟩ : ByteArray)))), .pure (.val (.string ((⟨#[100, 111, 110, 101]⟩ : ByteArray)))), .pure (.val (.string ((⟨#[97, 98, 111, 114, 116]⟩ : ByteArray)))), .pure (.val (.string ((⟨#[114, 101, 115, 117, 109, 101]⟩ : ByteArray)))), .pure (.val (.string ((⟨#[115, 119, 105, 116, 99, 104]⟩ : ByteArray)))), .pure (.val (.string ((⟨#[108, 101, 97, 115, 101]⟩ : ByteArray))))])]) (fun j1 h => ?_) (fun v1 h => ?_)
 ·refine Aj Ax rfl (qm rfl (A1 rfl (qm rfl ?_)))
  refine Ce 7 h rfl (fun h => ?_) fun h => ?_
  ·refine qw 2 rfl (qp rfl (Ac ?_))
   exact sn [] h
  ·refine qm rfl (Dt rfl (qp rfl (Ac ?_)))
   exact sn [] h
 ·refine Bg h (fun h => ?_) fun h => ?_
  ·refine wq rfl (qe rfl ?_)
   obtain rfl := sj h
   refine Ae (sm [] [(2, pD (.val (.string ((⟨#[]⟩ : ByteArray)))))] [] rfl rfl) (Aq ?_)
   exact ⟨⟨[_], tm, rfl⟩, tv⟩
  ·refine Ap (wq rfl (qm rfl (FO (Iw 3 [.val (.string (⟨#[]⟩)), .val (.string ((⟨#[114, 101, 97, 100]⟩ : ByteArray))), .val (.string ((⟨#[98, 101, 103, 105, 110]⟩ : ByteArray))), .val (.string ((⟨#[100, 111, 110, 101]⟩ : ByteArray))), .val (.string ((⟨#[97, 98, 111, 114, 116]⟩ : ByteArray))), .val (.string ((⟨#[114, 101, 115, 117, 109, 101]⟩ : ByteArray))), .val (.string ((⟨#[115, 119, 105, 116, 99, 104]⟩ : ByteArray))), .val (.string ((⟨#[108, 101, 97, 115, 101]⟩ : ByteArray)))] rfl rfl) ?_)))
   refine BU h fun v4 a4 b4 h => Sn (.p rfl) rfl rfl Tx XI rfl a4 (Ah (f := fun q : ByteArray => T.val (.string q)) b4) ?_
   refine qk Ys rfl (qe rfl ?_)
   obtain rfl := sj h
   refine Ae (sm [] [(2, pD (.val (.string v4)))] [] rfl rfl) (Aq ?_)
   exact ⟨⟨[_], tm, rfl⟩, tv⟩
theorem I7 (N : Nat) (p0 : Ab) (r : (List Int)) (h : D7 N p0 = some r) : Ar zA 120 [.e (.agg (AP p0))] [(1, r.map As)] (oD (.own 0)) := by
 unfold D7 at h
 refine cw (n := 35) (rs := [.tmp 2]) Tryz.func120 fun w0 S0 => ?_
 refine wq rfl (qb rfl (qa rfl (Ac (wp rfl (qf Cg rfl (ql A4 rfl (Ac (AU (wq rfl (AS rfl (qe rfl ?_)))))))))))
 refine Bg h (fun h => ?_) fun h => ?_
 ·refine wq rfl (qf GS rfl (ql A4 rfl (qf GT rfl (ql A4 rfl (qf Hy rfl (ql A4 rfl (F8 Cv I2 Vh rfl (qe rfl ?_))))))))
  obtain rfl := sj h
  refine Ae (sm [(1000, 13)] [(2, oD (.own 1000))] [(1000, .vec 1 ((([p0.fD, p0.fE, p0.fK] : List Int)).map As))] rfl rfl) (Aq ?_)
  exact ⟨⟨[_], tm, rfl⟩, ⟨rfl, tv⟩⟩
 ·refine wq rfl (AS rfl (qe rfl ?_))
  refine Bg h (fun h => ?_) fun h => ?_
  ·refine wq rfl (qf Hv rfl (ql A4 rfl (qf KQ rfl (ql A4 rfl (qf Ia rfl (ql A4 rfl (F8 Cv I2 Vh rfl (qe rfl ?_))))))))
   obtain rfl := sj h
   refine Ae (sm [(1000, 22)] [(2, oD (.own 1000))] [(1000, .vec 1 ((([p0.fv, p0.fr, p0.fI] : List Int)).map As))] rfl rfl) (Aq ?_)
   exact ⟨⟨[_], tm, rfl⟩, ⟨rfl, tv⟩⟩
  ·refine wq rfl (AS rfl (qe rfl ?_))
   refine Bg h (fun h => ?_) fun h => ?_
   ·refine wq rfl (qf Ky rfl (ql A4 rfl (qf Ey rfl (ql HW rfl (F8 Cv I2 Vh rfl (qe rfl ?_))))))
    obtain rfl := sj h
    refine Ae (sm [(1000, 29)] [(2, oD (.own 1000))] [(1000, .vec 1 ((([p0.fO, p0.fu] : List Int)).map As))] rfl rfl) (Aq ?_)
    exact ⟨⟨[_], tm, rfl⟩, ⟨rfl, tv⟩⟩
   ·refine Ap (wq rfl (qf Jx rfl (ql A4 rfl (qf Ey rfl (ql HW rfl (F8 Cv I2 Vh rfl (qe rfl ?_)))))))
    obtain rfl := sj h
    refine Ae (sm [(1000, 34)] [(2, oD (.own 1000))] [(1000, .vec 1 ((([p0.fm, p0.fu] : List Int)).map As))] rfl rfl) (Aq ?_)
    exact ⟨⟨[_], tm, rfl⟩, ⟨rfl, tv⟩⟩
theorem Nr (N : Nat) (p0 : Int) (p1 : Int) (p2 : List Int) (r : Ab) (h : EI N p0 p1 p2 = some r) : Ar zA 121 [iD p0, iD p1, pD (.sl (p2.map As))] [] (.e (.agg (AP r))) := by
 unfold EI at h
 refine cw (n := 59) (rs := [.cell 6 37]) Tryz.func121 fun w0 S0 => ?_
 refine wq rfl (qz Jb rfl (Ac (wq rfl (qw 2 rfl (Bx Jb RI rfl (qz Jb rfl (qs CG rfl (Ac ?_))))))))
 refine AM h (fun v1 => mk [(6, oD (.ptr 6 0)), (7, oD (.ptr 7 0))] [(6, .box [iC 0, iC 0, iC 0, iC 0, iC 0, iC 0, iC 0, iC 0, iC 0, iC 0, iC 0]), (7, .box [iC p0, iC p1, iC v1.1, iC v1.2.1, iC v1.2.2.1, iC v1.2.2.2.1, iC v1.2.2.2.2.1, iC v1.2.2.2.2.2.1, iC v1.2.2.2.2.2.2.1, iC v1.2.2.2.2.2.2.2.1, iC v1.2.2.2.2.2.2.2.2])]) (fun j1 h => ?_) (fun v1 h => ?_)
 ·refine wq rfl (qm rfl (Ac (AU (wq rfl (AS rfl (qe rfl ?_))))))
  refine Bg h (fun h => ?_) fun h => ?_
  ·refine Aj Ax rfl (qm rfl ?_)
   refine BU h fun v3 a3 b3 h => qi Cv I2 a3 (Ah b3) rfl (qk HW rfl (qm rfl ?_))
   refine BU h fun v4 a4 b4 h => qi Cv I2 a4 (Ah b4) rfl (qk HW rfl (qm rfl ?_))
   refine BU h fun v5 a5 b5 h => qi Cv I2 a5 (Ah b5) rfl (qk HW rfl (qf GS rfl (qs Db rfl (qf GT rfl (qs Db rfl (qf Hy rfl (qs Db rfl (AH (by kernel_rfl) ?_))))))))
   exact sn [] h
  ·refine wq rfl (AS rfl (qe rfl ?_))
   refine Bg h (fun h => ?_) fun h => ?_
   ·refine Aj Ax rfl (qm rfl ?_)
    refine BU h fun v7 a7 b7 h => qi Cv I2 a7 (Ah b7) rfl (qk HW rfl (qm rfl ?_))
    refine BU h fun v8 a8 b8 h => qi Cv I2 a8 (Ah b8) rfl (qk HW rfl (qm rfl ?_))
    refine BU h fun v9 a9 b9 h => qi Cv I2 a9 (Ah b9) rfl (qk HW rfl (qf Hv rfl (qs Db rfl (qf KQ rfl (qs Db rfl (qf Ia rfl (qs Db rfl (AH (by kernel_rfl) ?_))))))))
    exact sn [] h
   ·refine wq rfl (AS rfl (qe rfl ?_))
    refine Bg h (fun h => ?_) fun h => ?_
    ·refine Aj Ax rfl (qm rfl ?_)
     refine BU h fun v11 a11 b11 h => qi Cv I2 a11 (Ah b11) rfl (qk HW rfl (qm rfl ?_))
     refine BU h fun v12 a12 b12 h => qi Cv I2 a12 (Ah b12) rfl (qk HW rfl (qf Ky rfl (qs Db rfl (qf Ey rfl (qs I2 rfl (AH (by kernel_rfl) ?_))))))
     exact sn [] h
    ·refine Aj Ax rfl (qm rfl ?_)
     refine BU h fun v13 a13 b13 h => qi Cv I2 a13 (Ah b13) rfl (qk HW rfl (qm rfl ?_))
     refine BU h fun v14 a14 b14 h => qi Cv I2 a14 (Ah b14) rfl (qk HW rfl (qf Jx rfl (qs Db rfl (qf Ey rfl (qs I2 rfl (AH (by kernel_rfl) ?_))))))
     exact sn [] h
 ·refine wq rfl (qL Fe CG rfl (qs CG rfl (Ac ?_)))
  obtain rfl := sj h
  refine Ae (sm [] [(6, oD (.ptr 6 0))] [(6, .box [iC p0, iC p1, iC v1.1, iC v1.2.1, iC v1.2.2.1, iC v1.2.2.2.1, iC v1.2.2.2.2.1, iC v1.2.2.2.2.2.1, iC v1.2.2.2.2.2.2.1, iC v1.2.2.2.2.2.2.2.1, iC v1.2.2.2.2.2.2.2.2])] rfl rfl) (Aq ?_)
  exact ⟨⟨[_], ⟨.cellN _ _ _ _ _ _ _ rfl rfl Fe CG rfl rfl (Io rfl), tv⟩, rfl⟩, tv⟩
theorem GI (N : Nat) (p0 : List Int) (p1 : Int → Option Bool) (r : Int) (h : Co N p0 p1 = some r) : Ar zA 157 [pD (.sl (p0.map As)), oD (.clo (Il (LL false As) tB p1))] [] (iD r) := by
 unfold Co at h
 refine cw (n := 19) (rs := [.tmp 4]) Tryz.func157 fun w0 S0 => ?_
 refine wq rfl (qa rfl (Ac (wp rfl (qm rfl (AK Cv rfl (qm rfl (Ac ?_)))))))
 refine A0 (L := A5 N p0 p1) h (fun v1 => mk [(0, pD (.sl (p0.map As))), (1, oD (.clo (Il (LL false As) tB p1))), (7, iD ((p0.length : Int))), (8, iD v1)] []) (fun v2 => mk [] []) (fun _ _ => rfl) (sm [] _ _ rfl rfl) (fun j1 n1 v1 h => ?_) (fun v2 s h hs => ?_)
 ·unfold A5 at h
  refine wq rfl (A1 rfl (Ac (AT ?_)))
  refine Bg h (fun h => ?_) fun h => ?_
  ·refine Ap (AT (AU (wq rfl (qm rfl (qa rfl (Ac (wq rfl (qw 3 rfl ?_))))))))
   refine BU h fun v4 a4 b4 h => qi Cv I2 a4 (Ah b4) rfl (qk HW rfl ?_)
   refine BS h fun v5 a5 h => Ko (ds0 := [_]) (ar := (LL false As) v4) (.p rfl) rfl rfl ⟨rfl, tv⟩ rfl rfl rfl (KB (KV _ _ Tb) a5) ?_
   refine Ac ?_
   refine Bg h (fun h => ?_) fun h => ?_
   ·refine wq rfl (qm rfl (qe rfl ?_))
    obtain rfl := sj h
    refine Ae (sm [] [(4, iD v1)] [] rfl rfl) (Aq ?_)
    exact ⟨⟨[_], tm, rfl⟩, tv⟩
   ·refine Ap (Aj Ax rfl (Ch rfl (qm rfl (Ac ?_))))
    exact sn [] h
  ·refine BT ?_
   exact sn [] h
 ·refine Ae hs (wq rfl (qe rfl ?_))
  obtain rfl := sj h
  refine Ae (sm [] [(4, iD ((-1)))] [] rfl rfl) (Aq ?_)
  exact ⟨⟨[_], tm, rfl⟩, tv⟩
theorem Gb (N : Nat) (p0 : List Int) (p1 : Int → Option Bool) (r : Bool) (h : Bk N p0 p1 = some r) : Ar zA 122 [pD (.sl (p0.map As)), oD (.clo (Il (LL false As) tB p1))] [] (bD r) := by
 unfold Bk at h
 refine cw (n := 9) (rs := [.tmp 4]) Tryz.func122 fun w0 S0 => ?_
 refine wq rfl (qa rfl (Ac (wq rfl (qw 2 rfl ?_))))
 refine BS h fun v1 a1 h => Av [] (GI N p0 p1 v1 a1) XE rfl (Dt rfl (qe rfl ?_))
 obtain rfl := sj h
 refine Ae (sm [] [(4, bD ((decide (0 ≤ v1))))] [] rfl rfl) (Aq ?_)
 exact ⟨⟨[_], tm, rfl⟩, tv⟩
theorem LS (N : Nat) (p0 : Int) (r : Bool) (h : Ed N p0 = some r) : Ar zA 123 [iD p0] [] (bD r) := by
 unfold Ed at h
 refine cw (n := 5) (rs := [.tmp 2]) Tryz.func123 fun w0 S0 => ?_
 refine wq rfl (qa rfl (Ac (wq rfl (qm rfl (A1 rfl (qe rfl ?_))))))
 obtain rfl := sj h
 refine Ae (sm [] [(2, bD ((decide (p0 < 0))))] [] rfl rfl) (Aq ?_)
 exact ⟨⟨[_], tm, rfl⟩, tv⟩
theorem Nb (N : Nat) (p0 : Ab) (r : Bool) (h : Ft N p0 = some r) : Ar zA 86 [.e (.agg (AP p0))] [] (bD r) := by
 unfold Ft at h
 refine cw (n := 28) (rs := [.tmp 2]) Tryz.func86 fun w0 S0 => ?_
 refine wq rfl (qb rfl (qa rfl (Ac (AT ?_))))
 refine AM h (fun v1 => mk [(1, oD (.ptr 1 0)), (12, bD v1)] [(1, .box (AP p0))]) (fun j1 h => ?_) (fun v1 h => ?_)
 ·refine Aj Ax rfl (qf Cg rfl (ql A4 rfl ?_))
  refine BS h fun v2 a2 h => Av [] (Kq N p0.fa v2 a2) U2 rfl ?_
  refine EP (.p rfl) rfl rfl (MW _ _ _ _) rfl ?_
  refine qm rfl ?_
  refine Ce 8 h rfl (fun h => ?_) fun h => ?_
  ·refine qw 3 rfl (qp rfl (Ac ?_))
   exact sn [] h
  ·refine qf Hs rfl (ql HW rfl (A1 rfl (qp rfl (Ac ?_))))
   exact sn [] h
 ·refine Bg h (fun h => ?_) fun h => ?_
  ·refine wq rfl (qe rfl ?_)
   obtain rfl := sj h
   refine Ae (sm [] [(2, bD false)] [] rfl rfl) (Aq ?_)
   exact ⟨⟨[_], tm, rfl⟩, tv⟩
  ·refine Ap (wq rfl (qL Fe CG rfl ?_))
   refine BS h fun v5 a5 h => Av [2001] (I7 N p0 v5 a5) Vj rfl (qe rfl ?_)
   refine AM h (fun v6 => mk [(2, bD v6)] []) (fun j6 h => ?_) (fun v6 h => ?_)
   ·refine Aj Ax rfl (qL Fe CG rfl (qf Hs rfl (ql HW rfl (qf Cg rfl (ql A4 rfl (qm rfl ?_))))))
    refine BS h fun v7 a7 h => Gj [] [2001] (Nr N p0.fi p0.fa v5 v7 a7) W8 EC rfl ?_
    refine U8 [.int .i64 p0.fi, .int .i64 p0.fa, .int .i64 p0.fD, .int .i64 p0.fE, .int .i64 p0.fK, .int .i64 p0.fm, .int .i64 p0.fu, .int .i64 p0.fI, .int .i64 p0.fv, .int .i64 p0.fr, .int .i64 p0.fO] [.int .i64 v7.fi, .int .i64 v7.fa, .int .i64 v7.fD, .int .i64 v7.fE, .int .i64 v7.fK, .int .i64 v7.fm, .int .i64 v7.fu, .int .i64 v7.fI, .int .i64 v7.fv, .int .i64 v7.fr, .int .i64 v7.fO] (.p rfl) rfl rfl Vd rfl ?_
    refine qm rfl ?_
    refine Ce 23 h rfl (fun h => ?_) fun h => ?_
    ·refine qm rfl ?_
     refine BS h fun v9 a9 h => Gj [] [2001] (Ar.weak (ds' := [pD (.sl (v5.map As)), oD (.fnc 123)]) (Gb N v5 ((fun (x : Int) => Ed N x)) v9 a9) ⟨(fun _ _ _ hh => hh), (fun _ _ _ hh => N7 W5 (fun ar t ht => by obtain ⟨x, r, rfl, hq, rfl⟩ := ID ht; exact LS N x r hq) hh), tv⟩) Wp EC rfl ?_
     refine Cl rfl (qp rfl (qa rfl (AH (by kernel_rfl) ?_)))
     exact sn [] h
    ·refine qw 3 rfl (qp rfl (qa rfl (AH (by kernel_rfl) ?_)))
     exact sn [] h
   ·obtain rfl := sj h
    refine Ae (sm [] [(2, bD v6)] [] rfl rfl) (Aq ?_)
    exact ⟨⟨[_], tm, rfl⟩, tv⟩
theorem E2 (N : Nat) (p0 : List Ab) (r : Int) (h : CQ N p0 = some r) : Ar zA 43 [pD (.sl (p0.map Aw))] [] (iD r) := by
 unfold CQ at h
 refine cw (n := 34) (rs := [.tmp 2]) Tryz.func43 fun w0 S0 => ?_
 refine wq rfl (qa rfl (Ac (wp rfl (qm rfl (AK DB rfl (Eu rfl (Ac ?_)))))))
 refine Bg h (fun h => ?_) fun h => ?_
 ·refine wq rfl (qe rfl ?_)
  obtain rfl := sj h
  refine Ae (sm [] [(2, iD 3)] [] rfl rfl) (Aq ?_)
  exact ⟨⟨[_], tm, rfl⟩, tv⟩
 ·refine Ap (wp rfl (qm rfl (AK DB rfl (qm rfl (Ac ?_)))))
  refine A0 (L := D2 N p0) h (fun v2 => mk [(0, pD (.sl (p0.map Aw))), (8, pD (.sl (p0.map Aw))), (9, iD ((p0.length : Int))), (10, iD v2)] []) (fun v3 => mk [] []) (fun _ _ => rfl) (sm [] _ _ rfl rfl) (fun j2 n2 v2 h => ?_) (fun v3 s h hs => ?_)
  ·unfold D2 at h
   refine wq rfl (A1 rfl (Ac (AT ?_)))
   refine Bg h (fun h => ?_) fun h => ?_
   ·refine Ap (AT (AU (wq rfl (qm rfl ?_))))
    refine BU h fun v5 a5 b5 h => qi DB CG a5 (Ah b5) rfl (qK Fe CG rfl (qz Jb rfl (qa rfl (qs CG rfl (Ac ?_)))))
    refine AM h (fun v6 => mk [(0, pD (.sl (p0.map Aw))), (8, pD (.sl (p0.map Aw))), (9, iD ((p0.length : Int))), (10, iD v2), (32, bD v6)] []) (fun j6 h => ?_) (fun v6 h => ?_)
    ·refine Aj Ax rfl (qL Fe CG rfl ?_)
     refine BS h fun v7 a7 h => Av [] (Nb N v5 v7 a7) Yj rfl (Cl rfl (qm rfl ?_))
     refine Ce 18 h rfl (fun h => ?_) fun h => ?_
     ·refine qw 3 rfl (qu rfl (qu rfl (qu rfl (qu rfl (qu rfl (qu rfl (qu rfl (qu rfl (qu rfl (qn rfl (qp rfl (AH (by kernel_rfl) ?_))))))))))))
      exact sn [] h
     ·refine qm rfl (Eu rfl (qm rfl ?_))
      refine Ce 21 h rfl (fun h => ?_) fun h => ?_
      ·refine qf Hs rfl (ql HW rfl (qw 2 rfl (Lo rfl ?_)))
       refine BU h fun v10 a10 b10 h => qi DB CG a10 (Ah b10) rfl (qg Hs rfl (qk HW rfl (A1 rfl (qp rfl (qp rfl (AH (by kernel_rfl) ?_))))))
       exact sn [] h
      ·refine qw 9 rfl (qp rfl (qp rfl (AH (by kernel_rfl) ?_)))
       exact sn [] h
    ·refine Bg h (fun h => ?_) fun h => ?_
     ·refine wq rfl (qe rfl ?_)
      obtain rfl := sj h
      refine Ae (sm [] [(2, iD 1)] [] rfl rfl) (Aq ?_)
      exact ⟨⟨[_], tm, rfl⟩, tv⟩
     ·refine Ap (Aj Ax rfl (Ch rfl (qm rfl (Ac ?_))))
      exact sn [] h
   ·refine BT ?_
    exact sn [] h
  ·refine Ae hs (wq rfl (qe rfl ?_))
   obtain rfl := sj h
   refine Ae (sm [] [(2, iD 0)] [] rfl rfl) (Aq ?_)
   exact ⟨⟨[_], tm, rfl⟩, tv⟩
theorem H1 (N : Nat) (r : AB) (h : DL N = some r) : CO zA 64 [] [] [.box [iC r.fy, iC r.fA, .pure (.val (.bool r.fB)), .mref 1], .mp (CX (Value.int .i64) El r.fG)] (oD (.ptr 0 0)) := by
 unfold DL at h
 refine Cr (n := 4) (rs := [.tmp 0]) Tryz.func64 rfl rfl rfl (Ge rfl) (Ge rfl) rfl rfl (Ge rfl) rfl (Ge rfl) fun w0 S0 GL => ?_
 refine Ae (sm [] [] [] rfl rfl) (wq rfl (qa rfl (Ac (wq rfl ?_))))
 refine R5 (.p rfl) rfl ?_
 refine Bx W4 Xv rfl (qb rfl (qe rfl ?_))
 obtain rfl := sj h
 refine Ae (sm [(1000, 3), (1001, 1)] [(0, oD (.ptr 1000 0))] [(1000, .box [iC 0, iC 0, .pure (.val (.bool false)), .mref 1001]), (1001, .mp (CX (Value.int .i64) El (([] : List (Int × Int)))))] rfl rfl) (Aq ?_)
 exact ⟨⟨[_], tm, rfl⟩, tv, ⟨rfl, rfl, tv⟩⟩
theorem KX (N : Nat) (p0 : Aa) (p1 : Ab) (r : Bool) (h : DN N p0 p1 = some r) : Ar zA 62 [.e (.agg (Al p0)), .e (.agg (AP p1))] [] (bD r) := by
 unfold DN at h
 refine cw (n := 47) (rs := [.tmp 4]) Tryz.func62 fun w0 S0 => ?_
 refine wq rfl (qb rfl (qb rfl (qa rfl (Ac (wp rfl (qf GS rfl (ql A4 rfl (qf BN rfl (ql Fl rfl (AK De rfl (Dt rfl (Ac ?_))))))))))))
 refine Bg h (fun h => ?_) fun h => ?_
 ·refine wq rfl (qe rfl ?_)
  obtain rfl := sj h
  refine Ae (sm [] [(4, bD false)] [] rfl rfl) (Aq ?_)
  exact ⟨⟨[_], tm, rfl⟩, tv⟩
 ·refine Ap (wq rfl (qf BN rfl (ql Fl rfl (qf GS rfl (ql A4 rfl ?_)))))
  refine BU h fun v2 a2 b2 h => qi De B1 a2 (Ah b2) rfl (qK Fj B1 rfl (qz J0 rfl (qs B1 rfl (Ac ?_))))
  refine AM h (fun v3 => mk [(4, bD v3)] []) (fun j3 h => ?_) (fun v3 h => ?_)
  ·refine Aj Ax rfl (qf GT rfl (ql A4 rfl (qf G8 rfl (ql FB rfl (AK Eg rfl (A1 rfl (qm rfl ?_)))))))
   refine Ce 24 h rfl (fun h => ?_) fun h => ?_
   ·refine qf Hy rfl (ql A4 rfl (qf BG rfl (ql Bm rfl (qf Hb rfl (ql A4 rfl ?_)))))
    refine BU h fun v5 a5 b5 h => qi AG Db a5 (Ah b5) rfl (qk A4 rfl (A1 rfl (qp rfl (qm rfl ?_))))
    refine Ce 35 h rfl (fun h => ?_) fun h => ?_
    ·refine qf G8 rfl (ql FB rfl (qf GT rfl (ql A4 rfl ?_)))
     refine BU h fun v7 a7 b7 h => qi Eg J1 a7 (Ah b7) rfl (qk J4 rfl (qf Hy rfl (ql A4 rfl ?_)))
     refine BU h fun v8 a8 b8 h => qi Ih Sa a8 (Ah b8) rfl (qk Rk rfl (qp rfl (qa rfl (AH (by kernel_rfl) ?_))))
     exact sn [] h
    ·refine qw 10 rfl (qp rfl (qa rfl (AH (by kernel_rfl) ?_)))
     exact sn [] h
   ·refine qw 9 rfl (qp rfl (qw 11 rfl (qp rfl (qa rfl (AH (by kernel_rfl) ?_)))))
    exact sn [] h
  ·obtain rfl := sj h
   refine Ae (sm [] [(4, bD v3)] [] rfl rfl) (Aq ?_)
   exact ⟨⟨[_], tm, rfl⟩, tv⟩
theorem GA (N : Nat) (p0 : Ab) (r : Bool) (h : Do N p0 = some r) : Ar zA 80 [.e (.agg (AP p0))] [] (bD r) := by
 unfold Do at h
 refine cw (n := 11) (rs := [.tmp 2]) Tryz.func80 fun w0 S0 => ?_
 refine wq rfl (qb rfl (qe rfl ?_))
 refine AM h (fun v1 => mk [(2, bD v1)] []) (fun j1 h => ?_) (fun v1 h => ?_)
 ·refine Aj Ax rfl (qf Cg rfl (ql A4 rfl (Dt rfl (qm rfl ?_))))
  refine Ce 6 h rfl (fun h => ?_) fun h => ?_
  ·refine qf Cg rfl (ql A4 rfl (HI rfl (qp rfl (qe rfl ?_))))
   exact sn [] h
  ·refine qw 3 rfl (qp rfl (qe rfl ?_))
   exact sn [] h
 ·obtain rfl := sj h
  refine Ae (sm [] [(2, bD v1)] [] rfl rfl) (Aq ?_)
  exact ⟨⟨[_], tm, rfl⟩, tv⟩
theorem Gl (N : Nat) (p0 : Ai) (p1 : Ab) (r : Bool) (h : BJ N p0 p1 = some r) : CO zA 81 [oD (.ptr 90000 0), .e (.agg (AP p1))] [(.box (AA p0), .box (AA p0))] [] (bD r) := by
 unfold BJ at h
 refine Cr (n := 66) (rs := [.tmp 4]) Tryz.func81 rfl rfl rfl (Ge rfl) (Ge rfl) rfl rfl (Ge rfl) rfl (Ge rfl) fun w0 S0 GL => ?_
 refine Ae (sm [] [(0, oD (.ptr 90000 0)), (1, .e (.agg (AP p1)))] [(90000, .box (AA p0))] rfl rfl) (wq rfl (qb rfl (qa rfl (Ac (AT ?_)))))
 refine AM h (fun v1 => mk [(0, oD (.ptr 90000 0)), (3, oD (.ptr 3 0)), (23, bD v1)] [(3, .box (AP p1)), (90000, .box (AA p0))]) (fun j1 h => ?_) (fun v1 h => ?_)
 ·refine Aj Ax rfl (qf Jx rfl (ql A4 rfl (qm rfl (Iz rfl (qf JE rfl (ql A4 rfl (Bb rfl (qm rfl ?_))))))))
  refine Ce 12 h rfl (fun h => ?_) fun h => ?_
  ·refine qw 10 rfl (qp rfl (AH (by kernel_rfl) ?_))
   exact sn [] h
  ·refine qm rfl (Iz rfl (qf JE rfl (ql A4 rfl (qm rfl (Iz rfl (qf N8 rfl (ql PW rfl (AK G6 rfl (Dt rfl (qp rfl (AH (by kernel_rfl) ?_)))))))))))
   exact sn [] h
 ·refine Bg h (fun h => ?_) fun h => ?_
  ·refine wq rfl (qe rfl ?_)
   obtain rfl := sj h
   refine Ae (sm [] [(4, bD false)] [(90000, .box (AA p0))] rfl rfl) (Aq ?_)
   exact ⟨⟨[_], tm, rfl⟩, ⟨rfl, tv⟩, tv⟩
  ·refine Ap (wp rfl (qf Cg rfl (ql A4 rfl (Ac (AU (wq rfl (AS rfl (qe rfl ?_))))))))
   refine Bg h (fun h => ?_) fun h => ?_
   ·refine wq rfl (qm rfl (Iz rfl (qf H5 rfl (ql A4 rfl (AS rfl (qe rfl ?_))))))
    obtain rfl := sj h
    refine Ae (sm [] [(4, bD ((p0.fC == 0)))] [(90000, .box (AA p0))] rfl rfl) (Aq ?_)
    exact ⟨⟨[_], tm, rfl⟩, ⟨rfl, tv⟩, tv⟩
   ·refine wq rfl (AS rfl (qe rfl ?_))
    refine Bg h (fun h => ?_) fun h => ?_
    ·refine wq rfl (qm rfl (Iz rfl (qf H5 rfl (ql A4 rfl (AS rfl (qe rfl ?_))))))
     obtain rfl := sj h
     refine Ae (sm [] [(4, bD ((p0.fC == 1)))] [(90000, .box (AA p0))] rfl rfl) (Aq ?_)
     exact ⟨⟨[_], tm, rfl⟩, ⟨rfl, tv⟩, tv⟩
    ·refine wq rfl (AS rfl (qe rfl ?_))
     refine Bg h (fun h => ?_) fun h => ?_
     ·refine AM h (fun v7 => mk [(4, bD v7)] [(90000, .box (AA p0))]) (fun j7 h => ?_) (fun v7 h => ?_)
      ·refine Aj Ax rfl (qm rfl (Iz rfl (qf H5 rfl (ql A4 rfl (AS rfl (qm rfl ?_))))))
       refine Ce 47 h rfl (fun h => ?_) fun h => ?_
       ·refine qm rfl (Iz rfl (qf N8 rfl (ql PW rfl (qm rfl (Iz rfl (qf JE rfl (ql A4 rfl ?_)))))))
        refine BU h fun v9 a9 b9 h => qi G6 Gr a9 (Ah b9) rfl (qg Dh rfl (qk A4 rfl (AS rfl (qp rfl (qa rfl (AH (by kernel_rfl) ?_))))))
        exact sn [] h
       ·refine qw 12 rfl (qp rfl (qa rfl (AH (by kernel_rfl) ?_)))
        exact sn [] h
      ·obtain rfl := sj h
       refine Ae (sm [] [(4, bD v7)] [(90000, .box (AA p0))] rfl rfl) (Aq ?_)
       exact ⟨⟨[_], tm, rfl⟩, ⟨rfl, tv⟩, tv⟩
     ·refine Ap (wq rfl (qm rfl (Iz rfl (qf H5 rfl (ql A4 rfl (AS rfl (qe rfl ?_)))))))
      obtain rfl := sj h
      refine Ae (sm [] [(4, bD ((p0.fC == 2)))] [(90000, .box (AA p0))] rfl rfl) (Aq ?_)
      exact ⟨⟨[_], tm, rfl⟩, ⟨rfl, tv⟩, tv⟩
theorem Hd (N : Nat) (p0 : AB) (p1 : Ab) (r : Bool × AB × (List (Int × Int))) (h : CH N p0 p1 = some r) : CO zA 66 [oD (.ptr 90000 0), .e (.agg (AP p1))] [(.box [iC p0.fy, iC p0.fA, .pure (.val (.bool p0.fB)), .mref 90001], .box [iC r.2.1.fy, iC r.2.1.fA, .pure (.val (.bool r.2.1.fB)), .mref 90001]), (.mp (CX (Value.int .i64) El p0.fG), .mp (CX (Value.int .i64) El r.2.2))] [] (bD r.1) := by
 unfold CH at h
 refine Cr (n := 67) (rs := [.tmp 4]) Tryz.func66 rfl rfl rfl (Ge rfl) (Ge rfl) rfl rfl (Ge rfl) rfl (Ge rfl) fun w0 S0 GL => ?_
 refine Ae (sm [] [(0, oD (.ptr 90000 0)), (1, .e (.agg (AP p1)))] [(90000, .box [iC p0.fy, iC p0.fA, .pure (.val (.bool p0.fB)), .mref 90001]), (90001, .mp (CX (Value.int .i64) El p0.fG))] rfl rfl) (wq rfl (qb rfl (qe rfl ?_)))
 refine AM h (fun v1 => mk [] [(90000, .box [iC v1.2.1, iC v1.2.2.1, .pure (.val (.bool v1.2.2.2)), .mref 90001]), (90001, .mp (CX (Value.int .i64) El v1.1))]) (fun j1 h => ?_) (fun v1 h => ?_)
 ·refine AU (wq rfl (qL Fe CG rfl ?_))
  refine BS h fun v2 a2 h => Av [] (GA N p1 v2 a2) TN rfl (qe rfl ?_)
  refine Bg h (fun h => ?_) fun h => ?_
  ·refine wp rfl (qf Ey rfl (ql HW rfl (qm rfl (Iz rfl (qf Pe rfl (ql HW rfl (A1 rfl (AH (by kernel_rfl) ?_))))))))
   refine Bg h (fun h => ?_) fun h => ?_
   ·refine wq rfl (qe rfl ?_)
    obtain rfl := sj h
    refine Ae (sm [] [(4, bD false)] [(90000, .box [iC p0.fy, iC p0.fA, .pure (.val (.bool p0.fB)), .mref 90001]), (90001, .mp (CX (Value.int .i64) El p0.fG))] rfl rfl) (Aq ?_)
    exact ⟨⟨[_], tm, rfl⟩, ⟨rfl, rfl, tv⟩, tv⟩
   ·refine Ap (Aj Ax rfl (qm rfl (qf Ey rfl (ql HW rfl (Iz rfl (qf Pe rfl (qs I2 rfl (Ac ?_))))))))
    exact sn [] h
  ·refine wq rfl (qf Cg rfl (ql A4 rfl (AS rfl (qe rfl ?_))))
   refine Bg h (fun h => ?_) fun h => ?_
   ·refine wp rfl (qf Ia rfl (ql A4 rfl (qm rfl (Iz rfl (qf P3 rfl (ql UN rfl (qf Hv rfl (ql A4 rfl ?_))))))))
    refine Sz (kv := (Value.int .i64)) (vt := El) (m := p0.fG) (dv := 0) (.p rfl) rfl rfl rfl (NX QA WD) (by rw [QA]; rfl) Pa rfl rfl rfl ?_
    refine A1 rfl (AH (by kernel_rfl) ?_)
    refine Bg h (fun h => ?_) fun h => ?_
    ·refine wq rfl (qe rfl ?_)
     obtain rfl := sj h
     refine Ae (sm [] [(4, bD false)] [(90000, .box [iC p0.fy, iC p0.fA, .pure (.val (.bool p0.fB)), .mref 90001]), (90001, .mp (CX (Value.int .i64) El p0.fG))] rfl rfl) (Aq ?_)
     exact ⟨⟨[_], tm, rfl⟩, ⟨rfl, rfl, tv⟩, tv⟩
    ·refine Ap (Aj Ax rfl (qm rfl (Iz rfl (qf P3 rfl (ql UN rfl (qf Hv rfl (ql A4 rfl (qf Ia rfl (ql A4 rfl ?_)))))))))
     refine SG (kv := (Value.int .i64)) (vt := El) (m := p0.fG) (k := p1.fv) (v := p1.fI) rfl (.inl rfl) rfl rfl rfl rfl (NX QA WD) rfl ?_
     refine AH (by kernel_rfl) ?_
     exact sn [] h
   ·refine wq rfl (qf Cg rfl (ql A4 rfl (AS rfl (qe rfl ?_))))
    refine Bg h (fun h => ?_) fun h => ?_
    ·refine AT ?_
     refine AM h (fun v8 => mk [(0, oD (.ptr 90000 0)), (3, oD (.ptr 3 0)), (58, bD v8)] [(3, .box (AP p1)), (90000, .box [iC p0.fy, iC p0.fA, .pure (.val (.bool p0.fB)), .mref 90001]), (90001, .mp (CX (Value.int .i64) El p0.fG))]) (fun j8 h => ?_) (fun v8 h => ?_)
     ·refine Aj Ax rfl (qm rfl (Iz rfl (qf P0 rfl (ql Rk rfl (qm rfl ?_)))))
      refine Ce 50 h rfl (fun h => ?_) fun h => ?_
      ·refine qf Ey rfl (ql HW rfl (qm rfl (Iz rfl (qf PT rfl (ql HW rfl (HI rfl (qp rfl (AH (by kernel_rfl) ?_))))))))
       exact sn [] h
      ·refine qw 7 rfl (qp rfl (AH (by kernel_rfl) ?_))
       exact sn [] h
     ·refine Bg h (fun h => ?_) fun h => ?_
      ·refine wq rfl (qe rfl ?_)
       obtain rfl := sj h
       refine Ae (sm [] [(4, bD false)] [(90000, .box [iC p0.fy, iC p0.fA, .pure (.val (.bool p0.fB)), .mref 90001]), (90001, .mp (CX (Value.int .i64) El p0.fG))] rfl rfl) (Aq ?_)
       exact ⟨⟨[_], tm, rfl⟩, ⟨rfl, rfl, tv⟩, tv⟩
      ·refine Ap (Aj Ax rfl (qw 2 rfl (qf Ey rfl (ql HW rfl (Iz rfl (qf PT rfl (qs I2 rfl (Iz rfl (qf P0 rfl (qs Sa rfl (Ac ?_)))))))))))
       exact sn [] h
    ·refine Ap ?_
     exact sn [] h
 ·refine wq rfl (qe rfl ?_)
  obtain rfl := sj h
  refine Ae (sm [] [(4, bD true)] [(90000, .box [iC v1.2.1, iC v1.2.2.1, .pure (.val (.bool v1.2.2.2)), .mref 90001]), (90001, .mp (CX (Value.int .i64) El v1.1))] rfl rfl) (Aq ?_)
  exact ⟨⟨[_], tm, rfl⟩, ⟨rfl, rfl, tv⟩, tv⟩
theorem M9 (N : Nat) (p0 : List Int) (p1 : Int) (r : Int) (h : EM N p0 p1 = some r) : Ar zA 114 [pD (.sl (p0.map As)), iD p1] [] (iD r) := by
 unfold EM at h
 refine cw (n := 22) (rs := [.tmp 4]) Tryz.func114 fun w0 S0 => ?_
 refine wq rfl (qa rfl (Ac (wp rfl (qm rfl (AK AG rfl (qm rfl (Ac ?_)))))))
 refine A0 (L := D4 N p0) h (fun v1 => mk [(1, iD v1.1), (7, pD (.sl (p0.map As))), (8, iD ((p0.length : Int))), (9, iD v1.2)] []) (fun v2 => mk [] []) (fun _ _ => rfl) (sm [] _ _ rfl rfl) (fun j1 n1 v1 h => ?_) (fun v2 s h hs => ?_)
 ·unfold D4 at h
  refine wq rfl (A1 rfl (Ac (AT ?_)))
  refine Bg h (fun h => ?_) fun h => ?_
  ·refine Ap (AT (AU (wq rfl (qm rfl ?_))))
   refine BU h fun v4 a4 b4 h => qi AG Db a4 (Ah b4) rfl (qk A4 rfl (qa rfl (qa rfl (Ac (wp rfl (qw 2 rfl (A1 rfl (Ac ?_))))))))
   refine Bg h (fun h => ?_) fun h => ?_
   ·refine wq rfl (qm rfl (qe rfl ?_))
    obtain rfl := sj h
    refine Ae (sm [] [(4, iD v1.2)] [] rfl rfl) (Aq ?_)
    exact ⟨⟨[_], tm, rfl⟩, tv⟩
   ·refine Ap (Aj Ax rfl (qw 2 rfl (Lo rfl (qa rfl (Ac (Aj Ax rfl (Ch rfl (qm rfl (Ac ?_)))))))))
    exact sn [] h
  ·refine BT ?_
   exact sn [] h
 ·refine Ae hs (wq rfl (qe rfl ?_))
  obtain rfl := sj h
  refine Ae (sm [] [(4, iD ((-1)))] [] rfl rfl) (Aq ?_)
  exact ⟨⟨[_], tm, rfl⟩, tv⟩
theorem Hk (N : Nat) (p0 : Af) (p1 : Int) (p2 : Int) (r : Bool) (h : Cw N p0 p1 p2 = some r) : Ar zA 115 [.e (.agg (Bp p0)), iD p1, iD p2] [] (bD r) := by
 unfold Cw at h
 refine cw (n := 23) (rs := [.tmp 6]) Tryz.func115 fun w0 S0 => ?_
 refine wq rfl (qb rfl (qe rfl ?_))
 refine AM h (fun v1 => mk [(6, bD v1)] []) (fun j1 h => ?_) (fun v1 h => ?_)
 ·refine Aj Ax rfl (qf Dy rfl (ql Bm rfl (qm rfl ?_)))
  refine BU h fun v2 a2 b2 h => qi AG Db a2 (Ah b2) rfl (qk A4 rfl (qm rfl (AS rfl (qm rfl ?_))))
  refine Ce 14 h rfl (fun h => ?_) fun h => ?_
  ·refine qw 7 rfl (qp rfl (qe rfl ?_))
   exact sn [] h
  ·refine qf B4 rfl (ql Bm rfl (qm rfl ?_))
   refine BU h fun v4 a4 b4 h => qi AG Db a4 (Ah b4) rfl (qk A4 rfl (qm rfl (AS rfl (qp rfl (qe rfl ?_)))))
   exact sn [] h
 ·obtain rfl := sj h
  refine Ae (sm [] [(6, bD v1)] [] rfl rfl) (Aq ?_)
  exact ⟨⟨[_], tm, rfl⟩, tv⟩
theorem LM (N : Nat) (p0 : Aa) (p1 : Af) (p2 : Ab) (r : Bool) (h : Eb N p0 p1 p2 = some r) : Ar zA 116 [.e (.agg (Al p0)), .e (.agg (Bp p1)), .e (.agg (AP p2))] [] (bD r) := by
 unfold Eb at h
 refine cw (n := 46) (rs := [.tmp 6]) Tryz.func116 fun w0 S0 => ?_
 refine wq rfl (qb rfl (qb rfl (qb rfl (qa rfl (Ac (wq rfl (qf BN rfl (ql Fl rfl (qf GS rfl (ql A4 rfl ?_))))))))))
 refine BU h fun v1 a1 b1 h => qi De B1 a1 (Ah b1) rfl (qK Fj B1 rfl (qz J0 rfl (qs B1 rfl (Ac (wp rfl (qL Cc AY rfl (qf Hb rfl (ql A4 rfl (qf Hy rfl (ql A4 rfl ?_))))))))))
 refine BS h fun v2 a2 h => Av [] (Hk N p1 v1.fF p2.fK v2 a2) ST rfl (Cl rfl (Ac ?_))
 refine Bg h (fun h => ?_) fun h => ?_
 ·refine wq rfl (qe rfl ?_)
  obtain rfl := sj h
  refine Ae (sm [] [(6, bD false)] [] rfl rfl) (Aq ?_)
  exact ⟨⟨[_], tm, rfl⟩, tv⟩
 ·refine Ap (AT ?_)
  refine AM h (fun v4 => mk [(4, oD (.ptr 4 0)), (5, oD (.ptr 5 0)), (7, oD (.ptr 7 0)), (28, bD v4)] [(4, .box (Bp p1)), (5, .box (AP p2)), (7, .box (CV v1))]) (fun j4 h => ?_) (fun v4 h => ?_)
  ·refine Aj Ax rfl (qf Ef rfl (ql A4 rfl (AS rfl (qm rfl ?_))))
   refine Ce 24 h rfl (fun h => ?_) fun h => ?_
   ·refine qw 3 rfl (qp rfl (Ac ?_))
    exact sn [] h
   ·refine qf Ef rfl (ql A4 rfl (AS rfl (qp rfl (Ac ?_))))
    exact sn [] h
  ·refine Bg h (fun h => ?_) fun h => ?_
   ·refine wq rfl (qf C8 rfl (ql HJ rfl (qf GS rfl (ql A4 rfl ?_))))
    refine BU h fun v7 a7 b7 h => qi Ea Ek a7 (Ah b7) rfl (qk H8 rfl (qf GT rfl (ql A4 rfl ?_)))
    refine Iq h fun c8 h => LC rfl c8 (NW rfl (AS rfl (qa rfl (AH (by kernel_rfl) ?_))))
    obtain rfl := sj h
    refine Ae (sm [] [(6, bD (((FW .u8 ((Ga .u8 v7 p2.fE)) 1) == 1)))] [] rfl rfl) (Aq ?_)
    exact ⟨⟨[_], tm, rfl⟩, tv⟩
   ·refine Ap (wq rfl (qL Cc AY rfl (qf Cq rfl (ql A4 rfl (qf GT rfl (ql A4 rfl ?_))))))
    refine BS h fun v9 a9 h => Av [] (Hk N p1 v1.fk p2.fE v9 a9) ST rfl (qe rfl ?_)
    obtain rfl := sj h
    refine Ae (sm [] [(6, bD v9)] [] rfl rfl) (Aq ?_)
    exact ⟨⟨[_], tm, rfl⟩, tv⟩
theorem Oq (N : Nat) (p0 : Aa) (p1 : Af) (p2 : Ao) (r : Af × Int) (h : FN N p0 p1 p2 = some r) : Ar zA 155 [.e (.agg (Al p0)), .e (.agg (Bp p1)), .e (.agg (BY p2))] [(1, r.1.fh.map As), (1, r.1.ff.map As), (1, r.1.fg.map DO)] (.tup [.agg [.own 0, .own 1, .own 2], .one (iC r.2)]) := by
 unfold FN at h
 refine cw (n := 22) (rs := [.cell 6 40, .tmp 7]) Tryz.func155 fun w0 S0 => ?_
 refine wq rfl (qb rfl (qb rfl (qb rfl (qz DI rfl (qa rfl (Ac (wp rfl (qL Dg Da rfl (qL Cc AY rfl ?_)))))))))
 refine BS h fun v1 a1 h => Av [] (Lu N p0 p1 v1 a1) U5 rfl (qa rfl (Ac (wq rfl (qm rfl (Bb rfl (Ac ?_))))))
 refine Bg h (fun h => ?_) fun h => ?_
 ·refine wq rfl (Bx DI HB rfl (qm rfl (qs AY rfl (qe rfl ?_))))
  obtain rfl := sj h
  refine Ae ((Az 6 0 2001 1 _ rfl rfl rfl rfl).trans ((Az 6 1 2002 1 _ rfl rfl rfl rfl).trans ((Az 6 2 2003 1 _ rfl rfl rfl rfl).trans (sm [(1000, 2001), (1001, 2002), (1002, 2003)] [(6, oD (.ptr 6 0)), (7, iD v1)] [(6, .box [.own 1000, .own 1001, .own 1002]), (1000, .vec 1 ((([] : List Int)).map As)), (1001, .vec 1 ((([] : List Int)).map As)), (1002, .vec 1 ((([] : List Int)).map DO))] rfl rfl)))) (Aq ?_)
  exact ⟨⟨[_, _], ⟨.cellN _ _ _ _ _ _ _ rfl rfl Cc AY rfl rfl (Io rfl), tm⟩, rfl⟩, ⟨rfl, rfl, rfl, tv⟩⟩
 ·refine Ap (wq rfl (qL Dg Da rfl (qL Cc AY rfl (qL I1 Gr rfl ?_))))
  refine BS h fun v3 a3 h => Av [2004, 2005, 2006] (Kx N p0 p1 p2 v3 a3) U0 rfl (qx rfl (qx rfl (qs AY rfl (qe rfl ?_))))
  obtain rfl := sj h
  refine Ae (sm [(1000, 2004), (1001, 2005), (1002, 2006)] [(6, oD (.ptr 6 0)), (7, iD v3.2)] [(6, .box [.own 1000, .own 1001, .own 1002]), (1000, .vec 1 (v3.1.fh.map As)), (1001, .vec 1 (v3.1.ff.map As)), (1002, .vec 1 (v3.1.fg.map DO))] rfl rfl) (Aq ?_)
  exact ⟨⟨[_, _], ⟨.cellN _ _ _ _ _ _ _ rfl rfl Cc AY rfl rfl (Io rfl), tm⟩, rfl⟩, ⟨rfl, rfl, rfl, tv⟩⟩
theorem E9 (N : Nat) (p0 : Ai) (p1 : Ao) (r : Ai) (h : Ca N p0 p1 = some r) : CO zA 117 [oD (.ptr 90000 0), .e (.agg (BY p1))] [(.box (AA p0), .box (AA r))] [] (.tup []) := by
 unfold Ca at h
 refine Cr (n := 25) (rs := []) Tryz.func117 rfl rfl rfl (Ge rfl) (Ge rfl) rfl rfl (Ge rfl) rfl (Ge rfl) fun w0 S0 GL => Ve ?_
 refine Ae (sm [] [(0, oD (.ptr 90000 0)), (1, .e (.agg (BY p1)))] [(90000, .box (AA p0))] rfl rfl) (wq rfl (qb rfl (Ac (wq rfl (qm rfl (Iz rfl (qf OD rfl (qL Dg Da rfl (qm rfl (Iz rfl (qf Kv rfl (qL Cc AY rfl (qL I1 Gr rfl ?_)))))))))))))
 refine BS h fun v1 a1 h => Av [2001, 2002, 2003] (Oq N ((Aa.mk p0.fb.fc p0.fb.fj p0.fb.fq p0.fb.fd)) ((Af.mk p0.fe.fh p0.fe.ff p0.fe.fg)) p1 v1 a1) W7 rfl (qm rfl (qx rfl (qx rfl (qz DI rfl (qs AY rfl (qa rfl (AH (by kernel_rfl) (wq rfl (qm rfl (AS rfl (Ac ?_)))))))))))
 refine Bg h (fun h => ?_) fun h => ?_
 ·refine Aj Ax rfl (qm rfl (qL Cc AY rfl (Iz rfl (qf Kv rfl (qs AY rfl (Ac ?_))))))
  obtain rfl := sj h
  refine ⟨_, ((Bn 2001 _ _ rfl rfl).trans ((Bn 2002 _ _ rfl rfl).trans ((Bn 2003 _ _ rfl rfl).trans (sm [] [] [(90000, .box [sC (p0.fb.fc.map As), sC (p0.fb.fj.map As), sC (p0.fb.fq.map As), sC (p0.fb.fd.map Bw), sC (p0.ft.map AQ), iC p0.fi, iC p0.fC, sC (v1.1.fh.map As), sC (v1.1.ff.map As), sC (v1.1.fg.map DO)])] rfl rfl)))), ?_⟩
  exact ⟨⟨[], tv, rfl⟩, ⟨rfl, tv⟩, tv⟩
 ·refine Ap ?_
  obtain rfl := sj h
  refine ⟨_, (sm [] [] [(90000, .box (AA p0))] rfl rfl), ?_⟩
  exact ⟨⟨[], tv, rfl⟩, ⟨rfl, tv⟩, tv⟩
theorem F5 (N : Nat) (p0 : Ai) (p1 : Ab) (r : Ai) (h : BC N p0 p1 = some r) : CO zA 82 [oD (.ptr 90000 0), .e (.agg (AP p1))] [(.box (AA p0), .box (AA r))] [] (.tup []) := by
 unfold BC at h
 refine Cr (n := 62) (rs := []) Tryz.func82 rfl rfl rfl (Ge rfl) (Ge rfl) rfl rfl (Ge rfl) rfl (Ge rfl) fun w0 S0 GL => Ve ?_
 refine Ae (sm [] [(0, oD (.ptr 90000 0)), (1, .e (.agg (AP p1)))] [(90000, .box (AA p0))] rfl rfl) (wq rfl (qb rfl (Ac (wq rfl (qm rfl (Iz rfl (qf N8 rfl (ql PW rfl (qm rfl (Iz rfl (qf JE rfl (ql A4 rfl ?_))))))))))))
 refine BU h fun v1 a1 b1 h => qi G6 Gr a1 (Ah b1) rfl (qK I1 Gr rfl (qz Pd rfl (qs Gr rfl (AH (by kernel_rfl) (wq rfl (qf Cg rfl (ql A4 rfl (Ac (AU (wq rfl (AS rfl (qe rfl ?_))))))))))))
 refine Bg h (fun h => ?_) fun h => ?_
 ·refine wq rfl (qm rfl (Iz rfl (qf H5 rfl (qs Db rfl (Ac (wq rfl (qf Dh rfl (ql A4 rfl (AS rfl (Ac ?_))))))))))
  refine Bg h (fun h => ?_) fun h => ?_
  ·refine Aj Ax rfl (qm rfl (qL I1 Gr rfl ?_))
   refine BS h fun v4 a4 h => Ez (ds0 := [_, _]) [90000] [] [true] (E9 N ((Ai.mk ((Aa.mk p0.fb.fc p0.fb.fj p0.fb.fq p0.fb.fd)) p0.ft p0.fi 1 ((Af.mk p0.fe.fh p0.fe.ff p0.fe.fg)))) v1 v4 a4) (.p rfl) SY rfl ⟨rfl, rfl, tv⟩ rfl rfl (by decide) ⟨rfl, tv⟩ rfl (B5 rfl) tv ⟨(fun h => by cases h), tv⟩ rfl rfl rfl ?_
   refine Ac ?_
   obtain rfl := sj h
   refine ⟨_, (sm [] [] [(90000, .box (AA v4))] rfl rfl), ?_⟩
   exact ⟨⟨[], tv, rfl⟩, ⟨rfl, tv⟩, tv⟩
  ·refine Ap ?_
   obtain rfl := sj h
   refine ⟨_, (sm [] [] [(90000, .box [sC (p0.fb.fc.map As), sC (p0.fb.fj.map As), sC (p0.fb.fq.map As), sC (p0.fb.fd.map Bw), sC (p0.ft.map AQ), iC p0.fi, iC 1, sC (p0.fe.fh.map As), sC (p0.fe.ff.map As), sC (p0.fe.fg.map DO)])] rfl rfl), ?_⟩
   exact ⟨⟨[], tv, rfl⟩, ⟨rfl, tv⟩, tv⟩
 ·refine wq rfl (AS rfl (qe rfl ?_))
  refine Bg h (fun h => ?_) fun h => ?_
  ·refine AM h (fun v6 => mk [(0, oD (.ptr 90000 0))] [(90000, .box (AA v6))]) (fun j6 h => ?_) (fun v6 h => ?_)
   ·refine wq rfl (qf Dh rfl (ql A4 rfl (Bb rfl (Ac ?_))))
    refine Bg h (fun h => ?_) fun h => ?_
    ·refine Aj Ax rfl (qm rfl (qL I1 Gr rfl ?_))
     refine BS h fun v8 a8 h => Ez (ds0 := [_, _]) [90000] [] [true] (E9 N ((Ai.mk ((Aa.mk p0.fb.fc p0.fb.fj p0.fb.fq p0.fb.fd)) p0.ft p0.fi p0.fC ((Af.mk p0.fe.fh p0.fe.ff p0.fe.fg)))) v1 v8 a8) (.p rfl) SY rfl ⟨rfl, rfl, tv⟩ rfl rfl (by decide) ⟨rfl, tv⟩ rfl (B5 rfl) tv ⟨(fun h => by cases h), tv⟩ rfl rfl rfl ?_
     refine Ac ?_
     exact sn [] h
    ·refine Ap ?_
     exact sn [] h
   ·refine Aj Ax rfl (qw 3 rfl (Iz rfl (qf JE rfl (ql A4 rfl (Ch rfl (Iz rfl (qf JE rfl (qs Db rfl (Iz rfl (qf H5 rfl (qs Db rfl (Ac ?_))))))))))))
    obtain rfl := sj h
    refine ⟨_, (sm [] [] [(90000, .box [sC (v6.fb.fc.map As), sC (v6.fb.fj.map As), sC (v6.fb.fq.map As), sC (v6.fb.fd.map Bw), sC (v6.ft.map AQ), iC ((wI .i64 (v6.fi + 1))), iC 0, sC (v6.fe.fh.map As), sC (v6.fe.ff.map As), sC (v6.fe.fg.map DO)])] rfl rfl), ?_⟩
    exact ⟨⟨[], tv, rfl⟩, ⟨rfl, tv⟩, tv⟩
  ·refine wq rfl (AS rfl (qe rfl ?_))
   refine Bg h (fun h => ?_) fun h => ?_
   ·refine Aj Ax rfl (qm rfl (Iz rfl (qf H5 rfl (qs Db rfl (Ac ?_)))))
    obtain rfl := sj h
    refine ⟨_, (sm [] [] [(90000, .box [sC (p0.fb.fc.map As), sC (p0.fb.fj.map As), sC (p0.fb.fq.map As), sC (p0.fb.fd.map Bw), sC (p0.ft.map AQ), iC p0.fi, iC 2, sC (p0.fe.fh.map As), sC (p0.fe.ff.map As), sC (p0.fe.fg.map DO)])] rfl rfl), ?_⟩
    exact ⟨⟨[], tv, rfl⟩, ⟨rfl, tv⟩, tv⟩
   ·refine wq rfl (AS rfl (qe rfl ?_))
    refine Bg h (fun h => ?_) fun h => ?_
    ·refine wq rfl (qm rfl (Iz rfl (qf H5 rfl (qs Db rfl (Ac (Aj Ax rfl (qm rfl (qf D5 rfl (ql A4 rfl (Bx Pd UC rfl ?_))))))))))
     refine BS h fun v11 a11 h => Ez (ds0 := [_, _]) [90000] [] [true] (E9 N ((Ai.mk ((Aa.mk p0.fb.fc p0.fb.fj p0.fb.fq p0.fb.fd)) p0.ft p0.fi 0 ((Af.mk p0.fe.fh p0.fe.ff p0.fe.fg)))) ((Ao.mk 4 v1.fm 0)) v11 a11) (.p rfl) SY rfl ⟨rfl, rfl, tv⟩ rfl rfl (by decide) ⟨rfl, tv⟩ rfl (B5 rfl) tv ⟨(fun h => by cases h), tv⟩ rfl rfl rfl ?_
     refine Ac ?_
     obtain rfl := sj h
     refine ⟨_, (sm [] [] [(90000, .box (AA v11))] rfl rfl), ?_⟩
     exact ⟨⟨[], tv, rfl⟩, ⟨rfl, tv⟩, tv⟩
    ·refine Ap ?_
     obtain rfl := sj h
     refine ⟨_, (sm [] [] [(90000, .box (AA p0))] rfl rfl), ?_⟩
     exact ⟨⟨[], tv, rfl⟩, ⟨rfl, tv⟩, tv⟩
theorem Kw (N : Nat) (p0 : Ai) (p1 : AB) (p2 : List Int) (p3 : Ab) (r : Int × Ai × AB × (List (Int × Int))) (h : DF N p0 p1 p2 p3 = some r) : CO zA 73 [oD (.ptr 90000 0), oD (.ptr 90001 0), pD (.sl (p2.map As)), .e (.agg (AP p3))] [(.box (AA p0), .box (AA r.2.1)), (.box [iC p1.fy, iC p1.fA, .pure (.val (.bool p1.fB)), .mref 90002], .box [iC r.2.2.1.fy, iC r.2.2.1.fA, .pure (.val (.bool r.2.2.1.fB)), .mref 90002]), (.mp (CX (Value.int .i64) El p1.fG), .mp (CX (Value.int .i64) El r.2.2.2))] [] (iD r.1) := by
 unfold DF at h
 refine Cr (n := 79) (rs := [.tmp 8]) Tryz.func73 rfl rfl rfl (Ge rfl) (Ge rfl) rfl rfl (Ge rfl) rfl (Ge rfl) fun w0 S0 GL => ?_
 refine Ae (sm [] [(0, oD (.ptr 90000 0)), (1, oD (.ptr 90001 0)), (2, pD (.sl (p2.map As))), (3, .e (.agg (AP p3)))] [(90000, .box (AA p0)), (90001, .box [iC p1.fy, iC p1.fA, .pure (.val (.bool p1.fB)), .mref 90002]), (90002, .mp (CX (Value.int .i64) El p1.fG))] rfl rfl) (wq rfl (qb rfl (qe rfl ?_)))
 refine AM h (fun v1 => mk [] [(90000, .box (AA v1.2.1)), (90001, .box [iC v1.2.2.1, iC v1.2.2.2.1, .pure (.val (.bool v1.2.2.2.2)), .mref 90002]), (90002, .mp (CX (Value.int .i64) El v1.1))]) (fun j1 h => ?_) (fun v1 h => ?_)
 ·refine AU ?_
  refine AM h (fun v2 => mk [(0, oD (.ptr 90000 0)), (1, oD (.ptr 90001 0)), (2, pD (.sl (p2.map As))), (7, oD (.ptr 7 0)), (10, bD v2)] [(7, .box (AP p3)), (90000, .box (AA p0)), (90001, .box [iC p1.fy, iC p1.fA, .pure (.val (.bool p1.fB)), .mref 90002]), (90002, .mp (CX (Value.int .i64) El p1.fG))]) (fun j2 h => ?_) (fun v2 h => ?_)
  ·refine Aj Ax rfl (qf Cg rfl (ql A4 rfl (AS rfl (qm rfl ?_))))
   refine Ce 14 h rfl (fun h => ?_) fun h => ?_
   ·refine qm rfl (Iz rfl (qf OD rfl (qL Dg Da rfl (qL Fe CG rfl ?_))))
    refine BS h fun v4 a4 h => Av [] (KX N ((Aa.mk p0.fb.fc p0.fb.fj p0.fb.fq p0.fb.fd)) p3 v4 a4) XA rfl (Cl rfl (qp rfl (qa rfl (AH (by kernel_rfl) ?_))))
    exact sn [] h
   ·refine qw 7 rfl (qp rfl (qa rfl (AH (by kernel_rfl) ?_)))
    exact sn [] h
  ·refine Bg h (fun h => ?_) fun h => ?_
   ·refine wq rfl (qe rfl ?_)
    obtain rfl := sj h
    refine Ae (sm [] [(8, iD 1)] [(90000, .box (AA p0)), (90001, .box [iC p1.fy, iC p1.fA, .pure (.val (.bool p1.fB)), .mref 90002]), (90002, .mp (CX (Value.int .i64) El p1.fG))] rfl rfl) (Aq ?_)
    exact ⟨⟨[_], tm, rfl⟩, ⟨rfl, rfl, rfl, tv⟩, tv⟩
   ·refine AM h (fun v6 => mk [(0, oD (.ptr 90000 0)), (1, oD (.ptr 90001 0)), (2, pD (.sl (p2.map As))), (7, oD (.ptr 7 0)), (23, bD v6)] [(7, .box (AP p3)), (90000, .box (AA p0)), (90001, .box [iC p1.fy, iC p1.fA, .pure (.val (.bool p1.fB)), .mref 90002]), (90002, .mp (CX (Value.int .i64) El p1.fG))]) (fun j6 h => ?_) (fun v6 h => ?_)
    ·refine Aj Ax rfl (qL Fe CG rfl ?_)
     refine BS h fun v7 a7 h => Av [] (GA N p3 v7 a7) TN rfl (qm rfl ?_)
     refine Ce 26 h rfl (fun h => ?_) fun h => ?_
     ·refine qm rfl (qL Fe CG rfl ?_)
      refine BS h fun v9 a9 h => Ez (ds0 := [_, _]) [90000] [] [false] (Gl N ((Ai.mk ((Aa.mk p0.fb.fc p0.fb.fj p0.fb.fq p0.fb.fd)) p0.ft p0.fi p0.fC ((Af.mk p0.fe.fh p0.fe.ff p0.fe.fg)))) p3 v9 a9) (.g rfl rfl) WM rfl ⟨rfl, rfl, tv⟩ rfl rfl (by decide) ⟨rfl, tv⟩ rfl (B5 rfl) tv ⟨(fun _ => rfl), tv⟩ rfl rfl rfl ?_
      refine Cl rfl (qp rfl (qe rfl ?_))
      exact sn [] h
     ·refine qw 4 rfl (qp rfl (qe rfl ?_))
      exact sn [] h
    ·refine Bg h (fun h => ?_) fun h => ?_
     ·refine wq rfl (qe rfl ?_)
      obtain rfl := sj h
      refine Ae (sm [] [(8, iD 2)] [(90000, .box (AA p0)), (90001, .box [iC p1.fy, iC p1.fA, .pure (.val (.bool p1.fB)), .mref 90002]), (90002, .mp (CX (Value.int .i64) El p1.fG))] rfl rfl) (Aq ?_)
      exact ⟨⟨[_], tm, rfl⟩, ⟨rfl, rfl, rfl, tv⟩, tv⟩
     ·refine wq rfl (qm rfl (qL Fe CG rfl ?_))
      refine BS h fun v11 a11 h => Ez (ds0 := [_, _]) [90001, 90002] [] [true, true] (Hd N p1 p3 v11 a11) (.p rfl) XF rfl ⟨rfl, rfl, tv⟩ rfl rfl (Dp rfl) ⟨rfl, rfl, tv⟩ rfl (B5 rfl) tv ⟨(fun h => by cases h), (fun h => by cases h), tv⟩ rfl rfl rfl ?_
      refine Cl rfl (qe rfl ?_)
      refine Bg h (fun h => ?_) fun h => ?_
      ·refine wq rfl (qe rfl ?_)
       obtain rfl := sj h
       refine Ae (sm [] [(8, iD 3)] [(90000, .box (AA p0)), (90001, .box [iC v11.2.1.fy, iC v11.2.1.fA, .pure (.val (.bool v11.2.1.fB)), .mref 90002]), (90002, .mp (CX (Value.int .i64) El v11.2.2))] rfl rfl) (Aq ?_)
       exact ⟨⟨[_], tm, rfl⟩, ⟨rfl, rfl, rfl, tv⟩, tv⟩
      ·refine wq rfl (qf Cg rfl (ql A4 rfl (AS rfl (qe rfl ?_))))
       refine Bg h (fun h => ?_) fun h => ?_
       ·refine wq rfl (qm rfl (qf Hv rfl (ql A4 rfl ?_)))
        refine BS h fun v14 a14 h => Av [] (M9 N p2 p3.fv v14 a14) Xa rfl (qe rfl ?_)
        refine AM h (fun v15 => mk [(57, bD v15)] [(90000, .box (AA p0)), (90001, .box [iC v11.2.1.fy, iC v11.2.1.fA, .pure (.val (.bool v11.2.1.fB)), .mref 90002]), (90002, .mp (CX (Value.int .i64) El v11.2.2))]) (fun j15 h => ?_) (fun v15 h => ?_)
        ·refine Aj Ax rfl (qm rfl (A1 rfl (qm rfl ?_)))
         refine Ce 47 h rfl (fun h => ?_) fun h => ?_
         ·refine qw 9 rfl (qp rfl (AH (by kernel_rfl) ?_))
          exact sn [] h
         ·refine qm rfl (Iz rfl (qf Kv rfl (qL Cc AY rfl (qm rfl (qf KQ rfl (ql A4 rfl ?_))))))
          refine BS h fun v17 a17 h => Av [] (Hk N ((Af.mk p0.fe.fh p0.fe.ff p0.fe.fg)) v14 p3.fr v17 a17) ST rfl (Cl rfl (qp rfl (AH (by kernel_rfl) ?_)))
          exact sn [] h
        ·refine Bg h (fun h => ?_) fun h => ?_
         ·refine wq rfl (qe rfl ?_)
          obtain rfl := sj h
          refine Ae (sm [] [(8, iD 4)] [(90000, .box (AA p0)), (90001, .box [iC v11.2.1.fy, iC v11.2.1.fA, .pure (.val (.bool v11.2.1.fB)), .mref 90002]), (90002, .mp (CX (Value.int .i64) El v11.2.2))] rfl rfl) (Aq ?_)
          exact ⟨⟨[_], tm, rfl⟩, ⟨rfl, rfl, rfl, tv⟩, tv⟩
         ·refine Ap ?_
          exact sn [] h
       ·refine wq rfl (qf Cg rfl (ql A4 rfl (AS rfl (qe rfl ?_))))
        refine Bg h (fun h => ?_) fun h => ?_
        ·refine wq rfl (qm rfl (Iz rfl (qf OD rfl (qL Dg Da rfl (qm rfl (Iz rfl (qf Kv rfl (qL Cc AY rfl (qL Fe CG rfl ?_)))))))))
         refine BS h fun v20 a20 h => Av [] (LM N ((Aa.mk p0.fb.fc p0.fb.fj p0.fb.fq p0.fb.fd)) ((Af.mk p0.fe.fh p0.fe.ff p0.fe.fg)) p3 v20 a20) Xl rfl (Cl rfl (AH (by kernel_rfl) ?_))
         refine Bg h (fun h => ?_) fun h => ?_
         ·refine wq rfl (qe rfl ?_)
          obtain rfl := sj h
          refine Ae (sm [] [(8, iD 5)] [(90000, .box (AA p0)), (90001, .box [iC v11.2.1.fy, iC v11.2.1.fA, .pure (.val (.bool v11.2.1.fB)), .mref 90002]), (90002, .mp (CX (Value.int .i64) El v11.2.2))] rfl rfl) (Aq ?_)
          exact ⟨⟨[_], tm, rfl⟩, ⟨rfl, rfl, rfl, tv⟩, tv⟩
         ·refine Ap ?_
          exact sn [] h
        ·refine wq rfl (qL Fe CG rfl ?_)
         refine BS h fun v22 a22 h => Av [] (GA N p3 v22 a22) TN rfl (qe rfl ?_)
         refine Bg h (fun h => ?_) fun h => ?_
         ·refine Aj Ax rfl (qm rfl (qL Fe CG rfl ?_))
          refine BS h fun v24 a24 h => Ez (ds0 := [_, _]) [90000] [] [true] (F5 N ((Ai.mk ((Aa.mk p0.fb.fc p0.fb.fj p0.fb.fq p0.fb.fd)) p0.ft p0.fi p0.fC ((Af.mk p0.fe.fh p0.fe.ff p0.fe.fg)))) p3 v24 a24) (.p rfl) Xn rfl ⟨rfl, rfl, tv⟩ rfl rfl (by decide) ⟨rfl, tv⟩ rfl (B5 rfl) tv ⟨(fun h => by cases h), tv⟩ rfl rfl rfl ?_
          refine Ac ?_
          exact sn [] h
         ·refine Ap ?_
          exact sn [] h
 ·refine wq rfl (qe rfl ?_)
  obtain rfl := sj h
  refine Ae (sm [] [(8, iD 0)] [(90000, .box (AA v1.2.1)), (90001, .box [iC v1.2.2.1, iC v1.2.2.2.1, .pure (.val (.bool v1.2.2.2.2)), .mref 90002]), (90002, .mp (CX (Value.int .i64) El v1.1))] rfl rfl) (Aq ?_)
  exact ⟨⟨[_], tm, rfl⟩, ⟨rfl, rfl, rfl, tv⟩, tv⟩
theorem Na (N : Nat) (p0 : Aa) (p1 : List Int) (p2 : List Ao) (p3 : List Ab) (r : Int × Int × (Option Ai) × Int) (h : Fu N p0 p1 p2 p3 = some r) : Ar zA 35 [.e (.agg (Al p0)), pD (.sl (p1.map As)), pD (.sl (p2.map AQ)), pD (.sl (p3.map Aw))] [] (.tup [.one (iC r.1), .one (iC r.2.1), .one (.pure (.rp (xR Fs r.2.2.1))), .one (iC r.2.2.2)]) := by
 unfold Fu at h
 refine cw (n := 69) (rs := [.tmp 8, .tmp 9, .tmp 10, .tmp 11]) Tryz.func35 fun w0 S0 => ?_
 refine wq rfl (qb rfl (qa rfl (qa rfl (qa rfl (qa rfl (Ac (wp rfl (qL Dg Da rfl ?_))))))))
 refine BS h fun v1 a1 h => Av [] (DT N p0 v1 a1) Tk rfl (qa rfl (Ac (wq rfl (qm rfl (Bb rfl (Ac ?_))))))
 refine Bg h (fun h => ?_) fun h => ?_
 ·refine wq rfl (qm rfl (qa rfl (qa rfl (qa rfl (qe rfl ?_)))))
  obtain rfl := sj h
  refine Ae (sm [] [(8, iD 0), (9, iD 0), (10, pD (.rp none)), (11, iD v1)] [] rfl rfl) (Aq ?_)
  exact ⟨⟨[_, _, _, _], ⟨.tmp _ _ rfl, ⟨.tmp _ _ rfl, ⟨.tmp _ _ rfl, tm⟩⟩⟩, rfl⟩, tv⟩
 ·refine Ap (wp rfl (qL Dg Da rfl (qm rfl ?_)))
  refine BS h fun v3 a3 h => Av [] (LU N p0 p1 v3 a3) Yb rfl (qa rfl (Ac (wq rfl (qm rfl (Bb rfl (Ac ?_))))))
  refine Bg h (fun h => ?_) fun h => ?_
  ·refine wq rfl (qm rfl (qa rfl (qa rfl (qa rfl (qe rfl ?_)))))
   obtain rfl := sj h
   refine Ae (sm [] [(8, iD 0), (9, iD 0), (10, pD (.rp none)), (11, iD v3)] [] rfl rfl) (Aq ?_)
   exact ⟨⟨[_, _, _, _], ⟨.tmp _ _ rfl, ⟨.tmp _ _ rfl, ⟨.tmp _ _ rfl, tm⟩⟩⟩, rfl⟩, tv⟩
  ·refine Ap (wq rfl (qL Dg Da rfl (qm rfl ?_)))
   refine BS h fun v5 a5 h => Av [] (H3 N p0 p2 v5 a5) W6 rfl (qm rfl (qx rfl (qx rfl (qz DI rfl (qs AY rfl (qe rfl ?_))))))
   refine AM h (fun v6 => mk [(1, pD (.sl (p1.map As))), (2, pD (.sl (p2.map AQ))), (3, pD (.sl (p3.map Aw))), (4, oD (.ptr 4 0)), (14, oD (.ptr 14 0)), (15, iD v6)] [(4, .box (Al p0)), (14, .box (Bp v5.1))]) (fun j6 h => ?_) (fun v6 h => ?_)
   ·refine wq rfl (qm rfl (AS rfl (Ac ?_)))
    refine Bg h (fun h => ?_) fun h => ?_
    ·refine Aj Ax rfl (qm rfl ?_)
     refine BS h fun v8 a8 h => Av [] (E2 N p3 v8 a8) Tz rfl (qe rfl ?_)
     exact sn [] h
    ·refine Ap ?_
     exact sn [] h
   ·refine wp rfl (qm rfl (Bb rfl (Ac ?_)))
    refine Bg h (fun h => ?_) fun h => ?_
    ·refine wq rfl (qm rfl (qa rfl (qa rfl (qa rfl (qe rfl ?_)))))
     obtain rfl := sj h
     refine Ae (sm [] [(8, iD 0), (9, iD 0), (10, pD (.rp none)), (11, iD v6)] [] rfl rfl) (Aq ?_)
     exact ⟨⟨[_, _, _, _], ⟨.tmp _ _ rfl, ⟨.tmp _ _ rfl, ⟨.tmp _ _ rfl, tm⟩⟩⟩, rfl⟩, tv⟩
    ·refine Ap (wq rfl (qL Dg Da rfl (qm rfl (qL Cc AY rfl (Bx WR Wk rfl (qb rfl (qa rfl (Ac (wq rfl ?_)))))))))
     refine BS h fun v10 a10 h => Ez (ds0 := []) [] [2001, 2002] [] (H1 N v10 a10) (.p rfl) WG rfl tv rfl rfl (by decide) tv rfl (B5 rfl) ⟨rfl, rfl, tv⟩ tv rfl rfl rfl ?_
     refine FO (sm [] [(1, pD (.sl (p1.map As))), (2, pD (.sl (p2.map AQ))), (3, pD (.sl (p3.map Aw))), (4, oD (.ptr 4 0)), (14, oD (.ptr 14 0)), (15, iD v6), (16, oD (.ptr 49 0)), (42, iD v6), (43, bD ((v6 != 0))), (45, .e (.agg (Al p0))), (46, pD (.sl (p2.map AQ))), (47, .e (.agg (Bp v5.1))), (48, .e (.agg [sC (p0.fc.map As), sC (p0.fj.map As), sC (p0.fq.map As), sC (p0.fd.map Bw), sC (p2.map AQ), iC 0, iC 0, sC (v5.1.fh.map As), sC (v5.1.ff.map As), sC (v5.1.fg.map DO)])), (49, oD (.ptr 49 0)), (50, oD (.ptr 2001 0))] [(4, .box (Al p0)), (14, .box (Bp v5.1)), (49, .box [sC (p0.fc.map As), sC (p0.fj.map As), sC (p0.fq.map As), sC (p0.fd.map Bw), sC (p2.map AQ), iC 0, iC 0, sC (v5.1.fh.map As), sC (v5.1.ff.map As), sC (v5.1.fg.map DO)]), (2001, .box [iC v10.fy, iC v10.fA, .pure (.val (.bool v10.fB)), .mref 2002]), (2002, .mp (CX (Value.int .i64) El v10.fG))] rfl rfl) (qa rfl (Ac (wp rfl (qm rfl (AK DB rfl (qm rfl (Ac ?_)))))))
     refine A0 (L := DH N p1 p3) h (fun v11 => mk [(1, pD (.sl (p1.map As))), (16, oD (.ptr 49 0)), (17, oD (.ptr 2001 0)), (51, pD (.sl (p3.map Aw))), (52, iD ((p3.length : Int))), (53, iD v11.2.2.2.2.2)] [(49, .box (AA v11.1)), (2001, .box [iC v11.2.1, iC v11.2.2.1, .pure (.val (.bool v11.2.2.2.1)), .mref 2003]), (2003, .mp (CX (Value.int .i64) El v11.2.2.2.2.1))]) (fun v12 => mk [(16, oD (.ptr 49 0))] [(49, .box (AA v12))]) (fun _ _ => rfl) (sm [(2003, 2002)] _ _ rfl rfl) (fun j11 n11 v11 h => ?_) (fun v12 s h hs => ?_)
     ·unfold DH at h
      refine wq rfl (A1 rfl (Ac (AT ?_)))
      refine Bg h (fun h => ?_) fun h => ?_
      ·refine Ap (AT (AU (wq rfl (qm rfl ?_))))
       refine BU h fun v14 a14 b14 h => qi DB CG a14 (Ah b14) rfl (qK Fe CG rfl (qz Jb rfl (qa rfl (qs CG rfl (Ac (wq rfl (qw 3 rfl (qL Fe CG rfl ?_))))))))
       refine BS h fun v15 a15 h => Ez (ds0 := [_, _, _, _]) [49, 2001, 2003] [] [true, true, true] (Kw N ((Ai.mk ((Aa.mk v11.1.fb.fc v11.1.fb.fj v11.1.fb.fq v11.1.fb.fd)) v11.1.ft v11.1.fi v11.1.fC ((Af.mk v11.1.fe.fh v11.1.fe.ff v11.1.fe.fg)))) ((AB.mk v11.2.1 v11.2.2.1 v11.2.2.2.1 v11.2.2.2.2.1)) p1 v14 v15 a15) (.p rfl) X4 rfl ⟨rfl, rfl, rfl, rfl, tv⟩ rfl rfl (Dp rfl) ⟨rfl, rfl, rfl, tv⟩ rfl (B5 rfl) tv ⟨(fun h => by cases h), (fun h => by cases h), (fun h => by cases h), tv⟩ rfl rfl rfl ?_
       refine qa rfl (Ac (wq rfl (qm rfl (Bb rfl (Ac ?_)))))
       refine Bg h (fun h => ?_) fun h => ?_
       ·refine wq rfl (qw 2 rfl (qa rfl (qa rfl (qa rfl (qe rfl ?_)))))
        obtain rfl := sj h
        refine Ae (sm [] [(8, iD v11.2.2.2.2.2), (9, iD v15.1), (10, pD (.rp none)), (11, iD 0)] [] rfl rfl) (Aq ?_)
        exact ⟨⟨[_, _, _, _], ⟨.tmp _ _ rfl, ⟨.tmp _ _ rfl, ⟨.tmp _ _ rfl, tm⟩⟩⟩, rfl⟩, tv⟩
       ·refine Ap (Aj Ax rfl (Ch rfl (qm rfl (Ac ?_))))
        exact sn [] h
      ·refine BT ?_
       exact sn [] h
     ·refine Ae hs (wq rfl (qm rfl (qa rfl (qa rfl (qa rfl (qe rfl ?_))))))
      obtain rfl := sj h
      refine Ae ((Iw 49 [.sl (v12.fb.fc.map As), .sl (v12.fb.fj.map As), .sl (v12.fb.fq.map As), .sl (v12.fb.fd.map Bw), .sl (v12.ft.map AQ), .val (.int .i64 v12.fi), .val (.int .i64 v12.fC), .sl (v12.fe.fh.map As), .sl (v12.fe.ff.map As), .sl (v12.fe.fg.map DO)] rfl rfl).trans ((Oy 10 _ rfl).trans (sm [] [(8, iD 0), (9, iD 0), (10, pD (.rp (xR Fs ((some ((Ai.mk ((Aa.mk v12.fb.fc v12.fb.fj v12.fb.fq v12.fb.fd)) v12.ft v12.fi v12.fC ((Af.mk v12.fe.fh v12.fe.ff v12.fe.fg))))))))), (11, iD 15)] [] rfl rfl))) (Aq ?_)
      exact ⟨⟨[_, _, _, _], ⟨.tmp _ _ rfl, ⟨.tmp _ _ rfl, ⟨.tmp _ _ rfl, tm⟩⟩⟩, rfl⟩, tv⟩
theorem If (N : Nat) (p0 : Aa) (p1 : List Int) (p2 : List Ao) (p3 : List Ab) (r : Int × Int × Int) (h : DW N p0 p1 p2 p3 = some r) : Ar zA 13 [.e (.agg (Al p0)), pD (.sl (p1.map As)), pD (.sl (p2.map AQ)), pD (.sl (p3.map Aw))] [] (.tup [.one (iC r.1), .one (iC r.2.1), .one (iC r.2.2)]) := by
 unfold DW at h
 refine cw (n := 28) (rs := [.tmp 8, .tmp 9, .tmp 10]) Tryz.func13 fun w0 S0 => ?_
 refine wq rfl (qb rfl (qa rfl (qa rfl (qa rfl (Ac (wq rfl (qL Dg Da rfl (qw 3 rfl ?_))))))))
 refine BS h fun v1 a1 h => Av [] (Na N p0 p1 p2 p3 v1 a1) X6 rfl (qm rfl (qx rfl (qx rfl (qx rfl (qx rfl (qa rfl (qa rfl (qa rfl (qa rfl (Ac (wq rfl (qw 3 rfl (qa rfl (qa rfl (qe rfl ?_)))))))))))))))
 obtain rfl := sj h
 refine Ae (sm [] [(8, iD v1.1), (9, iD v1.2.1), (10, iD v1.2.2.2)] [] rfl rfl) (Aq ?_)
 exact ⟨⟨[_, _, _], ⟨.tmp _ _ rfl, ⟨.tmp _ _ rfl, tm⟩⟩, rfl⟩, tv⟩
theorem IB (N : Nat) (p0 : Aa) (p1 : List Ao) (p2 : List Ab) (r : (Option Ai) × Int × Int) (h : D3 N p0 p1 p2 = some r) : Ar zA 39 [.e (.agg (Al p0)), pD (.sl (p1.map AQ)), pD (.sl (p2.map Aw))] [] (.tup [.one (.pure (.rp (xR Fs r.1))), .one (iC r.2.1), .one (iC r.2.2)]) := by
 unfold D3 at h
 refine cw (n := 59) (rs := [.tmp 6, .tmp 7, .tmp 8]) Tryz.func39 fun w0 S0 => ?_
 refine wq rfl (qb rfl (qa rfl (qa rfl (qa rfl (Ac (wp rfl (qL Dg Da rfl ?_)))))))
 refine BS h fun v1 a1 h => Av [] (DT N p0 v1 a1) Tk rfl (qa rfl (Ac (wq rfl (qm rfl (Bb rfl (Ac ?_))))))
 refine Bg h (fun h => ?_) fun h => ?_
 ·refine wq rfl (qm rfl (qa rfl (qa rfl (qe rfl ?_))))
  obtain rfl := sj h
  refine Ae (sm [] [(6, pD (.rp none)), (7, iD 0), (8, iD v1)] [] rfl rfl) (Aq ?_)
  exact ⟨⟨[_, _, _], ⟨.tmp _ _ rfl, ⟨.tmp _ _ rfl, tm⟩⟩, rfl⟩, tv⟩
 ·refine Ap (wq rfl (qL Dg Da rfl (qm rfl ?_)))
  refine BS h fun v3 a3 h => Av [] (H3 N p0 p1 v3 a3) W6 rfl (qm rfl (qx rfl (qx rfl (qz DI rfl (qs AY rfl (qe rfl ?_))))))
  refine AM h (fun v4 => mk [(1, pD (.sl (p1.map AQ))), (2, pD (.sl (p2.map Aw))), (3, oD (.ptr 3 0)), (10, oD (.ptr 10 0)), (11, iD v4)] [(3, .box (Al p0)), (10, .box (Bp v3.1))]) (fun j4 h => ?_) (fun v4 h => ?_)
  ·refine wq rfl (qm rfl (AS rfl (Ac ?_)))
   refine Bg h (fun h => ?_) fun h => ?_
   ·refine Aj Ax rfl (qm rfl ?_)
    refine BS h fun v6 a6 h => Av [] (E2 N p2 v6 a6) Tz rfl (qe rfl ?_)
    exact sn [] h
   ·refine Ap ?_
    exact sn [] h
  ·refine wp rfl (qm rfl (Bb rfl (Ac ?_)))
   refine Bg h (fun h => ?_) fun h => ?_
   ·refine wq rfl (qm rfl (qa rfl (qa rfl (qe rfl ?_))))
    obtain rfl := sj h
    refine Ae (sm [] [(6, pD (.rp none)), (7, iD 0), (8, iD v4)] [] rfl rfl) (Aq ?_)
    exact ⟨⟨[_, _, _], ⟨.tmp _ _ rfl, ⟨.tmp _ _ rfl, tm⟩⟩, rfl⟩, tv⟩
   ·refine Ap (wq rfl (qL Dg Da rfl (qm rfl (qL Cc AY rfl (Bx WR Wk rfl (qb rfl (qa rfl (Ac (wp rfl (qm rfl (AK DB rfl (qm rfl (Ac ?_)))))))))))))
    refine A0 (L := CT N p2) h (fun v8 => mk [(12, oD (.ptr 37 0)), (38, pD (.sl (p2.map Aw))), (39, iD ((p2.length : Int))), (40, iD v8.2)] [(37, .box (AA v8.1))]) (fun v9 => mk [(12, oD (.ptr 37 0))] [(37, .box (AA v9))]) (fun _ _ => rfl) (sm [] _ _ rfl rfl) (fun j8 n8 v8 h => ?_) (fun v9 s h hs => ?_)
    ·unfold CT at h
     refine wq rfl (A1 rfl (Ac (AT ?_)))
     refine Bg h (fun h => ?_) fun h => ?_
     ·refine Ap ?_
      refine AM h (fun v11 => mk [(12, oD (.ptr 37 0)), (38, pD (.sl (p2.map Aw))), (39, iD ((p2.length : Int))), (40, iD v8.2)] [(37, .box (AA v11))]) (fun j11 h => ?_) (fun v11 h => ?_)
      ·refine AU (wq rfl (qm rfl ?_))
       refine BU h fun v12 a12 b12 h => qi DB CG a12 (Ah b12) rfl (qK Fe CG rfl (qz Jb rfl (qa rfl (qs CG rfl (Ac (wp rfl (qL Fe CG rfl ?_)))))))
       refine BS h fun v13 a13 h => Av [] (GA N v12 v13 a13) TN rfl (Cl rfl (Ac ?_))
       refine Bg h (fun h => ?_) fun h => ?_
       ·refine BT ?_
        exact sn [] h
       ·refine Ap (wp rfl (qm rfl (qL Fe CG rfl ?_)))
        refine BS h fun v15 a15 h => Ez (ds0 := [_, _]) [37] [] [false] (Gl N ((Ai.mk ((Aa.mk v8.1.fb.fc v8.1.fb.fj v8.1.fb.fq v8.1.fb.fd)) v8.1.ft v8.1.fi v8.1.fC ((Af.mk v8.1.fe.fh v8.1.fe.ff v8.1.fe.fg)))) v12 v15 a15) (.p rfl) WM rfl ⟨rfl, rfl, tv⟩ rfl rfl (by decide) ⟨rfl, tv⟩ rfl (B5 rfl) tv ⟨(fun _ => rfl), tv⟩ rfl rfl rfl ?_
        refine Cl rfl (Ac ?_)
        refine Bg h (fun h => ?_) fun h => ?_
        ·refine wq rfl (qw 2 rfl (qa rfl (qa rfl (qe rfl ?_))))
         obtain rfl := sj h
         refine Ae ((Iw 37 [.sl (v8.1.fb.fc.map As), .sl (v8.1.fb.fj.map As), .sl (v8.1.fb.fq.map As), .sl (v8.1.fb.fd.map Bw), .sl (v8.1.ft.map AQ), .val (.int .i64 v8.1.fi), .val (.int .i64 v8.1.fC), .sl (v8.1.fe.fh.map As), .sl (v8.1.fe.ff.map As), .sl (v8.1.fe.fg.map DO)] rfl rfl).trans ((Oy 6 _ rfl).trans (sm [] [(6, pD (.rp (xR Fs ((some ((Ai.mk ((Aa.mk v8.1.fb.fc v8.1.fb.fj v8.1.fb.fq v8.1.fb.fd)) v8.1.ft v8.1.fi v8.1.fC ((Af.mk v8.1.fe.fh v8.1.fe.ff v8.1.fe.fg))))))))), (7, iD v8.2), (8, iD 0)] [] rfl rfl))) (Aq ?_)
         exact ⟨⟨[_, _, _], ⟨.tmp _ _ rfl, ⟨.tmp _ _ rfl, tm⟩⟩, rfl⟩, tv⟩
        ·refine Ap (Aj Ax rfl (qm rfl (qL Fe CG rfl ?_)))
         refine BS h fun v17 a17 h => Ez (ds0 := [_, _]) [37] [] [true] (F5 N ((Ai.mk ((Aa.mk v8.1.fb.fc v8.1.fb.fj v8.1.fb.fq v8.1.fb.fd)) v8.1.ft v8.1.fi v8.1.fC ((Af.mk v8.1.fe.fh v8.1.fe.ff v8.1.fe.fg)))) v12 v17 a17) (.p rfl) Xn rfl ⟨rfl, rfl, tv⟩ rfl rfl (by decide) ⟨rfl, tv⟩ rfl (B5 rfl) tv ⟨(fun h => by cases h), tv⟩ rfl rfl rfl ?_
         refine Ac ?_
         exact sn [] h
      ·refine Aj Ax rfl (Ch rfl (qm rfl (Ac ?_)))
       exact sn [] h
     ·refine BT ?_
      exact sn [] h
    ·refine Ae hs (wq rfl (qm rfl (qa rfl (qa rfl (qe rfl ?_)))))
     obtain rfl := sj h
     refine Ae ((Iw 37 [.sl (v9.fb.fc.map As), .sl (v9.fb.fj.map As), .sl (v9.fb.fq.map As), .sl (v9.fb.fd.map Bw), .sl (v9.ft.map AQ), .val (.int .i64 v9.fi), .val (.int .i64 v9.fC), .sl (v9.fe.fh.map As), .sl (v9.fe.ff.map As), .sl (v9.fe.fg.map DO)] rfl rfl).trans ((Oy 6 _ rfl).trans (sm [] [(6, pD (.rp (xR Fs ((some ((Ai.mk ((Aa.mk v9.fb.fc v9.fb.fj v9.fb.fq v9.fb.fd)) v9.ft v9.fi v9.fC ((Af.mk v9.fe.fh v9.fe.ff v9.fe.fg))))))))), (7, iD ((-1))), (8, iD 0)] [] rfl rfl))) (Aq ?_)
     exact ⟨⟨[_, _, _], ⟨.tmp _ _ rfl, ⟨.tmp _ _ rfl, tm⟩⟩, rfl⟩, tv⟩
theorem PA (N : Nat) (p0 : Aa) (p1 : List Ao) (p2 : List Ab) (r : Af × Int) (h : IV N p0 p1 p2 = some r) : Ar zA 16 [.e (.agg (Al p0)), pD (.sl (p1.map AQ)), pD (.sl (p2.map Aw))] [] (.tup [.agg (Bp r.1), .one (iC r.2)]) := by
 unfold IV at h
 refine cw (n := 32) (rs := [.cell 6 40, .tmp 7]) Tryz.func16 fun w0 S0 => ?_
 refine wq rfl (qb rfl (qz DI rfl (qa rfl (Ac (wq rfl (qL Dg Da rfl (qw 2 rfl ?_)))))))
 refine BS h fun v1 a1 h => Av [] (IB N p0 p1 p2 v1 a1) Xh rfl (qm rfl (qx rfl (qx rfl (qx rfl (qa rfl (qa rfl (qa rfl (Ac (AT (AU (wq rfl (qm rfl (Bb rfl (qe rfl ?_))))))))))))))
 refine Bg h (fun h => ?_) fun h => ?_
 ·refine wq rfl (Bx DI HB rfl (qm rfl (qs AY rfl (qe rfl ?_))))
  obtain rfl := sj h
  refine Ae ((JA 6 _ rfl).trans (sm [] [(6, oD (.ptr 6 0)), (7, iD v1.2.2)] [(6, .box [sC ((([] : List Int)).map As), sC ((([] : List Int)).map As), sC ((([] : List Int)).map DO)])] rfl rfl)) (Aq ?_)
  exact ⟨⟨[_, _], ⟨.cellN _ _ _ _ _ _ _ rfl rfl Cc AY rfl rfl (Io rfl), tm⟩, rfl⟩, tv⟩
 ·refine wq rfl (qm rfl (Dt rfl (qe rfl ?_)))
  refine Bg h (fun h => ?_) fun h => ?_
  ·refine wq rfl (Bx DI HB rfl (qs AY rfl (qe rfl ?_)))
   obtain rfl := sj h
   refine Ae ((JA 6 _ rfl).trans (sm [] [(6, oD (.ptr 6 0)), (7, iD 11)] [(6, .box [sC ((([] : List Int)).map As), sC ((([] : List Int)).map As), sC ((([] : List Int)).map DO)])] rfl rfl)) (Aq ?_)
   exact ⟨⟨[_, _], ⟨.cellN _ _ _ _ _ _ _ rfl rfl Cc AY rfl rfl (Io rfl), tm⟩, rfl⟩, tv⟩
  ·refine Ap (wq rfl (qm rfl ?_))
   refine BS h fun v4 a4 h => FO (SR 28 _ _ rfl (by rw [a4]; rfl)) ?_
   refine PZ (.p rfl) rfl ?_
   refine qg Kv rfl (qK Cc AY rfl (qs AY rfl (qe rfl ?_)))
   obtain rfl := sj h
   refine Ae (sm [] [(6, oD (.ptr 6 0)), (7, iD 0)] [(6, .box (Bp v4.fe))] rfl rfl) (Aq ?_)
   exact ⟨⟨[_, _], ⟨.cellN _ _ _ _ _ _ _ rfl rfl Cc AY rfl rfl (Io rfl), tm⟩, rfl⟩, tv⟩
def Q8 : Go.Shelf.Ren := ⟨fun | 129 => 182 | 173 => 125 | 246 => 126 | 283 => 159 | 284 => 160 | 285 => 161 | 286 => 162 | 317 => 181 | 318 => 183 | 319 => 184 | 320 => 185 | 337 => 194 | 338 => 195 | n => n, fun | 0 => 0 | 2 => 2 | 3 => 3 | 4 => 4 | 5 => 5 | 9 => 9 | 20 => 20 | 37 => 47 | 46 => 234 | 51 => 242 | 53 => 214 | 171 => 213 | 173 => 217 | 212 => 241 | 213 => 243 | 232 => 261 | 233 => 262 | n => n, fun | 17 => 0 | 18 => 1 | 19 => 2 | n => n⟩
theorem Uj : LaysM.n173 zA Q8 := { mixed := Ax, f129 := Tryz.func182.trans (congrArg some (by kernel_rfl)), f173 := Tryz.func125.trans (congrArg some (by kernel_rfl)), f246 := Tryz.func126.trans (congrArg some (by kernel_rfl)), f283 := Tryz.func159.trans (congrArg some (by kernel_rfl)), f284 := Tryz.func160.trans (congrArg some (by kernel_rfl)), f285 := Tryz.func161.trans (congrArg some (by kernel_rfl)), f286 := Tryz.func162.trans (congrArg some (by kernel_rfl)), f317 := Tryz.func181.trans (congrArg some (by kernel_rfl)), f318 := Tryz.func183.trans (congrArg some (by kernel_rfl)), f319 := Tryz.func184.trans (congrArg some (by kernel_rfl)), f320 := Tryz.func185.trans (congrArg some (by kernel_rfl)), f337 := Tryz.func194.trans (congrArg some (by kernel_rfl)), f338 := Tryz.func195.trans (congrArg some (by kernel_rfl)), t0 := Tryz.underlying0, a0 := Tryz.isAgg0, z0 := Tryz.sizeOf0, v0 := Tryz.zeroValue0, t2 := Tryz.underlying2, a2 := Tryz.isAgg2, z2 := Tryz.sizeOf2, v2 := Tryz.zeroValue2, t3 := Tryz.underlying3, a3 := Tryz.isAgg3, z3 := Tryz.sizeOf3, v3 := Tryz.zeroValue3, t4 := Tryz.underlying4, a4 := Tryz.isAgg4, z4 := Tryz.sizeOf4, v4 := Tryz.zeroValue4, t5 := Tryz.underlying5, a5 := Tryz.isAgg5, z5 := Tryz.sizeOf5, v5 := Tryz.zeroValue5, t9 := Tryz.underlying9, a9 := Tryz.isAgg9, z9 := Tryz.sizeOf9, v9 := Tryz.zeroValue9, t20 := Tryz.underlying20, a20 := Tryz.isAgg20, z20 := Tryz.sizeOf20, v20 := Tryz.zeroValue20, t37 := Tryz.underlying47, a37 := Tryz.isAgg47, z37 := Tryz.sizeOf47, v37 := Tryz.zeroValue47, t46 := Tryz.underlying234, a46 := Tryz.isAgg234, z46 := Tryz.sizeOf234, v46 := Tryz.zeroValue234, t51 := Tryz.underlying242, a51 := Tryz.isAgg242, z51 := Tryz.sizeOf242, v51 := Tryz.zeroValue242, t53 := Tryz.underlying214, a53 := Tryz.isAgg214, z53 := Tryz.sizeOf214, v53 := Tryz.zeroValue214, t171 := Tryz.underlying213, a171 := Tryz.isAgg213, z171 := Tryz.sizeOf213, v171 := Tryz.zeroValue213, t173 := Tryz.underlying217, a173 := Tryz.isAgg217, z173 := Tryz.sizeOf217, v173 := Tryz.zeroValue217, t212 := Tryz.underlying241, a212 := Tryz.isAgg241, z212 := Tryz.sizeOf241, v212 := Tryz.zeroValue241, t213 := Tryz.underlying243, a213 := Tryz.isAgg243, z213 := Tryz.sizeOf243, t232 := Tryz.underlying261, a232 := Tryz.isAgg261, z232 := Tryz.sizeOf261, v232 := Tryz.zeroValue261, t233 := Tryz.underlying262, a233 := Tryz.isAgg262, z233 := Tryz.sizeOf262, v233 := Tryz.zeroValue262, g17 := by kernel_rfl, g18 := by kernel_rfl, g19 := by kernel_rfl, i0 := by kernel_rfl, i2 := by kernel_rfl, i3 := by kernel_rfl, i4 := by kernel_rfl, i5 := by kernel_rfl, i9 := by kernel_rfl, i20 := by kernel_rfl, i37 := by kernel_rfl, i46 := by kernel_rfl, i51 := by kernel_rfl, i53 := by kernel_rfl, i171 := by kernel_rfl, i173 := by kernel_rfl, i212 := by kernel_rfl, i232 := by kernel_rfl, i233 := by kernel_rfl, m17 := by kernel_rfl, m18 := by kernel_rfl, m19 := by kernel_rfl }
theorem Hr (N : Nat) (p0 p1 : Int) (r : ByteArray) (h : Fq N p0 p1 = some r) : Ar zA 125 [iD p0, iD p1] [] (pD (.val (.string r))) := by
 obtain ⟨h1, h⟩ := HG h
 subst h1
 exact Py Uj (g := Q8.g 17) (by kernel_rfl) h
theorem O6 (N : Nat) (p0 : Ab) (r : ByteArray) (h : E5 N p0 = some r) : Ar zA 88 [.e (.agg (AP p0))] [] (pD (.val (.string r))) := by
 unfold E5 at h
 refine cw (n := 29) (rs := [.tmp 2]) Tryz.func88 fun w0 S0 => ?_
 refine wq rfl (qb rfl (qa rfl (Ac (wq rfl (qf Hs rfl (ql HW rfl ?_))))))
 refine BS h fun v1 a1 h => Av [] (Hr N p0.fi 10 v1 a1) U1 rfl ?_
 refine Iq h fun c2 h => EP (.p rfl) rfl rfl (Gs _ _ _ _ c2) rfl ?_
 refine qf Cg rfl (ql A4 rfl ?_)
 refine BS h fun v3 a3 h => Av [] (Kq N p0.fa v3 a3) U2 rfl ?_
 refine Iq h fun c4 h => EP (.p rfl) rfl rfl (Gs _ _ _ _ c4) rfl ?_
 refine qa rfl (AH (by kernel_rfl) (wp rfl (qL Fe CG rfl ?_)))
 refine BS h fun v5 a5 h => Av [2001] (I7 N p0 v5 a5) Vj rfl (QU Cv rfl (qm rfl (Ac ?_)))
 refine A0 (L := Fx N v5) h (fun v6 => mk [(3, pD (.val (.string v6.1))), (15, oD (.own 2002)), (16, iD ((v5.length : Int))), (17, iD v6.2)] [(2002, .vec 1 (v5.map As))]) (fun v7 => mk [(3, pD (.val (.string v7)))] []) (fun _ _ => rfl) (sm [(2002, 2001)] _ _ rfl rfl) (fun j6 n6 v6 h => ?_) (fun v7 s h hs => ?_)
 ·unfold Fx at h
  refine wq rfl (A1 rfl (Ac (AT ?_)))
  refine Bg h (fun h => ?_) fun h => ?_
  ·refine Ap (AT (AU (wq rfl ?_)))
   refine BU h fun v9 a9 b9 h => qI Cv I2 a9 (Ah b9) rfl (qj HW (Ah b9) rfl (qa rfl (Ac (Aj Ax rfl (qw 2 rfl ?_)))))
   refine BS h fun v10 a10 h => Av [] (Hr N v9 10 v10 a10) U1 rfl ?_
   refine Iq h fun c11 h => EP (.p rfl) rfl rfl (Gs _ _ _ _ c11) rfl ?_
   refine Iq h fun c12 h => EP (.p rfl) rfl rfl (Gs _ _ _ _ c12) rfl ?_
   refine qa rfl (Ac (Aj Ax rfl (Ch rfl (qm rfl (Ac ?_)))))
   exact sn [] h
  ·refine BT ?_
   exact sn [] h
 ·refine Ae hs (wq rfl (qm rfl ?_))
  refine Iq h fun c13 h => EP (.p rfl) rfl rfl (Gs _ _ _ _ c13) rfl ?_
  refine qa rfl (Ac ?_)
  obtain rfl := sj h
  refine Ae (sm [] [(2, pD (.val (.string ((v7 ++ (⟨#[10]⟩ : ByteArray))))))] [] rfl rfl) (Aq ?_)
  exact ⟨⟨[_], tm, rfl⟩, tv⟩
def SI : Go.Shelf.Ren := ⟨fun | 166 => 87 | 240 => 124 | 276 => 158 | n => n, fun | 0 => 0 | 3 => 3 | 4 => 4 | 5 => 5 | 9 => 9 | 37 => 47 | 70 => 140 | 72 => 142 | 75 => 144 | 80 => 149 | 164 => 211 | n => n, fun n => n⟩
theorem VJ : Lays.n166 zA SI := { mixed := Ax, f166 := Tryz.func87.trans (congrArg some (by kernel_rfl)), f240 := Tryz.func124.trans (congrArg some (by kernel_rfl)), f276 := Tryz.func158.trans (congrArg some (by kernel_rfl)), t0 := Tryz.underlying0, a0 := Tryz.isAgg0, z0 := Tryz.sizeOf0, v0 := Tryz.zeroValue0, t3 := Tryz.underlying3, a3 := Tryz.isAgg3, z3 := Tryz.sizeOf3, v3 := Tryz.zeroValue3, t4 := Tryz.underlying4, a4 := Tryz.isAgg4, z4 := Tryz.sizeOf4, v4 := Tryz.zeroValue4, t9 := Tryz.underlying9, a9 := Tryz.isAgg9, z9 := Tryz.sizeOf9, v9 := Tryz.zeroValue9, t20 := Tryz.underlying20, a20 := Tryz.isAgg20, z20 := Tryz.sizeOf20, v20 := Tryz.zeroValue20, t37 := Tryz.underlying47, a37 := Tryz.isAgg47, z37 := Tryz.sizeOf47, v37 := Tryz.zeroValue47, t70 := Tryz.underlying140, a70 := Tryz.isAgg140, z70 := Tryz.sizeOf140, v70 := Tryz.zeroValue140, t72 := Tryz.underlying142, a72 := Tryz.isAgg142, z72 := Tryz.sizeOf142, v72 := Tryz.zeroValue142, t75 := Tryz.underlying144, a75 := Tryz.isAgg144, z75 := Tryz.sizeOf144, v75 := Tryz.zeroValue144, t164 := Tryz.underlying211, a164 := Tryz.isAgg211, z164 := Tryz.sizeOf211, v164 := Tryz.zeroValue211 }
def Tt : Go.Shelf.Ren := ⟨fun | 169 => 90 | n => n, fun | 0 => 0 | 3 => 3 | 5 => 5 | 9 => 9 | 37 => 47 | 70 => 140 | 72 => 142 | 127 => 180 | n => n, fun n => n⟩
theorem Vt : Lays.n169 zA Tt := { mixed := Ax, f169 := Tryz.func90.trans (congrArg some (by kernel_rfl)), t0 := Tryz.underlying0, a0 := Tryz.isAgg0, z0 := Tryz.sizeOf0, v0 := Tryz.zeroValue0, t3 := Tryz.underlying3, a3 := Tryz.isAgg3, z3 := Tryz.sizeOf3, v3 := Tryz.zeroValue3, t9 := Tryz.underlying9, a9 := Tryz.isAgg9, z9 := Tryz.sizeOf9, v9 := Tryz.zeroValue9, t37 := Tryz.underlying47, a37 := Tryz.isAgg47, z37 := Tryz.sizeOf47, v37 := Tryz.zeroValue47, t70 := Tryz.underlying140, a70 := Tryz.isAgg140, z70 := Tryz.sizeOf140, v70 := Tryz.zeroValue140, t72 := Tryz.underlying142, a72 := Tryz.isAgg142, z72 := Tryz.sizeOf142, v72 := Tryz.zeroValue142, t127 := Tryz.underlying180, a127 := Tryz.isAgg180, z127 := Tryz.sizeOf180, v127 := Tryz.zeroValue180 }
def VA : Go.Shelf.Ren := ⟨fun | 170 => 89 | n => n, fun | 0 => 0 | 3 => 3 | 5 => 5 | 37 => 47 | 70 => 140 | 72 => 142 | n => n, fun n => n⟩
theorem Vu : Lays.n170 zA VA := { mixed := Ax, f170 := Tryz.func89.trans (congrArg some (by kernel_rfl)), t0 := Tryz.underlying0, a0 := Tryz.isAgg0, z0 := Tryz.sizeOf0, v0 := Tryz.zeroValue0, t3 := Tryz.underlying3, a3 := Tryz.isAgg3, z3 := Tryz.sizeOf3, v3 := Tryz.zeroValue3, t37 := Tryz.underlying47, a37 := Tryz.isAgg47, z37 := Tryz.sizeOf47, v37 := Tryz.zeroValue47, t70 := Tryz.underlying140, a70 := Tryz.isAgg140, z70 := Tryz.sizeOf140, v70 := Tryz.zeroValue140, t72 := Tryz.underlying142, a72 := Tryz.isAgg142, z72 := Tryz.sizeOf142, v72 := Tryz.zeroValue142 }
theorem Wh : Builder.Extra zA SI where
 sizeBuilder := by kernel_rfl
 liesBuilder := by kernel_rfl
 t5 := Tryz.underlying5
 a5 := Tryz.isAgg5
 z5 := Tryz.sizeOf5
 v5 := Tryz.zeroValue5
 infoByte := by kernel_rfl
 cellsByte := by kernel_rfl
 sizeByte := by kernel_rfl
 neB5 := by decide
theorem XB : Builder.Extra zA Tt where
 sizeBuilder := by kernel_rfl
 liesBuilder := by kernel_rfl
 t5 := Tryz.underlying5
 a5 := Tryz.isAgg5
 z5 := Tryz.sizeOf5
 v5 := Tryz.zeroValue5
 infoByte := by kernel_rfl
 cellsByte := by kernel_rfl
 sizeByte := by kernel_rfl
 neB5 := by decide
theorem Yy (B b : Nat) (bs : List Value) (s : ByteArray) (w : World) (h : Lib.IsBuilder 142 5 B b bs w) (hlen : bs.length + s.size ≤ 140737488355328) (hBw : B ≤ w.heap.size) :
  Calls zA 87 #[.pointer (some ⟨b, 0, none⟩), .string s] w fun e w' => e = .returned (.tuple #[.int .i64 s.size, .nilIface]) ∧ (Lib.BuilderAt 142 5 B b (.pointer (some ⟨b, 0, none⟩)) (bs ++ Lib.strCells s) w' ∧ Below B w w') := Any.Builder_WriteString VJ Wh B b bs s w h hlen hBw
theorem Yl (B b : Nat) (bs : List Value) (w : World) (h : Lib.IsBuilder 142 5 B b bs w) : Calls zA 89 #[.pointer (some ⟨b, 0, none⟩)] w fun e w' => e = .returned (.int .i64 bs.length) ∧ w' = w := Any.Builder_Len Vu B b bs w h
theorem Yi (B b : Nat) (l : List UInt8) (w : World) (h : Lib.IsBuilder 142 5 B b (Lib.byteCells l) w) (hBw : B ≤ w.heap.size) :
  Calls zA 90 #[.pointer (some ⟨b, 0, none⟩)] w fun e w' => e = .returned (.string ⟨l.toArray⟩) ∧ Below B w w' := Any.Builder_String_any Vt XB B b l w h hBw
def UE (x : Ab) : Array Value := #[.int .i64 x.fi, .int .i64 x.fa, .int .i64 x.fD, .int .i64 x.fE, .int .i64 x.fK, .int .i64 x.fm, .int .i64 x.fu, .int .i64 x.fI, .int .i64 x.fv, .int .i64 x.fr, .int .i64 x.fO]
set_option maxRecDepth 1000000 in
theorem PP (n : Nat) (a : Option Addr) (cap : Nat) (ve : Int) (hve : ve ≠ 0) (w : World)
  (hval : Calls zA 43 #[.slice a n cap] w fun e w' => e = .returned (.int .i64 ve) ∧ Below w.heap.size w w') :
  Calls zA 44 #[.slice a n cap] w fun e w' => e = .returned (.tuple #[.string ⟨#[]⟩, .int .i64 ve]) ∧ Below w.heap.size w w' := by
 have e43 : ∀ args w, (callFunc 43 args).run zA w = .ok (.enter 43 args) w := fun _ _ => by kernel_rfl
 have hb : (ve != 0) = true := bne_iff_ne.2 hve
 go_enter Tryz.func44, Tryz.ntmps44
 go_wp2_with (go_at_fn 43; refine hval.mono ?_; rintro e w' ⟨rfl, hw⟩)
 go_ret2
 exact ⟨rfl, hw⟩
set_option maxHeartbeats 2000000 in
set_option maxRecDepth 1000000 in
theorem Ru (ps : List Ab) (line : Ab → Option ByteArray) (a : Option Addr) (ab : Nat) (ao : Nat → Nat) (cap : Nat) (w : World) (r : ByteArray) (res : Value)
  (hval : Calls zA 43 #[.slice a ps.length cap] w fun e w' => e = .returned (.int .i64 0) ∧ Below w.heap.size w w')
  (hix : ∀ (i : Nat) x, ps[i]? = some x → ∀ W, Below w.heap.size w W → (Instr.indexAt 27 (.slice a ps.length cap) (.int .i64 (i : Int))).run zA W = .ok (.pointer (some ⟨ab, ao i, none⟩)) W ∧ ∀ (j : Nat) v, (UE x)[j]? = some v → W.cell? ⟨ab, ao i + j, none⟩ = some v)
  (hline : ∀ x s, x ∈ ps → line x = some s → ∀ W, Below w.heap.size w W → Calls zA 88 #[.agg (UE x)] W fun e w' => e = .returned (.string s) ∧ Below W.heap.size W w')
  (hn : ps.length ≤ 1000000) (hr : Ep line ps ⟨#[]⟩ = some r) (h1 : r.size ≤ 65536 → res = .tuple #[.string r, .int .i64 0]) (h2 : 65536 < r.size → res = .tuple #[.string ⟨#[]⟩, .int .i64 3]) :
  Calls zA 44 #[.slice a ps.length cap] w fun e w' => e = .returned res ∧ Below w.heap.size w w' := by
 have e43 : ∀ args w, (callFunc 43 args).run zA w = .ok (.enter 43 args) w := fun _ _ => by kernel_rfl
 have e88 : ∀ args w, (callFunc 88 args).run zA w = .ok (.enter 88 args) w := fun _ _ => by kernel_rfl
 have e87 : ∀ args w, (callFunc 87 args).run zA w = .ok (.enter 87 args) w := fun _ _ => by kernel_rfl
 have e89 : ∀ args w, (callFunc 89 args).run zA w = .ok (.enter 89 args) w := fun _ _ => by kernel_rfl
 have e90 : ∀ args w, (callFunc 90 args).run zA w = .ok (.enter 90 args) w := fun _ _ => by kernel_rfl
 go_enter Tryz.func44, Tryz.ntmps44
 go_wp2_with (go_at_fn 43; refine hval.mono ?_; rintro e w' ⟨rfl, hw⟩)
 clear hval
 go_loopg [15] ps.length (fun g s15 wx => ∃ (q : Nat) (c : ByteArray), q + g = ps.length ∧ s15 = .int .i64 (q : Int) ∧ Ep line (ps.drop q) c = some r ∧ Lib.IsBuilder 142 5 w.heap.size w'.heap.size (Lib.strCells c) wx ∧ Below w.heap.size w wx)
 case atStart =>
  refine ⟨0, ⟨#[]⟩, by omega, rfl, hr, ?_, ?_⟩
  ·obtain ⟨_, v, f1, f2, f3⟩ | ⟨_, v, f1, f2, f3⟩ := Lib.fresh_isBuilder 142 5 w'
   ·exact .inl ⟨hw.size, v, f1, f2.mono hw.size, f3⟩
   ·exact .inr ⟨hw.size, v, f1, f2.mono hw.size, f3⟩
  ·exact hw.alloc hw.size _
 case round =>
  obtain ⟨q, c, h3, rfl, h4, h5, h6⟩ := hrel
  cases gk with
  | zero =>
   have hq : q = ps.length := by omega
   subst hq
   rw [List.drop_length] at h4
   have h4 : c = r := sj h4
   subst h4
   have cLen := Yl _ _ _ wr h5
   rw [Lib.strCells_length] at cLen
   have cStr := Yi w.heap.size w'.heap.size c.data.toList wr h5 h6.size
   have hnl : ¬ ((ps.length : Int) < (ps.length : Int)) := by omega
   by_cases hs : (65536 : Int) < (c.size : Int)
   ·go_wp2_with (go_at_fn 89; refine cLen.mono ?_; rintro e W1 ⟨rfl, hW⟩; rw [hW])
    go_ret2
    exact ⟨(congrArg Ending.returned (h2 (by omega))).symm, h6⟩
   ·go_wp2_with (first | (go_at_fn 89; refine cLen.mono ?_; rintro e W1 ⟨rfl, hW⟩; rw [hW]) | (go_at_fn 90; refine cStr.mono ?_; rintro e W2 ⟨rfl, b2⟩))
    go_ret2
    exact ⟨(congrArg Ending.returned (h1 (by omega))).symm, h6.trans b2⟩
  | succ g =>
   have hql : q < ps.length := by omega
   have hx : ps[q]? = some ps[q] := by simp [hql]
   obtain ⟨i1, i2⟩ := hix q _ hx wr h6
   rw [List.drop_eq_getElem_cons hql, Ep] at h4
   obtain ⟨s, hs, h4⟩ := bind_some h4
   obtain ⟨hc, h4⟩ := HG h4
   have hnl : ((q : Int) < (ps.length : Int)) := by omega
   have c0 : wr.cell? ⟨ab, ao q, none⟩ = some (.int .i64 ps[q].fi) := i2 0 _ rfl
   have c1 : wr.cell? ⟨ab, ao q + 1, none⟩ = some (.int .i64 ps[q].fa) := i2 1 _ rfl
   have c2 : wr.cell? ⟨ab, ao q + 2, none⟩ = some (.int .i64 ps[q].fD) := i2 2 _ rfl
   have c3 : wr.cell? ⟨ab, ao q + 3, none⟩ = some (.int .i64 ps[q].fE) := i2 3 _ rfl
   have c4 : wr.cell? ⟨ab, ao q + 4, none⟩ = some (.int .i64 ps[q].fK) := i2 4 _ rfl
   have c5 : wr.cell? ⟨ab, ao q + 5, none⟩ = some (.int .i64 ps[q].fm) := i2 5 _ rfl
   have c6 : wr.cell? ⟨ab, ao q + 6, none⟩ = some (.int .i64 ps[q].fu) := i2 6 _ rfl
   have c7 : wr.cell? ⟨ab, ao q + 7, none⟩ = some (.int .i64 ps[q].fI) := i2 7 _ rfl
   have c8 : wr.cell? ⟨ab, ao q + 8, none⟩ = some (.int .i64 ps[q].fv) := i2 8 _ rfl
   have c9 : wr.cell? ⟨ab, ao q + 9, none⟩ = some (.int .i64 ps[q].fr) := i2 9 _ rfl
   have c10 : wr.cell? ⟨ab, ao q + 10, none⟩ = some (.int .i64 ps[q].fO) := i2 10 _ rfl
   clear i2 hix
   have bA : Below w.heap.size w (wr.alloc (.cells (UE ps[q]) 37)) := h6.alloc h6.size _
   have bW : Below wr.heap.size wr (wr.alloc (.cells (UE ps[q]) 37)) := (Below.refl _ _).alloc (yY _) _
   have cL := hline ps[q] s (yR hql) hs _ bA
   go_wp2_with (go_at_fn 88; refine cL.mono ?_; rintro e W1 ⟨rfl, b1⟩)
   have bB : Below wr.heap.size wr W1 := bW.trans (b1.mono bW.size)
   have bC : Below w.heap.size w W1 := bA.trans (b1.mono bA.size)
   have cW := Yy w.heap.size w'.heap.size (Lib.strCells c) s W1 (Si h5 bB) (by rw [Lib.strCells_length]; exact hc) bC.size
   go_wp2_with (go_at_fn 87; refine cW.mono ?_; rintro e W2 ⟨rfl, h7, b2⟩)
   go_roundg g
   case measure => omega
   case rel =>
    refine ⟨q + 1, c ++ s, by omega, ?_, h4, .inr ?_, bC.trans b2⟩
    ·rfl
    ·have e : Lib.strCells (c ++ s) = Lib.strCells c ++ Lib.strCells s := by
      rw [Lib.strCells_eq, Lib.strCells_eq, Lib.strCells_eq, ← Lib.byteCells_append, ByteArray.data_append, Array.toList_append]
     rw [e]; exact h7
theorem TJ {w : World} {S : Nat → Prop} (x : Ab) : Gd zA w (G0 S) (.agg (UE x)) (.e (.agg ((Aw x).map C.pure))) := by
 refine ⟨UE x, rfl, rfl, fun j c hj => ?_⟩
 match j, hj with
 | 0, hj | 1, hj | 2, hj | 3, hj | 4, hj | 5, hj | 6, hj | 7, hj | 8, hj | 9, hj | 10, hj => cases hj; exact CL.val _ rfl
 | j + 11, hj => simp [Aw] at hj
theorem MZ (N : Nat) (p0 : List Ab) (r : ByteArray × Int) (h : I0 N p0 = some r) : Ar zA 44 [pD (.sl (p0.map Aw))] [] (.tup [.one (.pure (.val (.string r.1))), .one (iC r.2)]) := by
 intro w S vs hS hgk hlen hrd
 have h0 : CL w S (Au vs 0) (.sl (p0.map Aw)) := hrd 0 _ rfl
 have hvs : vs = #[Au vs 0] := by
  have h2 : vs.size = 1 := hlen
  apply Array.ext (by simp [h2])
  intro i h1 _
  have : i = 0 := by omega
  subst this; simp [Au, h1]
 obtain ⟨hn, h⟩ := HG h
 obtain ⟨ve, hve, h⟩ := bind_some h
 -- the result, from its two cells
 have fin : ∀ {e : Ending} {w' : World}, e = .returned (.tuple #[.string r.1, .int .i64 r.2]) ∧ Below w.heap.size w w' → ∃ v G', e = .returned v ∧ Tu w.heap.size w w' ∧ (∀ β, S β → G'.S β) ∧ (∀ β, G'.S β → S β ∨ (w.heap.size ≤ β ∧ β < w'.heap.size)) ∧ Gd zA w' G' v (.tup [.one (.pure (.val (.string r.1))), .one (iC r.2)]) ∧
   (∀ (k : Nat) (x : Nat × List (List T)), ([] : List (Nat × List (List T)))[k]? = some x → Ev zA w' G' k (.vec x.1 x.2)) ∧
   (∀ k β, k < ([] : List (Nat × List (List T))).length → G'.has k β → w.heap.size ≤ β ∧ β < w'.heap.size ∧ ¬ G'.S β) ∧
   (∀ k l β, k < ([] : List (Nat × List (List T))).length → l < ([] : List (Nat × List (List T))).length → G'.has k β → G'.has l β → k = l) := by
  rintro e w' ⟨rfl, hb⟩
  refine ⟨_, G0 S, rfl, ⟨hb, fun h => by cases h⟩, fun _ h => h, fun _ h => .inl h, ⟨#[.string r.1, .int .i64 r.2], rfl, rfl, fun j x hj => ?_⟩, fun i x hi => by simp at hi, fun i β hi => by simp at hi, fun i l β hi => by simp at hi⟩
  match j, hj with
  | 0, hj => cases hj; exact CL.val _ rfl
  | 1, hj => cases hj; exact CL.val _ rfl
  | j + 2, hj => simp at hj
 rw [hvs]
 -- the call of Valid
 have cV : Calls zA 43 #[Au vs 0] w fun e w' => e = .returned (.int .i64 ve) ∧ Below w.heap.size w w' := by
  refine (E2 N p0 ve hve w S #[Au vs 0] hS hgk rfl (fun j d hj => ?_)).mono ?_
  ·match j, hj with
   | 0, hj => cases hj; exact h0
   | j + 1, hj => simp at hj
  ·rintro e w' ⟨v, G', rfl, hb, _, _, hv, _⟩
   have : v = .int .i64 ve := C9 (hv : CL w' G'.S v (.val _))
   exact ⟨by rw [this], hb.toBelow⟩
 have hl : ∀ x s, x ∈ p0 → E5 N x = some s → ∀ W, Below w.heap.size w W → Calls zA 88 #[.agg (UE x)] W fun e w' => e = .returned (.string s) ∧ Below W.heap.size W w' := by
  intro x s _ hs W hW
  refine (O6 N x s hs W S #[.agg (UE x)] (fun β hβ => Nat.lt_of_lt_of_le (hS β hβ) hW.size) (hgk.mono (fun β hβ => hW.block β (hS β hβ)) (fun _ h => h)) rfl (fun j d hj => ?_)).mono ?_
  ·match j, hj with
   | 0, hj => cases hj; exact TJ x
   | j + 1, hj => simp at hj
  ·rintro e w' ⟨v, G', rfl, hb, _, _, hv, _⟩
   have : v = .string s := C9 (hv : CL w' G'.S v (.val _))
   exact ⟨by rw [this], hb.toBelow⟩
 generalize hv0 : Au vs 0 = v0 at h0 cV
 obtain ⟨rows, hrows⟩ : ∃ rows, p0.map Aw = rows := ⟨_, rfl⟩
 rw [hrows] at h0
 have hrl : rows.length = p0.length := by rw [← hrows, zY]
 by_cases hz : ve = 0
 ·subst hz
  have h := Q2 rfl h
  obtain ⟨s, hs, h⟩ := bind_some h
  have r1 : s.size ≤ 65536 → (Value.tuple #[.string r.1, .int .i64 r.2] : Value) = .tuple #[.string s, .int .i64 0] := fun hq => by
   have h := Q2 (decide_eq_false (by omega)) h; cases h; rfl
  have r2 : 65536 < s.size → (Value.tuple #[.string r.1, .int .i64 r.2] : Value) = .tuple #[.string ⟨#[]⟩, .int .i64 3] := fun hq => by
   have h := Rr (decide_eq_true hq) h; cases h; rfl
  cases h0 with
  | nil a cap =>
   obtain rfl := uF.1 hrows
   exact (Ru [] (fun x => E5 N x) a 0 (fun _ => 0) cap w s _ cV (fun i x hx => by simp at hx) (fun x s hx => by cases hx) (zQ _) hs r1 r2).mono fun e w' hh => fin hh
  | sl β off cap e arr el fz rows k1 k2 k3 k4 k5 k6 =>
   rw [hrl] at cV ⊢
   refine (Ru p0 (fun x => E5 N x) (some ⟨β, off, none⟩) β (fun i => off + i * 11) cap w s _ cV (fun i x hx W hW => ?_) hl hn hs r1 r2).mono fun e w' hh => fin hh
   have hrow : rows[i]? = some (Aw x) := by rw [← hrows, zF, hx]; rfl
   have he : e = 11 := (k5 i _ hrow).symm
   subst he
   have hil : i < p0.length := AE hx
   have hbnd : i * 11 + 11 ≤ p0.length * 11 := by omega
   rw [hrl] at k4
   refine ⟨Jp DB CG (by omega) (by simpa using hil), fun j v hj => ?_⟩
   have hWb : W.heap[β]? = some (.cells arr el fz) := by rw [hW.block β (hS β k1)]; exact k2
   have hjt : (Aw x)[j]? = some (.val v) ∧ j < 11 := by
    match j, hj with
    | 0, hj | 1, hj | 2, hj | 3, hj | 4, hj | 5, hj | 6, hj | 7, hj | 8, hj | 9, hj | 10, hj => cases hj; exact ⟨rfl, by decide⟩
    | j + 11, hj => simp [UE] at hj
   have hv : Au arr (off + i * 11 + j) = v := C9 (k6 i _ j _ hrow hjt.1)
   have hjl := hjt.2
   simp only [World.cell?, hWb]
   rw [H9 (by omega), hv]; rfl
 ·have hb : (ve != 0) = true := bne_iff_ne.2 hz
  have h := Rr hb h
  cases h
  cases h0 with
  | nil a cap => exact (PP _ a cap ve hz w cV).mono fun e w' hh => fin hh
  | sl β off cap e arr el fz rows k1 k2 k3 k4 k5 k6 => exact (PP _ _ cap ve hz w cV).mono fun e w' hh => fin hh
theorem Ox (N : Nat) (p0 : Int) (r : ByteArray) (h : Ip N p0 = some r) : Ar zA 45 [iD p0] [] (pD (.val (.string r))) := by
 unfold Ip at h
 refine cw (n := 7) (rs := [.tmp 2]) Tryz.func45 fun w0 S0 => ?_
 refine wq rfl (qa rfl (Ac (wq rfl (F8 UO XI YB rfl (qm rfl ?_)))))
 refine BU h fun v1 a1 b1 h => PQ (.p rfl) rfl rfl rfl UO XI a1 (Ah (f := eS) b1) ?_
 refine PR (.p rfl) rfl Ys rfl (Ah (f := eS) b1) rfl ?_
 refine qa rfl (Ac ?_)
 obtain rfl := sj h
 refine Ae (sm [] [(2, pD (.val (.string v1)))] [] rfl rfl) (Aq ?_)
 exact ⟨⟨[_], tm, rfl⟩, tv⟩
def S1 : Go.Shelf.Ren := ⟨fun | 129 => 182 | 171 => 46 | 243 => 91 | 246 => 126 | 283 => 159 | 284 => 160 | 285 => 161 | 286 => 162 | 317 => 181 | 318 => 183 | 319 => 184 | 320 => 185 | 337 => 194 | 338 => 195 | n => n, fun | 0 => 0 | 2 => 2 | 3 => 3 | 4 => 4 | 5 => 5 | 9 => 9 | 20 => 20 | 37 => 47 | 46 => 234 | 51 => 242 | 53 => 214 | 171 => 213 | 173 => 217 | 212 => 241 | 213 => 243 | 232 => 261 | 233 => 262 | n => n, fun | 17 => 0 | 18 => 1 | 19 => 2 | n => n⟩
theorem VR : LaysM.n171 zA S1 := { mixed := Ax, f129 := Tryz.func182.trans (congrArg some (by kernel_rfl)), f171 := Tryz.func46.trans (congrArg some (by kernel_rfl)), f243 := Tryz.func91.trans (congrArg some (by kernel_rfl)), f246 := Tryz.func126.trans (congrArg some (by kernel_rfl)), f283 := Tryz.func159.trans (congrArg some (by kernel_rfl)), f284 := Tryz.func160.trans (congrArg some (by kernel_rfl)), f285 := Tryz.func161.trans (congrArg some (by kernel_rfl)), f286 := Tryz.func162.trans (congrArg some (by kernel_rfl)), f317 := Tryz.func181.trans (congrArg some (by kernel_rfl)), f318 := Tryz.func183.trans (congrArg some (by kernel_rfl)), f319 := Tryz.func184.trans (congrArg some (by kernel_rfl)), f320 := Tryz.func185.trans (congrArg some (by kernel_rfl)), f337 := Tryz.func194.trans (congrArg some (by kernel_rfl)), f338 := Tryz.func195.trans (congrArg some (by kernel_rfl)), t0 := Tryz.underlying0, a0 := Tryz.isAgg0, z0 := Tryz.sizeOf0, v0 := Tryz.zeroValue0, t2 := Tryz.underlying2, a2 := Tryz.isAgg2, z2 := Tryz.sizeOf2, v2 := Tryz.zeroValue2, t3 := Tryz.underlying3, a3 := Tryz.isAgg3, z3 := Tryz.sizeOf3, v3 := Tryz.zeroValue3, t4 := Tryz.underlying4, a4 := Tryz.isAgg4, z4 := Tryz.sizeOf4, v4 := Tryz.zeroValue4, t5 := Tryz.underlying5, a5 := Tryz.isAgg5, z5 := Tryz.sizeOf5, v5 := Tryz.zeroValue5, t9 := Tryz.underlying9, a9 := Tryz.isAgg9, z9 := Tryz.sizeOf9, v9 := Tryz.zeroValue9, t20 := Tryz.underlying20, a20 := Tryz.isAgg20, z20 := Tryz.sizeOf20, v20 := Tryz.zeroValue20, t37 := Tryz.underlying47, a37 := Tryz.isAgg47, z37 := Tryz.sizeOf47, v37 := Tryz.zeroValue47, t46 := Tryz.underlying234, a46 := Tryz.isAgg234, z46 := Tryz.sizeOf234, v46 := Tryz.zeroValue234, t51 := Tryz.underlying242, a51 := Tryz.isAgg242, z51 := Tryz.sizeOf242, v51 := Tryz.zeroValue242, t53 := Tryz.underlying214, a53 := Tryz.isAgg214, z53 := Tryz.sizeOf214, v53 := Tryz.zeroValue214, t171 := Tryz.underlying213, a171 := Tryz.isAgg213, z171 := Tryz.sizeOf213, v171 := Tryz.zeroValue213, t173 := Tryz.underlying217, a173 := Tryz.isAgg217, z173 := Tryz.sizeOf217, v173 := Tryz.zeroValue217, t212 := Tryz.underlying241, a212 := Tryz.isAgg241, z212 := Tryz.sizeOf241, v212 := Tryz.zeroValue241, t213 := Tryz.underlying243, a213 := Tryz.isAgg243, z213 := Tryz.sizeOf243, t232 := Tryz.underlying261, a232 := Tryz.isAgg261, z232 := Tryz.sizeOf261, v232 := Tryz.zeroValue261, t233 := Tryz.underlying262, a233 := Tryz.isAgg262, z233 := Tryz.sizeOf262, v233 := Tryz.zeroValue262, g17 := by kernel_rfl, g18 := by kernel_rfl, g19 := by kernel_rfl, i0 := by kernel_rfl, i2 := by kernel_rfl, i3 := by kernel_rfl, i4 := by kernel_rfl, i5 := by kernel_rfl, i9 := by kernel_rfl, i20 := by kernel_rfl, i37 := by kernel_rfl, i46 := by kernel_rfl, i51 := by kernel_rfl, i53 := by kernel_rfl, i171 := by kernel_rfl, i173 := by kernel_rfl, i212 := by kernel_rfl, i232 := by kernel_rfl, i233 := by kernel_rfl, m17 := by kernel_rfl, m18 := by kernel_rfl, m19 := by kernel_rfl }
theorem Mm (N : Nat) (p0 : Int) (r : ByteArray) (h : IY N p0 = some r) : Ar zA 46 [iD p0] [] (pD (.val (.string r))) := VO VR (g := S1.g 17) (by kernel_rfl) h
theorem Gq (N : Nat) (p0 : ByteArray) (p1 : ByteArray) (r : Bool) (h : Dc N p0 p1 = some r) : Ar zA 127 [pD (.val (.string p0)), pD (.val (.string p1))] [] (bD r) := by
 unfold Dc at h
 refine cw (n := 21) (rs := [.tmp 4]) Tryz.func127 fun w0 S0 => ?_
 refine wq rfl (qe rfl ?_)
 refine AM h (fun v1 => mk [(4, bD v1)] []) (fun j1 h => ?_) (fun v1 h => ?_)
 ·refine Aj Ax rfl (qm rfl ?_)
  refine K5 (.p rfl) rfl O9 ?_
  refine qm rfl ?_
  refine K5 (.p rfl) rfl O9 ?_
  refine Dt rfl (qm rfl ?_)
  refine Ce 10 h rfl (fun h => ?_) fun h => ?_
  ·refine qw 2 rfl ?_
   refine K5 (.g rfl rfl) rfl O9 ?_
   refine qm rfl ?_
   refine K5 (.g rfl rfl) rfl O9 ?_
   refine Lo rfl ?_
   refine Iq h fun c3 h => P5 (.g rfl rfl) rfl O9 (.some _ _ _ _ c3.1) (.none _) ⟨rfl, tv⟩ tv c3.2.1 c3.2.2 ?_
   refine qm rfl ?_
   refine EP (.g rfl rfl) rfl rfl (MW _ _ _ _) rfl ?_
   refine qp rfl (qe rfl ?_)
   exact sn [] h
  ·refine qw 9 rfl (qp rfl (qe rfl ?_))
   exact sn [] h
 ·obtain rfl := sj h
  refine Ae (sm [] [(4, bD v1)] [] rfl rfl) (Aq ?_)
  exact ⟨⟨[_], tm, rfl⟩, tv⟩
theorem F9 (N : Nat) (p0 : ByteArray) (p1 : ByteArray) (r : ByteArray) (h : CR N p0 p1 = some r) : Ar zA 92 [pD (.val (.string p0)), pD (.val (.string p1))] [] (pD (.val (.string r))) := by
 unfold CR at h
 refine cw (n := 16) (rs := [.tmp 4]) Tryz.func92 fun w0 S0 => ?_
 refine wq rfl (qa rfl (Ac (wp rfl (qw 2 rfl ?_))))
 refine BS h fun v1 a1 h => Av [] (Gq N p0 p1 v1 a1) Wa rfl (Ac ?_)
 refine Bg h (fun h => ?_) fun h => ?_
 ·refine wq rfl (qw 2 rfl ?_)
  refine K5 (.p rfl) rfl O9 ?_
  refine qm rfl ?_
  refine K5 (.p rfl) rfl O9 ?_
  refine Lo rfl ?_
  refine Iq h fun c3 h => P5 (.p rfl) rfl O9 (.none _) (.some _ _ _ _ c3.1) tv ⟨rfl, tv⟩ c3.2.1 c3.2.2 ?_
  refine qa rfl (Ac ?_)
  obtain rfl := sj h
  refine Ae (sm [] [(4, pD (.val (.string ((p0.extract 0 (((wI .i64 ((p0.size : Int) - (p1.size : Int)))).toNat))))))] [] rfl rfl) (Aq ?_)
  exact ⟨⟨[_], tm, rfl⟩, tv⟩
 ·refine Ap (wq rfl (qm rfl (qe rfl ?_)))
  obtain rfl := sj h
  refine Ae (sm [] [(4, pD (.val (.string p0)))] [] rfl rfl) (Aq ?_)
  exact ⟨⟨[_], tm, rfl⟩, tv⟩
theorem Jk (N : Nat) (p0 : ByteArray) (p1 : ByteArray) (r : ByteArray) (h : Fb N p0 p1 = some r) : Ar zA 47 [pD (.val (.string p0)), pD (.val (.string p1))] [] (pD (.val (.string r))) := by
 unfold Fb at h
 refine cw (n := 8) (rs := [.tmp 4]) Tryz.func47 fun w0 S0 => ?_
 refine wq rfl (qa rfl (Ac (wq rfl (qw 2 rfl ?_))))
 refine BS h fun v1 a1 h => Av [] (F9 N p0 p1 v1 a1) Ya rfl (qe rfl ?_)
 obtain rfl := sj h
 refine Ae (sm [] [(4, pD (.val (.string v1)))] [] rfl rfl) (Aq ?_)
 exact ⟨⟨[_], tm, rfl⟩, tv⟩
theorem Mj (N : Nat) (p0 : List Ab) (p1 : Int) (p2 : Int) (r : ByteArray × Int) (h : Hh N p0 p1 p2 = some r) : Ar zA 19 [pD (.sl (p0.map Aw)), iD p1, iD p2] [] (.tup [.one (.pure (.val (.string r.1))), .one (iC r.2)]) := by
 unfold Hh at h
 refine cw (n := 54) (rs := [.tmp 6, .tmp 7]) Tryz.func19 fun w0 S0 => ?_
 refine wq rfl (qa rfl (qa rfl (Ac (wp rfl (qm rfl ?_)))))
 refine BS h fun v1 a1 h => Av [] (E2 N p0 v1 a1) Tz rfl (qa rfl (Ac (wq rfl (qm rfl (Bb rfl (Ac ?_))))))
 refine Bg h (fun h => ?_) fun h => ?_
 ·refine wq rfl (qm rfl (qa rfl (qe rfl ?_)))
  obtain rfl := sj h
  refine Ae (sm [] [(6, pD (.val (.string ((⟨#[]⟩ : ByteArray))))), (7, iD v1)] [] rfl rfl) (Aq ?_)
  exact ⟨⟨[_, _], ⟨.tmp _ _ rfl, tm⟩, rfl⟩, tv⟩
 ·refine Ap (AT (AU ?_))
  refine AM h (fun v3 => mk [(0, pD (.sl (p0.map Aw))), (1, iD p1), (2, iD p2), (16, bD v3)] []) (fun j3 h => ?_) (fun v3 h => ?_)
  ·refine Aj Ax rfl (qm rfl (A1 rfl (qm rfl ?_)))
   refine Ce 19 h rfl (fun h => ?_) fun h => ?_
   ·refine qw 4 rfl (qp rfl (qe rfl ?_))
    exact sn [] h
   ·refine qw 2 rfl (AK DB rfl (Dt rfl (qp rfl (qe rfl ?_))))
    exact sn [] h
  ·refine Bg h (fun h => ?_) fun h => ?_
   ·refine wq rfl (qa rfl (qe rfl ?_))
    obtain rfl := sj h
    refine Ae (sm [] [(6, pD (.val (.string ((⟨#[]⟩ : ByteArray))))), (7, iD 7)] [] rfl rfl) (Aq ?_)
    exact ⟨⟨[_, _], ⟨.tmp _ _ rfl, tm⟩, rfl⟩, tv⟩
   ·refine AM h (fun v6 => mk [(0, pD (.sl (p0.map Aw))), (1, iD p1), (2, iD p2), (25, bD v6)] []) (fun j6 h => ?_) (fun v6 h => ?_)
    ·refine Aj Ax rfl (qm rfl (A1 rfl (qm rfl ?_)))
     refine Ce 28 h rfl (fun h => ?_) fun h => ?_
     ·refine qw 2 rfl (qp rfl (qe rfl ?_))
      exact sn [] h
     ·refine qm rfl (Eu rfl (qp rfl (qe rfl ?_)))
      exact sn [] h
    ·refine Bg h (fun h => ?_) fun h => ?_
     ·refine wq rfl (qa rfl (qe rfl ?_))
      obtain rfl := sj h
      refine Ae (sm [] [(6, pD (.val (.string ((⟨#[]⟩ : ByteArray))))), (7, iD 1)] [] rfl rfl) (Aq ?_)
      exact ⟨⟨[_, _], ⟨.tmp _ _ rfl, tm⟩, rfl⟩, tv⟩
     ·refine Ap (wq rfl (qw 3 rfl (Ch rfl ?_)))
      refine Iq h fun c9 h => L5 (.p rfl) rfl DB CG (IE (f := Aw) (n := 11) (fun _ => rfl) _) (.some _ _ _ _ c9.1) (.some _ _ _ _ c9.2.1) ⟨rfl, tv⟩ ⟨rfl, tv⟩ (by have := c9.2.2.1; (try simp only [zY]); omega) (by have := c9.2.2.2; (try simp only [zY]); omega) (KF Aw p0 _ _ (((wI .i64 (p1 + 1))).toNat - (p1).toNat) rfl) ?_
      refine BS h fun v10 a10 h => Av [] (MZ N (((p0.drop (p1).toNat).take (((wI .i64 (p1 + 1))).toNat - (p1).toNat))) v10 a10) Yh rfl (qm rfl (qx rfl (qx rfl (qa rfl (qa rfl (Ac (wp rfl (qm rfl (Bb rfl (Ac ?_))))))))))
      refine Bg h (fun h => ?_) fun h => ?_
      ·refine wq rfl (qm rfl (qa rfl (qe rfl ?_)))
       obtain rfl := sj h
       refine Ae (sm [] [(6, pD (.val (.string ((⟨#[]⟩ : ByteArray))))), (7, iD v10.2)] [] rfl rfl) (Aq ?_)
       exact ⟨⟨[_, _], ⟨.tmp _ _ rfl, tm⟩, rfl⟩, tv⟩
      ·refine Ap (wq rfl (qm rfl ?_))
       refine BS h fun v12 a12 h => Av [] (Ox N p2 v12 a12) XK rfl ?_
       refine Iq h fun c13 h => EP (.p rfl) rfl rfl (Gs _ _ _ _ c13) rfl ?_
       refine qm rfl ?_
       refine BS h fun v14 a14 h => Av [] (Mm N p1 v14 a14) XU rfl ?_
       refine Iq h fun c15 h => EP (.p rfl) rfl rfl (Gs _ _ _ _ c15) rfl ?_
       refine Iq h fun c16 h => EP (.p rfl) rfl rfl (Gs _ _ _ _ c16) rfl ?_
       refine qm rfl ?_
       refine BS h fun v17 a17 h => Av [] (Jk N v10.1 ((⟨#[10]⟩ : ByteArray)) v17 a17) X8 rfl ?_
       refine Iq h fun c18 h => EP (.p rfl) rfl rfl (Gs _ _ _ _ c18) rfl ?_
       refine qa rfl (qe rfl ?_)
       obtain rfl := sj h
       refine Ae (sm [] [(6, pD (.val (.string (((((v12 ++ (⟨#[32]⟩ : ByteArray)) ++ v14) ++ (⟨#[58, 32]⟩ : ByteArray)) ++ v17))))), (7, iD 0)] [] rfl rfl) (Aq ?_)
       exact ⟨⟨[_, _], ⟨.tmp _ _ rfl, tm⟩, rfl⟩, tv⟩
theorem Hq (N : Nat) (r : Bool) (h : DY N = some r) : Ar zA 11 [] [] (bD r) := by
 unfold DY at h
 refine cw (n := 97) (rs := [.tmp 0]) Tryz.func11 fun w0 S0 => ?_
 refine wq rfl (qa rfl (Ac (wq rfl (F8 AG Db Pa rfl (F8 AG Db Pa rfl (F8 AG Db Pa rfl (Bx Xk X9 rfl (qz Xk rfl (qs Da rfl (Ac (wq rfl (Bx Pd UC rfl (Bx Pd UC rfl (F8 G6 Gr Pd rfl (qa rfl (Ac (wq rfl (Bx Jb RI rfl (Bx Jb RI rfl (Bx Jb RI rfl (Bx Jb RI rfl (F8 DB CG Jb rfl (qa rfl (Ac (AT (Ae (Bn 25 _ _ rfl rfl) (Aj Ax rfl (qL Dg Da rfl (F8 AG Db Pa rfl (qw 2 rfl ?_))))))))))))))))))))))))))))))
 refine Iq h fun c1 h => L5 (rows := (([(Ab.mk 0 7 0 0 0 0 1 0 0 0 0), (Ab.mk 0 2 0 0 0 0 1 0 0 0 0), (Ab.mk 1 6 0 0 0 0 0 1 0 1 0), (Ab.mk 2 3 0 0 0 1 1 0 0 0 0)] : List Ab)).map Aw) (.p rfl) rfl DB CG (IE (f := Aw) (n := 11) (fun _ => rfl) _) (.none _) (.some _ _ _ _ c1.1) tv ⟨rfl, tv⟩ (by have := c1.2.1; (try simp only [zY]); omega) (by have := c1.2.2; (try simp only [zY]); omega) (KF Aw (([(Ab.mk 0 7 0 0 0 0 1 0 0 0 0), (Ab.mk 0 2 0 0 0 0 1 0 0 0 0), (Ab.mk 1 6 0 0 0 0 0 1 0 1 0), (Ab.mk 2 3 0 0 0 1 1 0 0 0 0)] : List Ab)) _ _ ((3 : Int).toNat - 0) rfl) ?_
 refine BS h fun v2 a2 h => Gj [] [14, 15, 16, 28, 20] (If N ((Aa.mk (([2] : List Int)) (([0] : List Int)) (([1] : List Int)) (([] : List AL)))) (([1] : List Int)) (([(Ao.mk 1 0 1), (Ao.mk 2 0 0)] : List Ao)) ((((([(Ab.mk 0 7 0 0 0 0 1 0 0 0 0), (Ab.mk 0 2 0 0 0 0 1 0 0 0 0), (Ab.mk 1 6 0 0 0 0 0 1 0 1 0), (Ab.mk 2 3 0 0 0 1 1 0 0 0 0)] : List Ab)).drop 0).take ((3 : Int).toNat - 0))) v2 a2) Vx EC rfl (qm rfl (qx rfl (qx rfl (qx rfl (qa rfl (qa rfl (qa rfl (AH (by kernel_rfl) (AT (Ae (Bn 14 _ _ rfl rfl) (Ae (Bn 15 _ _ rfl rfl) (Ae (Bn 16 _ _ rfl rfl) (Ae (Bn 20 _ _ rfl rfl) (Aj Ax rfl (qL Dg Da rfl (qw 2 rfl ?_))))))))))))))))
 refine Iq h fun c3 h => L5 (rows := (([(Ab.mk 0 7 0 0 0 0 1 0 0 0 0), (Ab.mk 0 2 0 0 0 0 1 0 0 0 0), (Ab.mk 1 6 0 0 0 0 0 1 0 1 0), (Ab.mk 2 3 0 0 0 1 1 0 0 0 0)] : List Ab)).map Aw) (.p rfl) rfl DB CG (IE (f := Aw) (n := 11) (fun _ => rfl) _) (.none _) (.some _ _ _ _ c3.1) tv ⟨rfl, tv⟩ (by have := c3.2.1; (try simp only [zY]); omega) (by have := c3.2.2; (try simp only [zY]); omega) (KF Aw (([(Ab.mk 0 7 0 0 0 0 1 0 0 0 0), (Ab.mk 0 2 0 0 0 0 1 0 0 0 0), (Ab.mk 1 6 0 0 0 0 0 1 0 1 0), (Ab.mk 2 3 0 0 0 1 1 0 0 0 0)] : List Ab)) _ _ ((3 : Int).toNat - 0) rfl) ?_
 refine BS h fun v4 a4 h => Av [] (PA N ((Aa.mk (([2] : List Int)) (([0] : List Int)) (([1] : List Int)) (([] : List AL)))) (([(Ao.mk 1 0 1), (Ao.mk 2 0 0)] : List Ao)) ((((([(Ab.mk 0 7 0 0 0 0 1 0 0 0 0), (Ab.mk 0 2 0 0 0 0 1 0 0 0 0), (Ab.mk 1 6 0 0 0 0 0 1 0 1 0), (Ab.mk 2 3 0 0 0 1 1 0 0 0 0)] : List Ab)).drop 0).take ((3 : Int).toNat - 0))) v4 a4) Yf rfl (qm rfl (qx rfl (qx rfl (qz DI rfl (qs AY rfl (qa rfl (AH (by kernel_rfl) (wq rfl (qL Dg Da rfl (F8 AG Db Pa rfl (qw 2 rfl ?_)))))))))))
 refine BS h fun v5 a5 h => Gj [] [46] (If N ((Aa.mk (([2] : List Int)) (([0] : List Int)) (([1] : List Int)) (([] : List AL)))) (([1] : List Int)) (([(Ao.mk 1 0 1), (Ao.mk 2 0 0)] : List Ao)) (([(Ab.mk 0 7 0 0 0 0 1 0 0 0 0), (Ab.mk 0 2 0 0 0 0 1 0 0 0 0), (Ab.mk 1 6 0 0 0 0 0 1 0 1 0), (Ab.mk 2 3 0 0 0 1 1 0 0 0 0)] : List Ab)) v5 a5) Vx EC rfl (qm rfl (qx rfl (qx rfl (qx rfl (qa rfl (qa rfl (qa rfl (Ac (wq rfl (qm rfl ?_))))))))))
 refine BS h fun v6 a6 h => Av [] (Mj N (([(Ab.mk 0 7 0 0 0 0 1 0 0 0 0), (Ab.mk 0 2 0 0 0 0 1 0 0 0 0), (Ab.mk 1 6 0 0 0 0 0 1 0 1 0), (Ab.mk 2 3 0 0 0 1 1 0 0 0 0)] : List Ab)) 3 2 v6 a6) X7 rfl (qm rfl (qx rfl (qx rfl (qa rfl (qe rfl ?_)))))
 refine AM h (fun v7 => mk [(0, bD v7)] []) (fun j7 h => ?_) (fun v7 h => ?_)
 ·refine Aj Ax rfl (qm rfl (AS rfl (qm rfl ?_)))
  refine Ce 60 h rfl (fun h => ?_) fun h => ?_
  ·refine qm rfl (AS rfl (qp rfl (qm rfl ?_)))
   refine Ce 64 h rfl (fun h => ?_) fun h => ?_
   ·refine qm rfl (AS rfl (qp rfl (qm rfl ?_)))
    refine Ce 68 h rfl (fun h => ?_) fun h => ?_
    ·refine qm rfl (AS rfl (qp rfl (qm rfl ?_)))
     refine Ce 72 h rfl (fun h => ?_) fun h => ?_
     ·refine qf B4 rfl (ql Bm rfl (AK AG rfl (AS rfl (qp rfl (qm rfl ?_)))))
      refine Ce 78 h rfl (fun h => ?_) fun h => ?_
      ·refine qf B4 rfl (ql Bm rfl ?_)
       refine BU h fun v13 a13 b13 h => qi AG Db a13 (Ah b13) rfl (qk A4 rfl (AS rfl (qp rfl (qm rfl ?_))))
       refine Ce 85 h rfl (fun h => ?_) fun h => ?_
       ·refine qm rfl (AS rfl (qp rfl (qm rfl ?_)))
        refine Ce 89 h rfl (fun h => ?_) fun h => ?_
        ·refine qm rfl (AS rfl (qp rfl (qm rfl ?_)))
         refine Ce 93 h rfl (fun h => ?_) fun h => ?_
         ·refine qm rfl ?_
          refine EP (.g rfl rfl) rfl rfl (MW _ _ _ _) rfl ?_
          refine qp rfl (qe rfl ?_)
          exact sn [] h
         ·refine qw 2 rfl (qp rfl (qe rfl ?_))
          exact sn [] h
        ·refine qw 2 rfl (qp rfl (qw 3 rfl (qp rfl (qe rfl ?_))))
         exact sn [] h
       ·refine qw 2 rfl (qp rfl (qw 3 rfl (qp rfl (qw 3 rfl (qp rfl (qe rfl ?_))))))
        exact sn [] h
      ·refine qw 5 rfl (qp rfl (qw 3 rfl (qp rfl (qw 3 rfl (qp rfl (qw 3 rfl (qp rfl (qe rfl ?_))))))))
       exact sn [] h
     ·refine qw 4 rfl (qp rfl (qw 6 rfl (qp rfl (qw 3 rfl (qp rfl (qw 3 rfl (qp rfl (qw 3 rfl (qp rfl (qe rfl ?_))))))))))
      exact sn [] h
    ·refine qw 2 rfl (qp rfl (qw 5 rfl (qp rfl (qw 6 rfl (qp rfl (qw 3 rfl (qp rfl (qw 3 rfl (qp rfl (qw 3 rfl (qp rfl (qe rfl ?_))))))))))))
     exact sn [] h
   ·refine qw 2 rfl (qp rfl (qw 3 rfl (qp rfl (qw 5 rfl (qp rfl (qw 6 rfl (qp rfl (qw 3 rfl (qp rfl (qw 3 rfl (qp rfl (qw 3 rfl (qp rfl (qe rfl ?_))))))))))))))
    exact sn [] h
  ·refine qw 2 rfl (qp rfl (qw 3 rfl (qp rfl (qw 3 rfl (qp rfl (qw 5 rfl (qp rfl (qw 6 rfl (qp rfl (qw 3 rfl (qp rfl (qw 3 rfl (qp rfl (qw 3 rfl (qp rfl (qe rfl ?_))))))))))))))))
   exact sn [] h
 ·obtain rfl := sj h
  refine Ae (sm [] [(0, bD v7)] [] rfl rfl) (Aq ?_)
  exact ⟨⟨[_], tm, rfl⟩, tv⟩
theorem Kz (N : Nat) (p0 : Aa) (r : Bool) (h : DK N p0 = some r) : Ar zA 34 [.e (.agg (Al p0))] [] (bD r) := by
 unfold DK at h
 refine cw (n := 97) (rs := [.tmp 2]) Tryz.func34 fun w0 S0 => ?_
 refine wq rfl (qb rfl (qa rfl (Ac (AT ?_))))
 refine AM h (fun v1 => mk [(1, oD (.ptr 1 0)), (27, bD v1)] [(1, .box (Al p0))]) (fun j1 h => ?_) (fun v1 h => ?_)
 ·refine Aj Ax rfl (qf BG rfl (ql Bm rfl (AK AG rfl (Eu rfl (qm rfl ?_)))))
  refine Ce 10 h rfl (fun h => ?_) fun h => ?_
  ·refine qw 4 rfl (qp rfl (qw 5 rfl (qp rfl (qw 5 rfl (qp rfl (Ac ?_))))))
   exact sn [] h
  ·refine qf Gk rfl (ql Bm rfl (AK AG rfl (Eu rfl (qp rfl (qm rfl ?_)))))
   refine Ce 16 h rfl (fun h => ?_) fun h => ?_
   ·refine qw 4 rfl (qp rfl (qw 5 rfl (qp rfl (Ac ?_))))
    exact sn [] h
   ·refine qf JC rfl (ql Bm rfl (AK AG rfl (Eu rfl (qp rfl (qm rfl ?_)))))
    refine Ce 22 h rfl (fun h => ?_) fun h => ?_
    ·refine qw 4 rfl (qp rfl (Ac ?_))
     exact sn [] h
    ·refine qf BN rfl (ql Fl rfl (AK De rfl (Eu rfl (qp rfl (Ac ?_)))))
     exact sn [] h
 ·refine Bg h (fun h => ?_) fun h => ?_
  ·refine wq rfl (qe rfl ?_)
   obtain rfl := sj h
   refine Ae (sm [] [(2, bD false)] [] rfl rfl) (Aq ?_)
   exact ⟨⟨[_], tm, rfl⟩, tv⟩
  ·refine Ap (wp rfl (qe rfl ?_))
   refine A0 (L := CP N p0) h (fun v6 => mk [(1, oD (.ptr 1 0)), (3, iD v6)] [(1, .box (Al p0))]) (fun v7 => mk [] []) (fun _ _ => rfl) (sm [] _ _ rfl rfl) (fun j6 n6 v6 h => ?_) (fun v7 s h hs => ?_)
   ·unfold CP at h
    refine wp rfl (qm rfl (qf BN rfl (ql Fl rfl (AK De rfl (A1 rfl (Ac ?_))))))
    refine Bg h (fun h => ?_) fun h => ?_
    ·refine Ap (AT (AU (AT ?_)))
     refine AM h (fun v9 => mk [(1, oD (.ptr 1 0)), (3, iD v6), (52, bD v9)] [(1, .box (Al p0))]) (fun j9 h => ?_) (fun v9 h => ?_)
     ·refine Aj Ax rfl (qf BN rfl (ql Fl rfl (qm rfl ?_)))
      refine BU h fun v10 a10 b10 h => qi De B1 a10 (Ah b10) rfl (qg G8 rfl (qk FB rfl (AK Eg rfl (Eu rfl (qm rfl ?_)))))
      refine Ce 43 h rfl (fun h => ?_) fun h => ?_
      ·refine qw 8 rfl (qp rfl (Ac ?_))
       exact sn [] h
      ·refine qf BN rfl (ql Fl rfl (qm rfl ?_))
       refine BU h fun v12 a12 b12 h => qi De B1 a12 (Ah b12) rfl (qg Er rfl (qk FB rfl (AK Eg rfl (Eu rfl (qp rfl (Ac ?_))))))
       exact sn [] h
     ·refine Bg h (fun h => ?_) fun h => ?_
      ·refine wq rfl (qe rfl ?_)
       obtain rfl := sj h
       refine Ae (sm [] [(2, bD false)] [] rfl rfl) (Aq ?_)
       exact ⟨⟨[_], tm, rfl⟩, tv⟩
      ·refine Ap (wp rfl (qe rfl ?_))
       refine A0 (L := BP N p0 v6) h (fun v14 => mk [(1, oD (.ptr 1 0)), (3, iD v6), (4, iD v14)] [(1, .box (Al p0))]) (fun v15 => mk [(1, oD (.ptr 1 0)), (3, iD v6)] [(1, .box (Al p0))]) (fun _ _ => rfl) (sm [] _ _ rfl rfl) (fun j14 n14 v14 h => ?_) (fun v15 s h hs => ?_)
       ·unfold BP at h
        refine wp rfl (qm rfl (qf BN rfl (ql Fl rfl (qm rfl ?_))))
        refine BU h fun v16 a16 b16 h => qi De B1 a16 (Ah b16) rfl (qg G8 rfl (qk FB rfl (AK Eg rfl (A1 rfl (Ac ?_)))))
        refine Bg h (fun h => ?_) fun h => ?_
        ·refine Ap (AT (AU (wq rfl (qf BN rfl (ql Fl rfl (qm rfl ?_))))))
         refine BU h fun v18 a18 b18 h => qi De B1 a18 (Ah b18) rfl (qg G8 rfl (qk FB rfl (qm rfl ?_)))
         refine BU h fun v19 a19 b19 h => qi Eg J1 a19 (Ah b19) rfl (qk J4 rfl (AK Ih rfl (Eu rfl (Ac ?_))))
         refine Bg h (fun h => ?_) fun h => ?_
         ·refine wq rfl (qe rfl ?_)
          obtain rfl := sj h
          refine Ae (sm [] [(2, bD false)] [] rfl rfl) (Aq ?_)
          exact ⟨⟨[_], tm, rfl⟩, tv⟩
         ·refine Ap (Aj Ax rfl (qm rfl (Ch rfl (qe rfl ?_))))
          exact sn [] h
        ·refine BT ?_
         exact sn [] h
       ·refine Ae hs (wq rfl (qe rfl ?_))
        refine A0 (L := BR N p0 v6) h (fun v21 => mk [(1, oD (.ptr 1 0)), (3, iD v6), (5, iD v21)] [(1, .box (Al p0))]) (fun v22 => mk [(1, oD (.ptr 1 0)), (3, iD v6)] [(1, .box (Al p0))]) (fun _ _ => rfl) (sm [] _ _ rfl rfl) (fun j21 n21 v21 h => ?_) (fun v22 s h hs => ?_)
        ·unfold BR at h
         refine wp rfl (qm rfl (qf BN rfl (ql Fl rfl (qm rfl ?_))))
         refine BU h fun v23 a23 b23 h => qi De B1 a23 (Ah b23) rfl (qg Er rfl (qk FB rfl (AK Eg rfl (A1 rfl (Ac ?_)))))
         refine Bg h (fun h => ?_) fun h => ?_
         ·refine Ap (AT (AU (wq rfl (qf BN rfl (ql Fl rfl (qm rfl ?_))))))
          refine BU h fun v25 a25 b25 h => qi De B1 a25 (Ah b25) rfl (qg Er rfl (qk FB rfl (qm rfl ?_)))
          refine BU h fun v26 a26 b26 h => qi Eg J1 a26 (Ah b26) rfl (qk J4 rfl (AK Ih rfl (Eu rfl (Ac ?_))))
          refine Bg h (fun h => ?_) fun h => ?_
          ·refine wq rfl (qe rfl ?_)
           obtain rfl := sj h
           refine Ae (sm [] [(2, bD false)] [] rfl rfl) (Aq ?_)
           exact ⟨⟨[_], tm, rfl⟩, tv⟩
          ·refine Ap (Aj Ax rfl (qm rfl (Ch rfl (qe rfl ?_))))
           exact sn [] h
         ·refine BT ?_
          exact sn [] h
        ·refine Ae hs (Aj Ax rfl (qm rfl (Ch rfl (qe rfl ?_))))
         exact sn [] h
    ·refine BT ?_
     exact sn [] h
   ·refine Ae hs (wq rfl (qe rfl ?_))
    obtain rfl := sj h
    refine Ae (sm [] [(2, bD true)] [] rfl rfl) (Aq ?_)
    exact ⟨⟨[_], tm, rfl⟩, tv⟩
end Go.Lift
