/- Lemmas for RefuseErrorsSaid, which YtpaobkaighpaaaaGreatFinR8 proves. -/
import Derived.Test.YtpaobkaighpaaaaGreatTypes
import Derived.Test.YtpaobkaighpaaaaGreatProg
import Derived.KernelRfl
namespace Go.Lift
open IntKind renaming wrap → wI
def B5 (_ : Nat) : Option Aj :=
 some ((Aj.mk (([2] : List Int)) (([0] : List Int)) (([1] : List Int)) (([(AV.mk 1 0 0 false (([([true, true] : List Bool), ([false, true] : List Bool)] : List (List Bool))) (([] : List (List Bool))))] : List AV))))
def D8 (_ : Nat) (p0 : Int) (p1 : Int) : Option Bool :=
 Bi (fun (v1 : Bool) =>
  some v1)
 fun j1 =>
 AT ((decide (0 ≤ p0)))
  (j1 (decide (p0 < p1)))
  (j1 false)
def GX (_ : Nat) (p0 : Int) (p1 : Bool) : Option Bool :=
 Bi (fun (v1 : Bool) =>
  some v1)
 fun j1 =>
 AT ((p0 == 1))
  (j1 true)
  (AT ((p0 == 2))
   (j1 true)
   (AT ((p0 == 3))
    (j1 (!p1))
    (AT ((p0 == 4))
     (j1 (!p1))
     (j1 false))))
def D1 (_ : Nat) (p0 : List Bool) (p1 : Int) : Option Bool :=
 some (((p0.length : Int) != p1))
def BG (N : Nat) (p0 : List (List Bool)) (p1 : (List Bool) → Option Bool) (j1 : Unit → Option Int) : Nat → Int → Option Int
 | 0, _ => none
 | n1 + 1, v1 =>
  AT ((decide (v1 < (p0.length : Int))))
   ((Bf p0 v1).bind fun v4 =>
   (p1 v4).bind fun v5 =>
   AT v5
    (some v1)
    (BG N p0 p1 j1 n1 (wI .i64 (v1 + 1))))
   (j1 ())
def Dv (N : Nat) (p0 : List (List Bool)) (p1 : (List Bool) → Option Bool) : Option Int :=
 BG N p0 p1 (fun (_ : Unit) =>
  some ((-1))) N 0
def C4 (N : Nat) (p0 : List (List Bool)) (p1 : (List Bool) → Option Bool) : Option Bool :=
 (Dv N p0 p1).bind fun v1 =>
 some ((decide (0 ≤ v1)))
def Ff (N : Nat) (p0 : List (List Bool)) (p1 : Int) (p2 : Int) : Option Bool :=
 Bi (fun (v1 : Bool) =>
  some v1)
 fun j1 =>
 AT (((p0.length : Int) == p1))
  ((C4 N p0 ((fun (x : List Bool) => D1 N x p2))).bind fun v3 =>
  j1 (!v3))
  (j1 false)
def Df (N : Nat) (p1 : AV) (j19 : Unit → Option Int) : Nat → Int → Option Int
 | 0, _ => none
 | n19 + 1, v19 =>
  AT ((decide (v19 < (p1.fRewrite.length : Int))))
   ((Bf p1.fRewrite v19).bind fun v22 =>
   (Bf v22 v19).bind fun v23 =>
   AT ((!v23))
    (some 1)
    (Df N p1 j19 n19 (wI .i64 (v19 + 1))))
   (j19 ())
def Gz (N : Nat) (p0 : Aj) (p1 : AV) : Option Int :=
 (GX N p1.fKind p1.fAware).bind fun v1 =>
 AT ((!v1))
  (some 1)
  (Bi (fun (v3 : Bool) =>
   AT v3
    (some 4)
    ((Bf p0.fVersions p1.fFrom).bind fun v8 =>
    Bi (fun (v9 : Bool) =>
     AT v9
      (some 6)
      (Df N p1 (fun (_ : Unit) =>
       some 0) N 0))
    fun j9 =>
    (Bf p0.fVersions p1.fTo).bind fun v10 =>
    (Ff N p1.fOK v8 v10).bind fun v11 =>
    AT ((!v11))
     (j9 true)
     (AT ((p1.fKind == 4))
      ((Ff N p1.fRewrite v8 v8).bind fun v14 =>
      AT ((!v14))
       (j9 true)
       (AT ((!((p1.fKind == 4))))
        (j9 (decide (0 < (p1.fRewrite.length : Int))))
        (j9 false)))
      (AT ((!((p1.fKind == 4))))
       (j9 (decide (0 < (p1.fRewrite.length : Int))))
       (j9 false)))))
  fun j3 =>
  (D8 N p1.fFrom ((p0.fVersions.length : Int))).bind fun v4 =>
  AT ((!v4))
   (j3 true)
   ((D8 N p1.fTo ((p0.fVersions.length : Int))).bind fun v6 =>
   j3 (!v6)))
def B6 (N : Nat) (p0 : Aj) (j7 : Unit → Option Int) : Nat → Int → Option Int
 | 0, _ => none
 | n7 + 1, v7 =>
  AT ((decide (v7 < (p0.fVersions.length : Int))))
   ((Bf p0.fVersions v7).bind fun v10 =>
   Bi (fun (v11 : Bool) =>
    AT v11
     (some 7)
     (B6 N p0 j7 n7 (wI .i64 (v7 + 1))))
   fun j11 =>
   AT ((decide (v10 < 1)))
    (j11 true)
    (AT ((decide (6 < v10)))
     (j11 true)
     ((Bf p0.fNow v7).bind fun v14 =>
     (D8 N v14 v10).bind fun v15 =>
     AT ((!v15))
      (j11 true)
      ((Bf p0.fTarget v7).bind fun v17 =>
      (D8 N v17 v10).bind fun v18 =>
      j11 (!v18)))))
   (j7 ())
def B1 (N : Nat) (p0 : Aj) (j20 : Unit → Option Int) : Nat → Int → Option Int
 | 0, _ => none
 | n20 + 1, v20 =>
  AT ((decide (v20 < (p0.fTables.length : Int))))
   ((Bf p0.fTables v20).bind fun v23 =>
   (Gz N p0 v23).bind fun v24 =>
   AT ((v24 != 0))
    (some v24)
    (B1 N p0 j20 n20 (wI .i64 (v20 + 1))))
   (j20 ())
def CH (N : Nat) (p0 : Aj) : Option Int :=
 Bi (fun (v1 : Bool) =>
  AT v1
   (some 3)
   (Bi (fun (v4 : Bool) =>
    AT v4
     (some 6)
     (B6 N p0 (fun (_ : Unit) =>
      B1 N p0 (fun (_ : Unit) =>
       some 0) N 0) N 0))
   fun j4 =>
   AT (((p0.fNow.length : Int) != (p0.fVersions.length : Int)))
    (j4 true)
    (j4 ((p0.fTarget.length : Int) != (p0.fVersions.length : Int)))))
 fun j1 =>
 AT ((decide (6 < (p0.fVersions.length : Int))))
  (j1 true)
  (j1 (decide (12 < (p0.fTables.length : Int))))
def Bo (_ : Nat) (p0 : List Int) : Option ((List Int)) :=
 (EJ ((([] : List Int)).length + p0.length ≤ Fa)).bind fun _ =>
 some ((([] : List Int)) ++ p0)
def Hf (_ : Nat) (p0 : Int) (p1 : Int) : Option (Int × Int) :=
 some ((wI .u32 ((EA .u64 ((wI .u64 ((wI .u64 p0) * (wI .u64 p1)))) 32))), (wI .u32 ((wI .u64 ((wI .u64 p0) * (wI .u64 p1))))))
def Hg (_ : Nat) (p0 : Int) (p1 : Int) : Option (Int × Int) :=
 some ((wI .u64 ((wI .u64 ((wI .u64 ((EA .u64 p0 32) * (EA .u64 p1 32))) + (EA .u64 ((wI .u64 ((wI .u64 ((EA .u64 p0 32) * (FT .u64 p1 4294967295))) + (EA .u64 ((wI .u64 ((FT .u64 p0 4294967295) * (FT .u64 p1 4294967295)))) 32)))) 32))) + (EA .u64 ((wI .u64 ((FT .u64 ((wI .u64 ((wI .u64 ((EA .u64 p0 32) * (FT .u64 p1 4294967295))) + (EA .u64 ((wI .u64 ((FT .u64 p0 4294967295) * (FT .u64 p1 4294967295)))) 32)))) 4294967295) + (wI .u64 ((FT .u64 p0 4294967295) * (EA .u64 p1 32)))))) 32))), (wI .u64 (p0 * p1)))
def HU (N : Nat) (p0 : Int) (p1 : Int) : Option (Int × Int) :=
 AT false
  ((Hf N ((wI .u32 p0)) ((wI .u32 p1))).bind fun v2 =>
  some ((wI .u64 v2.1), (wI .u64 v2.2)))
  ((Hg N p0 p1).bind fun v3 =>
  some (v3.1, v3.2))
def DW (N : Nat) (j9 : ((List Int)) → Option ((List Int))) : Nat → ((List Int) × Int) → Option ((List Int))
 | 0, _ => none
 | n9 + 1, v9 =>
  AT ((decide (v9.2 < (v9.1.length : Int))))
   ((EJ ((0 : Int) ≤ v9.2 ∧ (v9.2).toNat ≤ v9.1.length ∧ v9.1.length ≤ v9.1.length)).bind fun _ =>
   (EJ ((0 : Int) ≤ v9.2 ∧ 0 ≤ (v9.2).toNat ∧ (v9.2).toNat ≤ v9.1.length)).bind fun _ =>
   DW N j9 n9 (HQ v9.1 ((v9.2).toNat) ((((v9.1.drop 0).take ((v9.2).toNat))).take (Nat.min (((v9.1.drop 0).take ((v9.2).toNat))).length ((v9.1.length - (v9.2).toNat)))), (wI .i64 (v9.2 + (((Nat.min (((v9.1.drop 0).take ((v9.2).toNat))).length ((v9.1.length - (v9.2).toNat))) : Nat) : Int)))))
   (j9 v9.1)
def Em (N : Nat) (p0 : List Int) (p1 : Int) : Option ((List Int)) :=
 Bi (fun (_ : Unit) =>
  (HU N ((wI .u64 ((p0.length : Int)))) ((wI .u64 p1))).bind fun v3 =>
  Bi (fun (_ : Unit) =>
   (EJ ((0 : Int) ≤ (wI .i64 v3.2) ∧ (wI .i64 v3.2) ≤ (wI .i64 v3.2) ∧ (wI .i64 v3.2) ≤ (Fa : Int))).bind fun _ =>
   DW N (fun (v10 : (List Int)) =>
    some v10) N (HQ (List.replicate ((wI .i64 v3.2)).toNat ((0 : Int))) 0 (p0.take (Nat.min p0.length ((List.replicate ((wI .i64 v3.2)).toNat ((0 : Int))).length))), (((Nat.min p0.length ((List.replicate ((wI .i64 v3.2)).toNat ((0 : Int))).length)) : Nat) : Int)))
  fun j4 =>
  Bi (fun (v5 : Bool) =>
   AT v5
    (none)
    (j4 ()))
  fun j5 =>
  AT ((decide (0 < v3.1)))
   (j5 true)
   (j5 (decide (9223372036854775807 < v3.2))))
 fun j1 =>
 AT ((decide (p1 < 0)))
  (none)
  (j1 ())
def Fn (_ : Nat) (p0 : AV) : Option Bool :=
 Bi (fun (v1 : Bool) =>
  some v1)
 fun j1 =>
 AT ((p0.fKind == 3))
  (j1 true)
  (j1 (p0.fKind == 4))
def D9 (N : Nat) (p0 : Aj) (j6 : ((List Int)) → Option (Ag × Int)) : Nat → ((List Int) × Int) → Option (Ag × Int)
 | 0, _ => none
 | n6 + 1, v6 =>
  AT ((decide (v6.2 < (p0.fTables.length : Int))))
   (Bi (fun (v9 : (List Int)) =>
    D9 N p0 j6 n6 (v9, (wI .i64 (v6.2 + 1))))
   fun j9 =>
   (Bf p0.fTables v6.2).bind fun v10 =>
   (Fn N v10).bind fun v11 =>
   AT v11
    ((Bf p0.fNow v10.fFrom).bind fun v13 =>
    (EJ (0 ≤ v13)).bind fun _ =>
    (Bf v6.1 v6.2).bind fun _ =>
    j9 (v6.1.set ((v6.2).toNat) ((CF .u8 1 v13))))
    (j9 v6.1))
   (j6 v6.1)
def FI (N : Nat) (p0 : Aj) : Option (Ag × Int) :=
 (CH N p0).bind fun v1 =>
 AT ((v1 != 0))
  (some ((Ag.mk (([] : List Int)) (([] : List Int)) (([] : List Int))), v1))
  ((Bo N p0.fNow).bind fun v3 =>
  (Em N (([(-1)] : List Int)) ((p0.fNow.length : Int))).bind fun v4 =>
  (EJ ((0 : Int) ≤ (p0.fTables.length : Int) ∧ (p0.fTables.length : Int) ≤ (p0.fTables.length : Int) ∧ (p0.fTables.length : Int) ≤ (Fa : Int))).bind fun _ =>
  D9 N p0 (fun (v7 : (List Int)) =>
   some ((Ag.mk v3 v4 v7), 0)) N (List.replicate ((p0.fTables.length : Int)).toNat ((0 : Int)), 0))
def E4 (_ : Nat) (p0 : Ag) (p1 : Int) : Option Int :=
 (Bf p0.fBase p1).bind fun v1 =>
 (EJ (0 ≤ v1)).bind fun _ =>
 Bi (fun (v3 : Int) =>
  some v3)
 fun j3 =>
 (Bf p0.fNext p1).bind fun v4 =>
 AT ((decide (0 ≤ v4)))
  ((Bf p0.fNext p1).bind fun v6 =>
  (EJ (0 ≤ v6)).bind fun _ =>
  j3 (Oi .u8 ((CF .u8 1 v1)) ((CF .u8 1 v6))))
  (j3 (CF .u8 1 v1))
def Ea (N : Nat) (p0 : Aj) (p1 : Ag) (j7 : Unit → Option Int) : Nat → Int → Option Int
 | 0, _ => none
 | n7 + 1, v7 =>
  AT ((decide (v7 < (p0.fVersions.length : Int))))
   ((Bf p0.fVersions v7).bind fun v10 =>
   Bi (fun (v11 : Bool) =>
    AT v11
     (some 7)
     ((Bf p1.fBase v7).bind fun v20 =>
     (Bf p1.fNext v7).bind fun v21 =>
     AT ((v20 == v21))
      (some 1)
      (Ea N p0 p1 j7 n7 (wI .i64 (v7 + 1)))))
   fun j11 =>
   (Bf p1.fBase v7).bind fun v12 =>
   AT ((decide (v12 < 0)))
    (j11 true)
    ((Bf p1.fBase v7).bind fun v14 =>
    AT ((decide (v10 ≤ v14)))
     (j11 true)
     ((Bf p1.fNext v7).bind fun v16 =>
     AT ((decide (v16 < (-1))))
      (j11 true)
      ((Bf p1.fNext v7).bind fun v18 =>
      j11 (decide (v10 ≤ v18))))))
   (j7 ())
def DO (N : Nat) (p0 : Aj) (p1 : Ag) (j23 : Unit → Option Int) : Nat → Int → Option Int
 | 0, _ => none
 | n23 + 1, v23 =>
  AT ((decide (v23 < (p0.fTables.length : Int))))
   ((Bf p0.fTables v23).bind fun v26 =>
   Bi (fun (v27 : Int × Int) =>
    Bi (fun (v33 : Bool) =>
     AT v33
      (some 1)
      (DO N p0 p1 j23 n23 (wI .i64 (v23 + 1))))
    fun j33 =>
    (Bf p1.fHeld v23).bind fun v34 =>
    AT (((Do .u8 v27.1 v34) != 0))
     (j33 true)
     ((Bf p1.fHeld v23).bind fun v36 =>
     j33 ((Do .u8 v36 v27.2) != 0)))
   fun j27 =>
   (Fn N v26).bind fun v28 =>
   AT v28
    ((E4 N p1 v26.fFrom).bind fun v30 =>
    (Bf p0.fVersions v26.fFrom).bind fun v31 =>
    (EJ (0 ≤ v31)).bind fun _ =>
    j27 (v30, (wI .u8 ((CF .u8 1 v31) - 1))))
    (j27 (0, 0)))
   (j23 ())
def EQ (N : Nat) (p0 : Aj) (p1 : Ag) : Option Int :=
 (CH N p0).bind fun v1 =>
 AT ((v1 != 0))
  (some v1)
  (Bi (fun (v3 : Bool) =>
   AT v3
    (some 6)
    (Ea N p0 p1 (fun (_ : Unit) =>
     DO N p0 p1 (fun (_ : Unit) =>
      some 0) N 0) N 0))
  fun j3 =>
  AT (((p1.fBase.length : Int) != (p0.fVersions.length : Int)))
   (j3 true)
   (AT (((p1.fNext.length : Int) != (p0.fVersions.length : Int)))
    (j3 true)
    (j3 ((p1.fHeld.length : Int) != (p0.fTables.length : Int)))))
def Bu (_ : Nat) (p0 : List Int) : Option ((List Int)) :=
 (EJ ((([] : List Int)).length + p0.length ≤ Fa)).bind fun _ =>
 some ((([] : List Int)) ++ p0)
def DP (N : Nat) (p1 : Ag) (j3 : ((List Int)) → Option ((List Ag) × Int)) : Nat → ((List Int) × Int) → Option ((List Ag) × Int)
 | 0, _ => none
 | n3 + 1, v3 =>
  AT ((decide (v3.2 < (p1.fNext.length : Int))))
   (Bi (fun (v6 : (List Int)) =>
    DP N p1 j3 n3 (v6, (wI .i64 (v3.2 + 1))))
   fun j6 =>
   (Bf p1.fNext v3.2).bind fun v7 =>
   AT ((decide (0 ≤ v7)))
    ((EJ (v3.1.length + (([v3.2] : List Int)).length ≤ Fa)).bind fun _ =>
    j6 (v3.1 ++ (([v3.2] : List Int))))
    (j6 v3.1))
   (j3 v3.1)
def C2 (N : Nat) (v4 : (List Int)) (v11 : (List Ag) × Int) (j17 : ((List Int)) → Option ((List Ag) × Int)) : Nat → ((List Int) × Int) → Option ((List Ag) × Int)
 | 0, _ => none
 | n17 + 1, v17 =>
  AT ((decide (v17.2 < (v4.length : Int))))
   (Bi (fun (v20 : (List Int)) =>
    C2 N v4 v11 j17 n17 (v20, (wI .i64 (v17.2 + 1))))
   fun j20 =>
   (Bf v4 v17.2).bind fun v21 =>
   (EJ (0 ≤ v17.2)).bind fun _ =>
   AT (((FT .i64 ((EA .i64 v11.2 v17.2)) 1) == 1))
    ((Bf v17.1 v21).bind fun _ =>
    j20 (v17.1.set ((v21).toNat) ((-1))))
    (j20 v17.1))
   (j17 v17.1)
def C5 (N : Nat) (p1 : Ag) (v4 : (List Int)) (j11 : ((List Ag)) → Option ((List Ag) × Int)) : Nat → ((List Ag) × Int) → Option ((List Ag) × Int)
 | 0, _ => none
 | n11 + 1, v11 =>
  AT ((decide (v11.2 < (CF .i64 1 ((v4.length : Int))))))
   ((Bo N p1.fBase).bind fun v14 =>
   (Bo N p1.fNext).bind fun v15 =>
   (Bu N p1.fHeld).bind fun v16 =>
   C2 N v4 v11 (fun (v18 : (List Int)) =>
    (EJ (v11.1.length + (([(Ag.mk v14 v18 v16)] : List Ag)).length ≤ Fa)).bind fun _ =>
    C5 N p1 v4 j11 n11 (v11.1 ++ (([(Ag.mk v14 v18 v16)] : List Ag)), (wI .i64 (v11.2 + 1)))) N (v15, 0))
   (j11 v11.1)
def GT (N : Nat) (p0 : Aj) (p1 : Ag) : Option ((List Ag) × Int) :=
 (EQ N p0 p1).bind fun v1 =>
 AT ((v1 != 0))
  (some (([] : List Ag), v1))
  (DP N p1 (fun (v4 : (List Int)) =>
   (EJ (0 ≤ (v4.length : Int))).bind fun _ =>
   C5 N p1 v4 (fun (v12 : (List Ag)) =>
    some (v12, 0)) N (([] : List Ag), 0)) N (([] : List Int), 0))
def Cc (N : Nat) (v1 : (List Ah) × Int) (v4 : AV) (v6 : Int) (v11 : (List Ah) × Int) (v17 : List Bool) (j18 : ((List Ah) × Bool) → Option ((List Ah))) : Nat → ((List Ah) × Bool × Int) → Option ((List Ah))
 | 0, _ => none
 | n18 + 1, v18 =>
  AT ((decide (v18.2.2 < (v17.length : Int))))
   (Bi (fun (v21 : (List Ah) × Bool) =>
    Cc N v1 v4 v6 v11 v17 j18 n18 (v21.1, v21.2, (wI .i64 (v18.2.2 + 1))))
   fun j21 =>
   (Bf v17 v18.2.2).bind fun v22 =>
   (EJ (0 ≤ v18.2.2)).bind fun _ =>
   AT (((FT .u8 ((EA .u8 v6 v18.2.2)) 1) == 0))
    (j21 (v18.1, v18.2.1))
    (Bi (fun (v25 : Bool) =>
     Bi (fun (v27 : Bool) =>
      AT v27
       ((EJ (v18.1.length + (([(Ah.mk v1.2 v11.2 v18.2.2)] : List Ah)).length ≤ Fa)).bind fun _ =>
       j21 (v18.1 ++ (([(Ah.mk v1.2 v11.2 v18.2.2)] : List Ah)), v25))
       (j21 (v18.1, v25)))
     fun j27 =>
     AT ((!v22))
      (j27 (!v4.fAware))
      (j27 false))
    fun j25 =>
    AT v18.2.1
     (j25 true)
     (j25 v22)))
   (j18 (v18.1, v18.2.1))
def Cu (N : Nat) (v1 : (List Ah) × Int) (v4 : AV) (v6 : Int) (v7 : Int) (j11 : ((List Ah)) → Option ((List Ah))) : Nat → ((List Ah) × Int) → Option ((List Ah))
 | 0, _ => none
 | n11 + 1, v11 =>
  AT ((decide (v11.2 < (v4.fOK.length : Int))))
   (Bi (fun (v14 : (List Ah)) =>
    Cu N v1 v4 v6 v7 j11 n11 (v14, (wI .i64 (v11.2 + 1))))
   fun j14 =>
   (EJ (0 ≤ v11.2)).bind fun _ =>
   AT (((FT .u8 ((EA .u8 v7 v11.2)) 1) == 0))
    (j14 v11.1)
    ((Bf v4.fOK v11.2).bind fun v17 =>
    Cc N v1 v4 v6 v11 v17 (fun (v19 : (List Ah) × Bool) =>
     Bi (fun (v31 : Bool) =>
      AT v31
       ((EJ (v19.1.length + (([(Ah.mk v1.2 v11.2 ((-1)))] : List Ah)).length ≤ Fa)).bind fun _ =>
       j14 (v19.1 ++ (([(Ah.mk v1.2 v11.2 ((-1)))] : List Ah))))
       (j14 v19.1))
     fun j31 =>
     AT v4.fAware
      (j31 (!v19.2))
      (j31 false)) N (v11.1, false, 0)))
   (j11 v11.1)
def Du (N : Nat) (p0 : Aj) (p1 : Ag) (j1 : ((List Ah)) → Option ((List Ah))) : Nat → ((List Ah) × Int) → Option ((List Ah))
 | 0, _ => none
 | n1 + 1, v1 =>
  AT ((decide (v1.2 < (p0.fTables.length : Int))))
   ((Bf p0.fTables v1.2).bind fun v4 =>
   (E4 N p1 v4.fFrom).bind fun v5 =>
   (E4 N p1 v4.fTo).bind fun v6 =>
   Bi (fun (v7 : Int) =>
    Cu N v1 v4 v6 v7 (fun (v12 : (List Ah)) =>
     Du N p0 p1 j1 n1 (v12, (wI .i64 (v1.2 + 1)))) N (v1.1, 0))
   fun j7 =>
   (Fn N v4).bind fun v8 =>
   AT v8
    ((Bf p1.fHeld v1.2).bind fun v10 =>
    j7 v10)
    (j7 v5))
   (j1 v1.1)
def Fy (N : Nat) (p0 : Aj) (p1 : Ag) : Option ((List Ah)) :=
 Du N p0 p1 (fun (v2 : (List Ah)) =>
  some v2) N (([] : List Ah), 0)
def EH (N : Nat) (p0 : Aj) (v1 : (List Ag) × Int) (j3 : Unit → Option (Ag × Ah × Int)) : Nat → Int → Option (Ag × Ah × Int)
 | 0, _ => none
 | n3 + 1, v3 =>
  AT ((decide (v3 < (v1.1.length : Int))))
   ((Bf v1.1 v3).bind fun v6 =>
   (Fy N p0 v6).bind fun v7 =>
   AT ((decide (0 < (v7.length : Int))))
    ((Bf v7 0).bind fun v9 =>
    some (v6, v9, 0))
    (EH N p0 v1 j3 n3 (wI .i64 (v3 + 1))))
   (j3 ())
def GE (N : Nat) (p0 : Aj) (p1 : Ag) : Option (Ag × Ah × Int) :=
 (GT N p0 p1).bind fun v1 =>
 AT ((v1.2 != 0))
  (some ((Ag.mk (([] : List Int)) (([] : List Int)) (([] : List Int))), (Ah.mk 0 0 0), v1.2))
  (EH N p0 v1 (fun (_ : Unit) =>
   some ((Ag.mk (([] : List Int)) (([] : List Int)) (([] : List Int))), (Ah.mk 0 0 0), 15)) N 0)
def Fo (N : Nat) (p0 : Aj) (p1 : Ag) : Option (Bool × Int) :=
 (GE N p0 p1).bind fun v1 =>
 AT ((v1.2.2 == 0))
  (some (false, 0))
  (AT ((v1.2.2 == 15))
   (some (true, 0))
   (some (false, v1.2.2)))
def Gn (N : Nat) (p0 : Aj) : Option (Ag × Bool × Int) :=
 (FI N p0).bind fun v1 =>
 AT ((v1.2 != 0))
  (some ((Ag.mk (([] : List Int)) (([] : List Int)) (([] : List Int))), false, v1.2))
  ((Fo N p0 v1.1).bind fun v3 =>
  some (v1.1, v3.1, v3.2))
def G9 (N : Nat) (p0 : Ag) (j1 : ((List Int)) → Option ByteArray) : Nat → ((List Int) × Int) → Option ByteArray
 | 0, _ => none
 | n1 + 1, v1 =>
  AT ((decide (v1.2 < (p0.fBase.length : Int))))
   ((Bf p0.fBase v1.2).bind fun v4 =>
   (Bf p0.fNext v1.2).bind fun v5 =>
   (EJ (v1.1.length + (([(wI .u8 v4), (wI .u8 ((wI .i64 (v5 + 1))))] : List Int)).length ≤ Fa)).bind fun _ =>
   G9 N p0 j1 n1 (v1.1 ++ (([(wI .u8 v4), (wI .u8 ((wI .i64 (v5 + 1))))] : List Int)), (wI .i64 (v1.2 + 1))))
   (j1 v1.1)
def Hb (N : Nat) (p0 : Ag) (j7 : ((List Int)) → Option ByteArray) : Nat → ((List Int) × Int) → Option ByteArray
 | 0, _ => none
 | n7 + 1, v7 =>
  AT ((decide (v7.2 < (p0.fHeld.length : Int))))
   ((Bf p0.fHeld v7.2).bind fun v10 =>
   (EJ (v7.1.length + (([v10] : List Int)).length ≤ Fa)).bind fun _ =>
   Hb N p0 j7 n7 (v7.1 ++ (([v10] : List Int)), (wI .i64 (v7.2 + 1))))
   (j7 v7.1)
def HB (N : Nat) (p0 : Ag) : Option ByteArray :=
 G9 N p0 (fun (v2 : (List Int)) =>
  Hb N p0 (fun (v8 : (List Int)) =>
   some ((Jg v8))) N (v2, 0)) N (([] : List Int), 0)
def En (N : Nat) (v1 : (List Aw) × Int) (v4 : Int) (j5 : ((List Aw)) → Option ((List Aw))) : Nat → ((List Aw) × Int) → Option ((List Aw))
 | 0, _ => none
 | n5 + 1, v5 =>
  AT ((decide (v5.2 < v4)))
   ((EJ (v5.1.length + (([(Aw.mk 1 v1.2 v5.2)] : List Aw)).length ≤ Fa)).bind fun _ =>
   En N v1 v4 j5 n5 (v5.1 ++ (([(Aw.mk 1 v1.2 v5.2)] : List Aw)), (wI .i64 (v5.2 + 1))))
   (j5 v5.1)
def De (N : Nat) (p0 : Aj) (j1 : ((List Aw)) → Option ((List Aw))) : Nat → ((List Aw) × Int) → Option ((List Aw))
 | 0, _ => none
 | n1 + 1, v1 =>
  AT ((decide (v1.2 < (p0.fVersions.length : Int))))
   ((Bf p0.fVersions v1.2).bind fun v4 =>
   En N v1 v4 (fun (v6 : (List Aw)) =>
    De N p0 j1 n1 (v6, (wI .i64 (v1.2 + 1)))) N (v1.1, 0))
   (j1 v1.1)
def CA (N : Nat) (p0 : Aj) (j9 : ((List Aw)) → Option ((List Aw))) : Nat → ((List Aw) × Int) → Option ((List Aw))
 | 0, _ => none
 | n9 + 1, v9 =>
  AT ((decide (v9.2 < (p0.fVersions.length : Int))))
   ((EJ (v9.1.length + (([(Aw.mk 2 v9.2 0)] : List Aw)).length ≤ Fa)).bind fun _ =>
   CA N p0 j9 n9 (v9.1 ++ (([(Aw.mk 2 v9.2 0)] : List Aw)), (wI .i64 (v9.2 + 1))))
   (j9 v9.1)
def BL (N : Nat) (p0 : Aj) (j13 : ((List Aw)) → Option ((List Aw))) : Nat → ((List Aw) × Int) → Option ((List Aw))
 | 0, _ => none
 | n13 + 1, v13 =>
  AT ((decide (v13.2 < (p0.fTables.length : Int))))
   ((EJ (v13.1.length + (([(Aw.mk 3 v13.2 0)] : List Aw)).length ≤ Fa)).bind fun _ =>
   BL N p0 j13 n13 (v13.1 ++ (([(Aw.mk 3 v13.2 0)] : List Aw)), (wI .i64 (v13.2 + 1))))
   (j13 v13.1)
def H5 (N : Nat) (p0 : Aj) : Option ((List Aw)) :=
 De N p0 (fun (v2 : (List Aw)) =>
  CA N p0 (fun (v10 : (List Aw)) =>
   BL N p0 (fun (v14 : (List Aw)) =>
    some v14) N (v10, 0)) N (v2, 0)) N (([] : List Aw), 0)
def Gy (N : Nat) (p0 : Ag) : Option Ag :=
 (Bo N p0.fBase).bind fun v1 =>
 (Bo N p0.fNext).bind fun v2 =>
 (Bu N p0.fHeld).bind fun v3 =>
 some ((Ag.mk v1 v2 v3))
def Fz (_ : Nat) (p0 : AV) : Option Bool :=
 Bi (fun (v1 : Bool) =>
  some v1)
 fun j1 =>
 AT ((p0.fKind == 3))
  (j1 true)
  (j1 (p0.fKind == 4))
def DS (N : Nat) (p0 : Aj) (p2 : Aw) (j7 : ((List Int)) → Option (Bool × (List Int) × (List Int))) : Nat → ((List Int) × Int) → Option (Bool × (List Int) × (List Int))
 | 0, _ => none
 | n7 + 1, v7 =>
  AT ((decide (v7.2 < (p0.fTables.length : Int))))
   (Bi (fun (v10 : (List Int)) =>
    DS N p0 p2 j7 n7 (v10, (wI .i64 (v7.2 + 1))))
   fun j10 =>
   (Bf p0.fTables v7.2).bind fun v11 =>
   Bi (fun (v12 : Bool) =>
    AT v12
     ((Bf v7.1 v7.2).bind fun v16 =>
     (EJ (0 ≤ p2.fVersion)).bind fun _ =>
     (Bf v7.1 v7.2).bind fun _ =>
     j10 (v7.1.set ((v7.2).toNat) ((Oi .u8 v16 ((CF .u8 1 p2.fVersion))))))
     (j10 v7.1))
   fun j12 =>
   AT ((v11.fFrom == p2.fIndex))
    ((Fz N v11).bind fun v14 =>
    j12 v14)
    (j12 false))
   (j7 v7.1)
def H2 (N : Nat) (p0 : Aj) (p1 : Ag) (p2 : Aw) : Option (Bool × (List Int) × (List Int)) :=
 Bi (fun (v1 : Bool) =>
  AT v1
   (some (false, p1.fNext, p1.fHeld))
   ((Bf p1.fNext p2.fIndex).bind fun _ =>
   DS N p0 p2 (fun (v8 : (List Int)) =>
    some (true, p1.fNext.set ((p2.fIndex).toNat) p2.fVersion, v8)) N (p1.fHeld, 0)))
 fun j1 =>
 (Bf p1.fNext p2.fIndex).bind fun v2 =>
 AT ((decide (0 ≤ v2)))
  (j1 true)
  ((Bf p1.fBase p2.fIndex).bind fun v4 =>
  j1 (v4 == p2.fVersion))
def F0 (_ : Nat) (p0 : Ag) (p1 : Int) : Option Int :=
 (Bf p0.fBase p1).bind fun v1 =>
 (EJ (0 ≤ v1)).bind fun _ =>
 Bi (fun (v3 : Int) =>
  some v3)
 fun j3 =>
 (Bf p0.fNext p1).bind fun v4 =>
 AT ((decide (0 ≤ v4)))
  ((Bf p0.fNext p1).bind fun v6 =>
  (EJ (0 ≤ v6)).bind fun _ =>
  j3 (Oi .u8 ((CF .u8 1 v1)) ((CF .u8 1 v6))))
  (j3 (CF .u8 1 v1))
def C3 (_ : Nat) (p0 : Int) : Option Int :=
 (Tc ((⟨⟨(List.append (List.append [8, 0, 1, 0, 2, 0, 1, 0, 3, 0, 1, 0, 2, 0, 1, 0, 4, 0, 1, 0, 2, 0, 1, 0, 3, 0, 1, 0, 2, 0, 1, 0, 5, 0, 1, 0, 2, 0, 1, 0, 3, 0, 1, 0, 2, 0, 1, 0, 4, 0, 1, 0, 2, 0, 1, 0, 3, 0, 1, 0, 2, 0, 1, 0] [6, 0, 1, 0, 2, 0, 1, 0, 3, 0, 1, 0, 2, 0, 1, 0, 4, 0, 1, 0, 2, 0, 1, 0, 3, 0, 1, 0, 2, 0, 1, 0, 5, 0, 1, 0, 2, 0, 1, 0, 3, 0, 1, 0, 2, 0, 1, 0, 4, 0, 1, 0, 2, 0, 1, 0, 3, 0, 1, 0, 2, 0, 1, 0]) (List.append [7, 0, 1, 0, 2, 0, 1, 0, 3, 0, 1, 0, 2, 0, 1, 0, 4, 0, 1, 0, 2, 0, 1, 0, 3, 0, 1, 0, 2, 0, 1, 0, 5, 0, 1, 0, 2, 0, 1, 0, 3, 0, 1, 0, 2, 0, 1, 0, 4, 0, 1, 0, 2, 0, 1, 0, 3, 0, 1, 0, 2, 0, 1, 0] [6, 0, 1, 0, 2, 0, 1, 0, 3, 0, 1, 0, 2, 0, 1, 0, 4, 0, 1, 0, 2, 0, 1, 0, 3, 0, 1, 0, 2, 0, 1, 0, 5, 0, 1, 0, 2, 0, 1, 0, 3, 0, 1, 0, 2, 0, 1, 0, 4, 0, 1, 0, 2, 0, 1, 0, 3, 0, 1, 0, 2, 0, 1, 0]))⟩⟩ : ByteArray)) p0).bind fun v1 =>
 some ((wI .i64 v1))
def Dy (N : Nat) (p0 : AV) (p2 : Int) (j1 : Unit → Option Bool) : Nat → Int → Option Bool
 | 0, _ => none
 | n1 + 1, v1 =>
  AT ((v1 != 0))
   ((C3 N v1).bind fun v4 =>
   (Bf p0.fRewrite v4).bind fun v5 =>
   (Bf v5 p2).bind fun v6 =>
   AT ((!v6))
    (some false)
    (Dy N p0 p2 j1 n1 (FT .u8 v1 ((wI .u8 (v1 - 1))))))
   (j1 ())
def FF (N : Nat) (p0 : AV) (p1 : Int) (p2 : Int) : Option Bool :=
 Dy N p0 p2 (fun (_ : Unit) =>
  some true) N p1
def GZ (N : Nat) (p0 : Aj) (p1 : Ag) (p2 : Int) : Option (Bool × (List Int)) :=
 (Bf p0.fTables p2).bind fun v1 =>
 (Fz N v1).bind fun v2 =>
 AT ((!v2))
  (some (false, p1.fHeld))
  ((F0 N p1 v1.fFrom).bind fun v4 =>
  (Bf p1.fHeld p2).bind fun v5 =>
  Bi (fun (v6 : Bool) =>
   AT v6
    (some (false, p1.fHeld))
    ((Bf p1.fHeld p2).bind fun _ =>
    some (true, p1.fHeld.set ((p2).toNat) v4)))
  fun j6 =>
  (Bf p1.fHeld p2).bind fun v7 =>
  AT ((v7 == v4))
   (j6 true)
   (AT ((v1.fKind == 4))
    ((Bf p1.fBase v1.fFrom).bind fun v10 =>
    (FF N v1 ((Do .u8 v5 v4)) v10).bind fun v11 =>
    j6 (!v11))
    (j6 false)))
def Fp (N : Nat) (p0 : Aj) (p1 : Ag) (p2 : Aw) : Option (Ag × Bool) :=
 (Gy N p1).bind fun v1 =>
 AT ((p2.fKind == 1))
  ((H2 N p0 v1 p2).bind fun v3 =>
  some ((Ag.mk v1.fBase v3.2.1 v3.2.2), v3.1))
  (AT ((p2.fKind == 3))
   ((GZ N p0 v1 p2.fIndex).bind fun v5 =>
   some ((Ag.mk v1.fBase v1.fNext v5.2), v5.1))
   ((Bf v1.fNext p2.fIndex).bind fun v6 =>
   AT ((decide (v6 < 0)))
    (some (v1, false))
    ((Bf v1.fNext p2.fIndex).bind fun _ =>
    Bi (fun (v9 : (List Int)) =>
     some ((Ag.mk v9 (v1.fNext.set ((p2.fIndex).toNat) ((-1))) v1.fHeld), true))
    fun j9 =>
    AT ((p2.fKind == 2))
     ((Bf v1.fBase p2.fIndex).bind fun _ =>
     j9 (v1.fBase.set ((p2.fIndex).toNat) v6))
     (j9 v1.fBase))))
def Dw (N : Nat) (p0 : Aw) (p1 : List Int) (p2 : List Int) (p3 : List Int) (p4 : List AV) (p5 : List Int) (p6 : List Int) (p7 : List Int) : Option Bool :=
 (Fp N ((Aj.mk p1 p2 p3 p4)) ((Ag.mk p5 p6 p7)) p0).bind fun v1 =>
 some ((!v1.2))
def Bl (N : Nat) (p0 : List Aw) (p1 : Aw → Option Bool) (j1 : Unit → Option Int) : Nat → Int → Option Int
 | 0, _ => none
 | n1 + 1, v1 =>
  AT ((decide (v1 < (p0.length : Int))))
   ((Bf p0 v1).bind fun v4 =>
   (p1 v4).bind fun v5 =>
   AT v5
    (some v1)
    (Bl N p0 p1 j1 n1 (wI .i64 (v1 + 1))))
   (j1 ())
def B0 (N : Nat) (p0 : List Aw) (p1 : Aw → Option Bool) : Option Int :=
 Bl N p0 p1 (fun (_ : Unit) =>
  some ((-1))) N 0
def Bc (N : Nat) (p1 : Aw → Option Bool) (j3 : ((List Aw) × Int) → Option (Nat × (List Aw))) : Nat → ((List Aw) × Int × Int) → Option (Nat × (List Aw))
 | 0, _ => none
 | n3 + 1, v3 =>
  AT ((decide (v3.2.2 < (v3.1.length : Int))))
   (Bi (fun (v6 : (List Aw) × Int) =>
    Bc N p1 j3 n3 (v6.1, v6.2, (wI .i64 (v3.2.2 + 1))))
   fun j6 =>
   (Bf v3.1 v3.2.2).bind fun v7 =>
   (p1 v7).bind fun v8 =>
   AT ((!v8))
    ((Bf v3.1 v3.2.1).bind fun _ =>
    j6 (v3.1.set ((v3.2.1).toNat) v7, (wI .i64 (v3.2.1 + 1))))
    (j6 (v3.1, v3.2.1)))
   (j3 (v3.1, v3.2.1))
def BX (N : Nat) (p0 : List Aw) (p1 : Aw → Option Bool) : Option (Nat × (List Aw)) :=
 (B0 N p0 p1).bind fun v1 =>
 AT ((v1 == (-1)))
  (some (p0.length, p0))
  (Bc N p1 (fun (v4 : (List Aw) × Int) =>
   (EJ ((0 : Int) ≤ v4.2 ∧ (v4.2).toNat ≤ v4.1.length ∧ v4.1.length ≤ v4.1.length)).bind fun _ =>
   (EJ ((0 : Int) ≤ v4.2 ∧ 0 ≤ (v4.2).toNat ∧ (v4.2).toNat ≤ (HQ v4.1 ((v4.2).toNat) (List.replicate ((v4.1.length - (v4.2).toNat)) ((Aw.mk 0 0 0)))).length)).bind fun _ =>
   some ((v4.2).toNat, HQ v4.1 ((v4.2).toNat) (List.replicate ((v4.1.length - (v4.2).toNat)) ((Aw.mk 0 0 0))))) N (p0, v1, (wI .i64 (v1 + 1))))
def DE (N : Nat) (p0 : Aj) (p1 : Ag) : Option ((List Aw) × Int) :=
 (EQ N p0 p1).bind fun v1 =>
 AT ((v1 != 0))
  (some (([] : List Aw), v1))
  ((H5 N p0).bind fun v3 =>
  (BX N v3 ((fun (x : Aw) => Dw N x p0.fVersions p0.fNow p0.fTarget p0.fTables p1.fBase p1.fNext p1.fHeld))).bind fun v4 =>
  (EJ (v4.1 ≤ v4.2.length)).bind fun _ =>
  some (v4.2.take v4.1, 0))
def GV (_ : Nat) (p0 : Aw) : Option Bool :=
 Bi (fun (v1 : Bool) =>
  AT v1
   (some false)
   (Bi (fun (v5 : Bool) =>
    some v5)
   fun j5 =>
   AT ((p0.fKind == 1))
    (j5 true)
    (j5 (p0.fVersion == 0))))
 fun j1 =>
 AT ((decide ((Uh p0.fIndex p0.fVersion) < 0)))
  (j1 true)
  (AT ((decide (p0.fKind < 1)))
   (j1 true)
   (j1 (decide (4 < p0.fKind))))
def Gq (_ : Nat) (p0 : Aj) (p1 : Aw) : Option Bool :=
 AT ((p1.fKind == 3))
  (some ((decide (p1.fIndex < (p0.fTables.length : Int)))))
  (Bi (fun (v2 : Bool) =>
   some v2)
  fun j2 =>
  AT ((decide (p1.fIndex < (p0.fVersions.length : Int))))
   (AT ((p1.fKind != 1))
    (j2 true)
    ((Bf p0.fVersions p1.fIndex).bind fun v5 =>
    j2 (decide (p1.fVersion < v5))))
   (j2 false))
def G1 (N : Nat) (p0 : Aj) (p1 : Ag) (p2 : Aw) : Option (Ag × Int) :=
 (GV N p2).bind fun v1 =>
 AT ((!v1))
  (some ((Ag.mk (([] : List Int)) (([] : List Int)) (([] : List Int))), 1))
  ((Gq N p0 p2).bind fun v3 =>
  AT ((!v3))
   (some ((Ag.mk (([] : List Int)) (([] : List Int)) (([] : List Int))), 4))
   ((Fp N p0 p1 p2).bind fun v5 =>
   AT ((!v5.2))
    (some ((Ag.mk (([] : List Int)) (([] : List Int)) (([] : List Int))), 11))
    (some (v5.1, 0))))
def Fk (N : Nat) (p0 : Aj) (p1 : Ag) (p2 : Aw) : Option (Ag × Int) :=
 (EQ N p0 p1).bind fun v1 =>
 AT ((v1 != 0))
  (some ((Ag.mk (([] : List Int)) (([] : List Int)) (([] : List Int))), v1))
  ((G1 N p0 p1 p2).bind fun v3 =>
  some (v3.1, v3.2))
def GC (N : Nat) (p0 : Aj) (p1 : Ag) (v1 : (List Aw) × Int) (j2 : ((List Aw) × (List Ag)) → Option ((List Aw) × (List Ag))) : Nat → ((List Aw) × (List Ag) × Int) → Option ((List Aw) × (List Ag))
 | 0, _ => none
 | n2 + 1, v2 =>
  AT ((decide (v2.2.2 < (v1.1.length : Int))))
   (Bi (fun (v5 : (List Aw) × (List Ag)) =>
    GC N p0 p1 v1 j2 n2 (v5.1, v5.2, (wI .i64 (v2.2.2 + 1))))
   fun j5 =>
   (Bf v1.1 v2.2.2).bind fun v6 =>
   (Fk N p0 p1 v6).bind fun v7 =>
   AT ((v7.2 != 0))
    (j5 (v2.1, v2.2.1))
    ((Fo N p0 v7.1).bind fun v9 =>
    AT v9.1
     ((EJ (v2.1.length + (([v6] : List Aw)).length ≤ Fa)).bind fun _ =>
     (EJ (v2.2.1.length + (([v7.1] : List Ag)).length ≤ Fa)).bind fun _ =>
     j5 (v2.1 ++ (([v6] : List Aw)), v2.2.1 ++ (([v7.1] : List Ag))))
     (j5 (v2.1, v2.2.1))))
   (j2 (v2.1, v2.2.1))
def Jk (N : Nat) (p0 : Aj) (p1 : Ag) : Option ((List Aw) × (List Ag)) :=
 (DE N p0 p1).bind fun v1 =>
 GC N p0 p1 v1 (fun (v3 : (List Aw) × (List Ag)) =>
  some (v3.1, v3.2)) N (([] : List Aw), ([] : List Ag), 0)
def He (_ : Nat) (p0 : Int) : Option Int :=
 Bi (fun (v1 : Int × Int) =>
  Bi (fun (v3 : Int × Int) =>
   (Tc ((⟨⟨(List.append (List.append [0, 1, 2, 2, 3, 3, 3, 3, 4, 4, 4, 4, 4, 4, 4, 4, 5, 5, 5, 5, 5, 5, 5, 5, 5, 5, 5, 5, 5, 5, 5, 5, 6, 6, 6, 6, 6, 6, 6, 6, 6, 6, 6, 6, 6, 6, 6, 6, 6, 6, 6, 6, 6, 6, 6, 6, 6, 6, 6, 6, 6, 6, 6, 6] [7, 7, 7, 7, 7, 7, 7, 7, 7, 7, 7, 7, 7, 7, 7, 7, 7, 7, 7, 7, 7, 7, 7, 7, 7, 7, 7, 7, 7, 7, 7, 7, 7, 7, 7, 7, 7, 7, 7, 7, 7, 7, 7, 7, 7, 7, 7, 7, 7, 7, 7, 7, 7, 7, 7, 7, 7, 7, 7, 7, 7, 7, 7, 7]) (List.append [8, 8, 8, 8, 8, 8, 8, 8, 8, 8, 8, 8, 8, 8, 8, 8, 8, 8, 8, 8, 8, 8, 8, 8, 8, 8, 8, 8, 8, 8, 8, 8, 8, 8, 8, 8, 8, 8, 8, 8, 8, 8, 8, 8, 8, 8, 8, 8, 8, 8, 8, 8, 8, 8, 8, 8, 8, 8, 8, 8, 8, 8, 8, 8] [8, 8, 8, 8, 8, 8, 8, 8, 8, 8, 8, 8, 8, 8, 8, 8, 8, 8, 8, 8, 8, 8, 8, 8, 8, 8, 8, 8, 8, 8, 8, 8, 8, 8, 8, 8, 8, 8, 8, 8, 8, 8, 8, 8, 8, 8, 8, 8, 8, 8, 8, 8, 8, 8, 8, 8, 8, 8, 8, 8, 8, 8, 8, 8]))⟩⟩ : ByteArray)) ((wI .u8 v3.1))).bind fun v5 =>
   some ((wI .i64 (v3.2 + (wI .i64 v5)))))
  fun j3 =>
  AT ((decide (256 ≤ v1.1)))
   (j3 ((EA .u32 v1.1 8), (wI .i64 (v1.2 + 8))))
   (j3 (v1.1, v1.2)))
 fun j1 =>
 AT ((decide (65536 ≤ p0)))
  (j1 ((EA .u32 p0 16), 16))
  (j1 (p0, 0))
def Hj (_ : Nat) (p0 : Int) : Option Int :=
 Bi (fun (v1 : Int × Int) =>
  Bi (fun (v3 : Int × Int) =>
   Bi (fun (v5 : Int × Int) =>
    (Tc ((⟨⟨(List.append (List.append [0, 1, 2, 2, 3, 3, 3, 3, 4, 4, 4, 4, 4, 4, 4, 4, 5, 5, 5, 5, 5, 5, 5, 5, 5, 5, 5, 5, 5, 5, 5, 5, 6, 6, 6, 6, 6, 6, 6, 6, 6, 6, 6, 6, 6, 6, 6, 6, 6, 6, 6, 6, 6, 6, 6, 6, 6, 6, 6, 6, 6, 6, 6, 6] [7, 7, 7, 7, 7, 7, 7, 7, 7, 7, 7, 7, 7, 7, 7, 7, 7, 7, 7, 7, 7, 7, 7, 7, 7, 7, 7, 7, 7, 7, 7, 7, 7, 7, 7, 7, 7, 7, 7, 7, 7, 7, 7, 7, 7, 7, 7, 7, 7, 7, 7, 7, 7, 7, 7, 7, 7, 7, 7, 7, 7, 7, 7, 7]) (List.append [8, 8, 8, 8, 8, 8, 8, 8, 8, 8, 8, 8, 8, 8, 8, 8, 8, 8, 8, 8, 8, 8, 8, 8, 8, 8, 8, 8, 8, 8, 8, 8, 8, 8, 8, 8, 8, 8, 8, 8, 8, 8, 8, 8, 8, 8, 8, 8, 8, 8, 8, 8, 8, 8, 8, 8, 8, 8, 8, 8, 8, 8, 8, 8] [8, 8, 8, 8, 8, 8, 8, 8, 8, 8, 8, 8, 8, 8, 8, 8, 8, 8, 8, 8, 8, 8, 8, 8, 8, 8, 8, 8, 8, 8, 8, 8, 8, 8, 8, 8, 8, 8, 8, 8, 8, 8, 8, 8, 8, 8, 8, 8, 8, 8, 8, 8, 8, 8, 8, 8, 8, 8, 8, 8, 8, 8, 8, 8]))⟩⟩ : ByteArray)) ((wI .u8 v5.1))).bind fun v7 =>
    some ((wI .i64 (v5.2 + (wI .i64 v7)))))
   fun j5 =>
   AT ((decide (256 ≤ v3.1)))
    (j5 ((EA .u64 v3.1 8), (wI .i64 (v3.2 + 8))))
    (j5 (v3.1, v3.2)))
  fun j3 =>
  AT ((decide (65536 ≤ v1.1)))
   (j3 ((EA .u64 v1.1 16), (wI .i64 (v1.2 + 16))))
   (j3 (v1.1, v1.2)))
 fun j1 =>
 AT ((decide (4294967296 ≤ p0)))
  (j1 ((EA .u64 p0 32), 32))
  (j1 (p0, 0))
def Dm (N : Nat) (p0 : Int) : Option Int :=
 AT false
  ((He N ((wI .u32 p0))).bind fun v2 =>
  some v2)
  ((Hj N p0).bind fun v3 =>
  some v3)
variable {α : Type}
def Gs.insertionSort_L4 (N : Nat) (p1 : Int) (p3 : (α × α) → Option Int) (j4 : ((List α)) → Option ((List α))) : Nat → ((List α) × Int) → Option ((List α))
 | 0, _ => none
 | n4 + 1, v4 =>
  Bi (fun (v6 : Bool) =>
   AT v6
    ((Bf v4.1 ((wI .i64 (v4.2 - 1)))).bind fun v12 =>
    (Bf v4.1 v4.2).bind fun v13 =>
    (Bf v4.1 v4.2).bind fun _ =>
    (Bf (v4.1.set ((v4.2).toNat) v12) ((wI .i64 (v4.2 - 1)))).bind fun _ =>
    Gs.insertionSort_L4 N p1 p3 j4 n4 ((v4.1.set ((v4.2).toNat) v12).set (((wI .i64 (v4.2 - 1))).toNat) v13, (wI .i64 (v4.2 - 1))))
    (j4 v4.1))
  fun j6 =>
  AT ((decide (p1 < v4.2)))
   ((Bf v4.1 v4.2).bind fun v8 =>
   (Bf v4.1 ((wI .i64 (v4.2 - 1)))).bind fun v9 =>
   (p3 ((v8, v9))).bind fun v10 =>
   j6 (decide (v10 < 0)))
   (j6 false)
def Gs.insertionSort_L1 (N : Nat) (p1 : Int) (p2 : Int) (p3 : (α × α) → Option Int) (j1 : ((List α)) → Option ((List α))) : Nat → ((List α) × Int) → Option ((List α))
 | 0, _ => none
 | n1 + 1, v1 =>
  AT ((decide (v1.2 < p2)))
   (Gs.insertionSort_L4 N p1 p3 (fun (v5 : (List α)) =>
    Gs.insertionSort_L1 N p1 p2 p3 j1 n1 (v5, (wI .i64 (v1.2 + 1)))) N (v1.1, v1.2))
   (j1 v1.1)
def Gs.insertionSort (N : Nat) (p0 : List α) (p1 : Int) (p2 : Int) (p3 : (α × α) → Option Int) : Option ((List α)) :=
 Gs.insertionSort_L1 N p1 p2 p3 (fun (v2 : (List α)) =>
  some v2) N (p0, (wI .i64 (p1 + 1)))
def Gs.siftDown_L1 (N : Nat) (p2 : Int) (p3 : Int) (p4 : (α × α) → Option Int) (j1 : ((List α)) → Option ((List α))) : Nat → ((List α) × Int) → Option ((List α))
 | 0, _ => none
 | n1 + 1, v1 =>
  AT ((decide (p2 ≤ (wI .i64 ((wI .i64 (2 * v1.2)) + 1)))))
   (j1 v1.1)
   (Bi (fun (v4 : Int) =>
    (Bf v1.1 ((wI .i64 (p3 + v1.2)))).bind fun v11 =>
    (Bf v1.1 ((wI .i64 (p3 + v4)))).bind fun v12 =>
    (p4 ((v11, v12))).bind fun v13 =>
    AT ((!((decide (v13 < 0)))))
     (some v1.1)
     ((Bf v1.1 ((wI .i64 (p3 + v4)))).bind fun v15 =>
     (Bf v1.1 ((wI .i64 (p3 + v1.2)))).bind fun v16 =>
     (Bf v1.1 ((wI .i64 (p3 + v1.2)))).bind fun _ =>
     (Bf (v1.1.set (((wI .i64 (p3 + v1.2))).toNat) v15) ((wI .i64 (p3 + v4)))).bind fun _ =>
     Gs.siftDown_L1 N p2 p3 p4 j1 n1 ((v1.1.set (((wI .i64 (p3 + v1.2))).toNat) v15).set (((wI .i64 (p3 + v4))).toNat) v16, v4)))
   fun j4 =>
   Bi (fun (v5 : Bool) =>
    AT v5
     (j4 (wI .i64 ((wI .i64 ((wI .i64 (2 * v1.2)) + 1)) + 1)))
     (j4 (wI .i64 ((wI .i64 (2 * v1.2)) + 1))))
   fun j5 =>
   AT ((decide ((wI .i64 ((wI .i64 ((wI .i64 (2 * v1.2)) + 1)) + 1)) < p2)))
    ((Bf v1.1 ((wI .i64 (p3 + (wI .i64 ((wI .i64 (2 * v1.2)) + 1)))))).bind fun v7 =>
    (Bf v1.1 ((wI .i64 ((wI .i64 (p3 + (wI .i64 ((wI .i64 (2 * v1.2)) + 1)))) + 1)))).bind fun v8 =>
    (p4 ((v7, v8))).bind fun v9 =>
    j5 (decide (v9 < 0)))
    (j5 false))
def Gs.siftDown (N : Nat) (p0 : List α) (p1 : Int) (p2 : Int) (p3 : Int) (p4 : (α × α) → Option Int) : Option ((List α)) :=
 Gs.siftDown_L1 N p2 p3 p4 (fun (v2 : (List α)) =>
  some v2) N (p0, p1)
def Gs.heapSort_L1 (N : Nat) (p1 : Int) (p2 : Int) (p3 : (α × α) → Option Int) (j1 : ((List α)) → Option ((List α))) : Nat → ((List α) × Int) → Option ((List α))
 | 0, _ => none
 | n1 + 1, v1 =>
  AT ((decide (0 ≤ v1.2)))
   ((Gs.siftDown N v1.1 v1.2 ((wI .i64 (p2 - p1))) p1 p3).bind fun v4 =>
   Gs.heapSort_L1 N p1 p2 p3 j1 n1 (v4, (wI .i64 (v1.2 - 1))))
   (j1 v1.1)
def Gs.heapSort_L5 (N : Nat) (p1 : Int) (p3 : (α × α) → Option Int) (j5 : ((List α)) → Option ((List α))) : Nat → ((List α) × Int) → Option ((List α))
 | 0, _ => none
 | n5 + 1, v5 =>
  AT ((decide (0 ≤ v5.2)))
   ((Bf v5.1 ((wI .i64 (p1 + v5.2)))).bind fun v8 =>
   (Bf v5.1 p1).bind fun v9 =>
   (Bf v5.1 p1).bind fun _ =>
   (Bf (v5.1.set ((p1).toNat) v8) ((wI .i64 (p1 + v5.2)))).bind fun _ =>
   (Gs.siftDown N ((v5.1.set ((p1).toNat) v8).set (((wI .i64 (p1 + v5.2))).toNat) v9) 0 v5.2 p1 p3).bind fun v12 =>
   Gs.heapSort_L5 N p1 p3 j5 n5 (v12, (wI .i64 (v5.2 - 1))))
   (j5 v5.1)
def Gs.heapSort (N : Nat) (p0 : List α) (p1 : Int) (p2 : Int) (p3 : (α × α) → Option Int) : Option ((List α)) :=
 Gs.heapSort_L1 N p1 p2 p3 (fun (v2 : (List α)) =>
  Gs.heapSort_L5 N p1 p3 (fun (v6 : (List α)) =>
   some v6) N (v2, (wI .i64 ((wI .i64 (p2 - p1)) - 1)))) N (p0, (wI .i64 (Int.tdiv ((wI .i64 ((wI .i64 (p2 - p1)) - 1))) 2)))
def DD (N : Nat) (p0 : Int) : Option Int :=
 (Dm N ((wI .u64 p0))).bind fun v1 =>
 (EJ (0 ≤ v1)).bind fun _ =>
 some ((CF .u64 1 v1))
def DQ (_ : Nat) (p0 : Int) : Option (Int × Int) :=
 some ((G4 .u64 ((G4 .u64 ((G4 .u64 p0 ((CF .u64 p0 13)))) ((EA .u64 ((G4 .u64 p0 ((CF .u64 p0 13)))) 7)))) ((CF .u64 ((G4 .u64 ((G4 .u64 p0 ((CF .u64 p0 13)))) ((EA .u64 ((G4 .u64 p0 ((CF .u64 p0 13)))) 7)))) 17))), (G4 .u64 ((G4 .u64 ((G4 .u64 p0 ((CF .u64 p0 13)))) ((EA .u64 ((G4 .u64 p0 ((CF .u64 p0 13)))) 7)))) ((CF .u64 ((G4 .u64 ((G4 .u64 p0 ((CF .u64 p0 13)))) ((EA .u64 ((G4 .u64 p0 ((CF .u64 p0 13)))) 7)))) 17))))
def Gs.breakPatterns_L3 (N : Nat) (p1 : Int) (p2 : Int) (v2 : Int) (j3 : ((List α)) → Option ((List α))) : Nat → ((List α) × Int × Int) → Option ((List α))
 | 0, _ => none
 | n3 + 1, v3 =>
  AT ((decide (v3.2.2 ≤ (wI .i64 ((wI .i64 (p1 + (wI .i64 ((wI .i64 (Int.tdiv ((wI .i64 (p2 - p1))) 4)) * 2)))) + 1)))))
   ((DQ N v3.2.1).bind fun v6 =>
   Bi (fun (v7 : Int) =>
    (Bf v3.1 ((wI .i64 (p1 + v7)))).bind fun v9 =>
    (Bf v3.1 v3.2.2).bind fun v10 =>
    (Bf v3.1 v3.2.2).bind fun _ =>
    (Bf (v3.1.set ((v3.2.2).toNat) v9) ((wI .i64 (p1 + v7)))).bind fun _ =>
    Gs.breakPatterns_L3 N p1 p2 v2 j3 n3 ((v3.1.set ((v3.2.2).toNat) v9).set (((wI .i64 (p1 + v7))).toNat) v10, v6.2, (wI .i64 (v3.2.2 + 1))))
   fun j7 =>
   AT ((decide ((wI .i64 (p2 - p1)) ≤ (wI .i64 ((FT .u64 v6.1 ((wI .u64 (v2 - 1)))))))))
    (j7 (wI .i64 ((wI .i64 ((FT .u64 v6.1 ((wI .u64 (v2 - 1)))))) - (wI .i64 (p2 - p1)))))
    (j7 (wI .i64 ((FT .u64 v6.1 ((wI .u64 (v2 - 1))))))))
   (j3 v3.1)
def Gs.breakPatterns (N : Nat) (p0 : List α) (p1 : Int) (p2 : Int) (_ : (α × α) → Option Int) : Option ((List α)) :=
 AT ((decide (8 ≤ (wI .i64 (p2 - p1)))))
  ((DD N ((wI .i64 (p2 - p1)))).bind fun v2 =>
  Gs.breakPatterns_L3 N p1 p2 v2 (fun (v4 : (List α)) =>
   some v4) N (p0, (wI .u64 ((wI .i64 (p2 - p1)))), (wI .i64 ((wI .i64 (p1 + (wI .i64 ((wI .i64 (Int.tdiv ((wI .i64 (p2 - p1))) 4)) * 2)))) - 1))))
  (some p0)
def Gs.order2 (_ : Nat) (p0 : List α) (p1 : Int) (p2 : Int) (p3 : Int) (p4 : (α × α) → Option Int) : Option (Int × Int × Int) :=
 (Bf p0 p2).bind fun v1 =>
 (Bf p0 p1).bind fun v2 =>
 (p4 ((v1, v2))).bind fun v3 =>
 AT ((decide (v3 < 0)))
  (some (p2, p1, (wI .i64 (p3 + 1))))
  (some (p1, p2, p3))
def Gs.median (N : Nat) (p0 : List α) (p1 : Int) (p2 : Int) (p3 : Int) (p4 : Int) (p5 : (α × α) → Option Int) : Option (Int × Int) :=
 (Gs.order2 N p0 p1 p2 p4 p5).bind fun v1 =>
 (Gs.order2 N p0 v1.2.1 p3 v1.2.2 p5).bind fun v2 =>
 (Gs.order2 N p0 v1.1 v2.1 v2.2.2 p5).bind fun v3 =>
 some (v3.2.1, v3.2.2)
def Gs.medianAdjacent (N : Nat) (p0 : List α) (p1 : Int) (p2 : Int) (p3 : (α × α) → Option Int) : Option (Int × Int) :=
 (Gs.median N p0 ((wI .i64 (p1 - 1))) p1 ((wI .i64 (p1 + 1))) p2 p3).bind fun v1 =>
 some (v1.1, v1.2)
def Gs.choosePivot (N : Nat) (p0 : List α) (p1 : Int) (p2 : Int) (p3 : (α × α) → Option Int) : Option (Int × Int) :=
 Bi (fun (v1 : Int × Int) =>
  AT ((v1.1 == 0))
   (some (v1.2, 1))
   (AT ((v1.1 == 12))
    (some (v1.2, 2))
    (some (v1.2, 0))))
 fun j1 =>
 AT ((decide (8 ≤ (wI .i64 (p2 - p1)))))
  (Bi (fun (v3 : Int × Int × Int × Int) =>
   (Gs.median N p0 v3.2.1 v3.2.2.1 v3.2.2.2 v3.1 p3).bind fun v8 =>
   j1 (v8.2, v8.1))
  fun j3 =>
  AT ((decide (50 ≤ (wI .i64 (p2 - p1)))))
   ((Gs.medianAdjacent N p0 ((wI .i64 (p1 + (wI .i64 ((wI .i64 (Int.tdiv ((wI .i64 (p2 - p1))) 4)) * 1))))) 0 p3).bind fun v5 =>
   (Gs.medianAdjacent N p0 ((wI .i64 (p1 + (wI .i64 ((wI .i64 (Int.tdiv ((wI .i64 (p2 - p1))) 4)) * 2))))) v5.2 p3).bind fun v6 =>
   (Gs.medianAdjacent N p0 ((wI .i64 (p1 + (wI .i64 ((wI .i64 (Int.tdiv ((wI .i64 (p2 - p1))) 4)) * 3))))) v6.2 p3).bind fun v7 =>
   j3 (v7.2, v5.1, v6.1, v7.1))
   (j3 (0, (wI .i64 (p1 + (wI .i64 ((wI .i64 (Int.tdiv ((wI .i64 (p2 - p1))) 4)) * 1)))), (wI .i64 (p1 + (wI .i64 ((wI .i64 (Int.tdiv ((wI .i64 (p2 - p1))) 4)) * 2)))), (wI .i64 (p1 + (wI .i64 ((wI .i64 (Int.tdiv ((wI .i64 (p2 - p1))) 4)) * 3)))))))
  (j1 (0, (wI .i64 (p1 + (wI .i64 ((wI .i64 (Int.tdiv ((wI .i64 (p2 - p1))) 4)) * 2))))))
def Gs.reverseRange_L1 (N : Nat) (j1 : ((List α)) → Option ((List α))) : Nat → ((List α) × Int × Int) → Option ((List α))
 | 0, _ => none
 | n1 + 1, v1 =>
  AT ((decide (v1.2.1 < v1.2.2)))
   ((Bf v1.1 v1.2.2).bind fun v4 =>
   (Bf v1.1 v1.2.1).bind fun v5 =>
   (Bf v1.1 v1.2.1).bind fun _ =>
   (Bf (v1.1.set ((v1.2.1).toNat) v4) v1.2.2).bind fun _ =>
   Gs.reverseRange_L1 N j1 n1 ((v1.1.set ((v1.2.1).toNat) v4).set ((v1.2.2).toNat) v5, (wI .i64 (v1.2.1 + 1)), (wI .i64 (v1.2.2 - 1))))
   (j1 v1.1)
def Gs.reverseRange (N : Nat) (p0 : List α) (p1 : Int) (p2 : Int) (_ : (α × α) → Option Int) : Option ((List α)) :=
 Gs.reverseRange_L1 N (fun (v2 : (List α)) =>
  some v2) N (p0, p1, (wI .i64 (p2 - 1)))
def Gs.partialInsertionSort_L5 (N : Nat) (p2 : Int) (p3 : (α × α) → Option Int) (v1 : (List α) × Int × Int) (j5 : Int → Option (Bool × (List α))) : Nat → Int → Option (Bool × (List α))
 | 0, _ => none
 | n5 + 1, v5 =>
  Bi (fun (v7 : Bool) =>
   AT v7
    (Gs.partialInsertionSort_L5 N p2 p3 v1 j5 n5 (wI .i64 (v5 + 1)))
    (j5 v5))
  fun j7 =>
  AT ((decide (v5 < p2)))
   ((Bf v1.1 v5).bind fun v9 =>
   (Bf v1.1 ((wI .i64 (v5 - 1)))).bind fun v10 =>
   (p3 ((v9, v10))).bind fun v11 =>
   j7 (!((decide (v11 < 0)))))
   (j7 false)
def Gs.partialInsertionSort_L21 (N : Nat) (p3 : (α × α) → Option Int) (j21 : ((List α)) → Option (Bool × (List α))) : Nat → ((List α) × Int) → Option (Bool × (List α))
 | 0, _ => none
 | n21 + 1, v21 =>
  AT ((decide (1 ≤ v21.2)))
   ((Bf v21.1 v21.2).bind fun v24 =>
   (Bf v21.1 ((wI .i64 (v21.2 - 1)))).bind fun v25 =>
   (p3 ((v24, v25))).bind fun v26 =>
   AT ((!((decide (v26 < 0)))))
    (j21 v21.1)
    ((Bf v21.1 ((wI .i64 (v21.2 - 1)))).bind fun v28 =>
    (Bf v21.1 v21.2).bind fun v29 =>
    (Bf v21.1 v21.2).bind fun _ =>
    (Bf (v21.1.set ((v21.2).toNat) v28) ((wI .i64 (v21.2 - 1)))).bind fun _ =>
    Gs.partialInsertionSort_L21 N p3 j21 n21 ((v21.1.set ((v21.2).toNat) v28).set (((wI .i64 (v21.2 - 1))).toNat) v29, (wI .i64 (v21.2 - 1)))))
   (j21 v21.1)
def Gs.partialInsertionSort_L33 (N : Nat) (p2 : Int) (p3 : (α × α) → Option Int) (j33 : ((List α)) → Option (Bool × (List α))) : Nat → ((List α) × Int) → Option (Bool × (List α))
 | 0, _ => none
 | n33 + 1, v33 =>
  AT ((decide (v33.2 < p2)))
   ((Bf v33.1 v33.2).bind fun v36 =>
   (Bf v33.1 ((wI .i64 (v33.2 - 1)))).bind fun v37 =>
   (p3 ((v36, v37))).bind fun v38 =>
   AT ((!((decide (v38 < 0)))))
    (j33 v33.1)
    ((Bf v33.1 ((wI .i64 (v33.2 - 1)))).bind fun v40 =>
    (Bf v33.1 v33.2).bind fun v41 =>
    (Bf v33.1 v33.2).bind fun _ =>
    (Bf (v33.1.set ((v33.2).toNat) v40) ((wI .i64 (v33.2 - 1)))).bind fun _ =>
    Gs.partialInsertionSort_L33 N p2 p3 j33 n33 ((v33.1.set ((v33.2).toNat) v40).set (((wI .i64 (v33.2 - 1))).toNat) v41, (wI .i64 (v33.2 + 1)))))
   (j33 v33.1)
def Gs.partialInsertionSort_L1 (N : Nat) (p1 : Int) (p2 : Int) (p3 : (α × α) → Option Int) (j1 : ((List α)) → Option (Bool × (List α))) : Nat → ((List α) × Int × Int) → Option (Bool × (List α))
 | 0, _ => none
 | n1 + 1, v1 =>
  AT ((decide (v1.2.2 < 5)))
   (Bi (fun (v4 : (List α) × Int) =>
    Gs.partialInsertionSort_L1 N p1 p2 p3 j1 n1 (v4.1, v4.2, (wI .i64 (v1.2.2 + 1))))
   fun j4 =>
   Gs.partialInsertionSort_L5 N p2 p3 v1 (fun (v6 : Int) =>
    AT ((v6 == p2))
     (some (true, v1.1))
     (AT ((decide ((wI .i64 (p2 - p1)) < 50)))
      (some (false, v1.1))
      ((Bf v1.1 ((wI .i64 (v6 - 1)))).bind fun v15 =>
      (Bf v1.1 v6).bind fun v16 =>
      (Bf v1.1 v6).bind fun _ =>
      (Bf (v1.1.set ((v6).toNat) v15) ((wI .i64 (v6 - 1)))).bind fun _ =>
      Bi (fun (v19 : (List α)) =>
       AT ((decide (2 ≤ (wI .i64 (p2 - v6)))))
        (Gs.partialInsertionSort_L33 N p2 p3 (fun (v34 : (List α)) =>
         j4 (v34, v6)) N (v19, (wI .i64 (v6 + 1))))
        (j4 (v19, v6)))
      fun j19 =>
      AT ((decide (2 ≤ (wI .i64 (v6 - p1)))))
       (Gs.partialInsertionSort_L21 N p3 (fun (v22 : (List α)) =>
        j19 v22) N ((v1.1.set ((v6).toNat) v15).set (((wI .i64 (v6 - 1))).toNat) v16, (wI .i64 (v6 - 1))))
       (j19 ((v1.1.set ((v6).toNat) v15).set (((wI .i64 (v6 - 1))).toNat) v16))))) N v1.2.1)
   (j1 v1.1)
def Gs.partialInsertionSort (N : Nat) (p0 : List α) (p1 : Int) (p2 : Int) (p3 : (α × α) → Option Int) : Option (Bool × (List α)) :=
 Gs.partialInsertionSort_L1 N p1 p2 p3 (fun (v2 : (List α)) =>
  some (false, v2)) N (p0, (wI .i64 (p1 + 1)), 0)
def Gs.partitionEqual_L7 (N : Nat) (p1 : Int) (p4 : (α × α) → Option Int) (v5 : (List α) × Int × Int) (j7 : Int → Option (Int × (List α))) : Nat → Int → Option (Int × (List α))
 | 0, _ => none
 | n7 + 1, v7 =>
  Bi (fun (v9 : Bool) =>
   AT v9
    (Gs.partitionEqual_L7 N p1 p4 v5 j7 n7 (wI .i64 (v7 + 1)))
    (j7 v7))
  fun j9 =>
  AT ((decide (v7 ≤ v5.2.2)))
   ((Bf v5.1 p1).bind fun v11 =>
   (Bf v5.1 v7).bind fun v12 =>
   (p4 ((v11, v12))).bind fun v13 =>
   j9 (!((decide (v13 < 0)))))
   (j9 false)
def Gs.partitionEqual_L15 (N : Nat) (p1 : Int) (p4 : (α × α) → Option Int) (v5 : (List α) × Int × Int) (v8 : Int) (j15 : Int → Option (Int × (List α))) : Nat → Int → Option (Int × (List α))
 | 0, _ => none
 | n15 + 1, v15 =>
  Bi (fun (v17 : Bool) =>
   AT v17
    (Gs.partitionEqual_L15 N p1 p4 v5 v8 j15 n15 (wI .i64 (v15 - 1)))
    (j15 v15))
  fun j17 =>
  AT ((decide (v8 ≤ v15)))
   ((Bf v5.1 p1).bind fun v19 =>
   (Bf v5.1 v15).bind fun v20 =>
   (p4 ((v19, v20))).bind fun v21 =>
   j17 (decide (v21 < 0)))
   (j17 false)
def Gs.partitionEqual_L5 (N : Nat) (p1 : Int) (p4 : (α × α) → Option Int) (j5 : ((List α) × Int) → Option (Int × (List α))) : Nat → ((List α) × Int × Int) → Option (Int × (List α))
 | 0, _ => none
 | n5 + 1, v5 =>
  Gs.partitionEqual_L7 N p1 p4 v5 (fun (v8 : Int) =>
   Gs.partitionEqual_L15 N p1 p4 v5 v8 (fun (v16 : Int) =>
    AT ((decide (v16 < v8)))
     (j5 (v5.1, v8))
     ((Bf v5.1 v16).bind fun v24 =>
     (Bf v5.1 v8).bind fun v25 =>
     (Bf v5.1 v8).bind fun _ =>
     (Bf (v5.1.set ((v8).toNat) v24) v16).bind fun _ =>
     Gs.partitionEqual_L5 N p1 p4 j5 n5 ((v5.1.set ((v8).toNat) v24).set ((v16).toNat) v25, (wI .i64 (v8 + 1)), (wI .i64 (v16 - 1))))) N v5.2.2) N v5.2.1
def Gs.partitionEqual (N : Nat) (p0 : List α) (p1 : Int) (p2 : Int) (p3 : Int) (p4 : (α × α) → Option Int) : Option (Int × (List α)) :=
 (Bf p0 p3).bind fun v1 =>
 (Bf p0 p1).bind fun v2 =>
 (Bf p0 p1).bind fun _ =>
 (Bf (p0.set ((p1).toNat) v1) p3).bind fun _ =>
 Gs.partitionEqual_L5 N p1 p4 (fun (v6 : (List α) × Int) =>
  some (v6.2, v6.1)) N ((p0.set ((p1).toNat) v1).set ((p3).toNat) v2, (wI .i64 (p1 + 1)), (wI .i64 (p2 - 1)))
def Gs.partition_L5 (N : Nat) (p0 : List α) (p1 : Int) (p2 : Int) (p3 : Int) (p4 : (α × α) → Option Int) (v1 : α) (v2 : α) (j5 : Int → Option (Int × Bool × (List α))) : Nat → Int → Option (Int × Bool × (List α))
 | 0, _ => none
 | n5 + 1, v5 =>
  Bi (fun (v7 : Bool) =>
   AT v7
    (Gs.partition_L5 N p0 p1 p2 p3 p4 v1 v2 j5 n5 (wI .i64 (v5 + 1)))
    (j5 v5))
  fun j7 =>
  AT ((decide (v5 ≤ (wI .i64 (p2 - 1)))))
   ((Bf ((p0.set ((p1).toNat) v1).set ((p3).toNat) v2) v5).bind fun v9 =>
   (Bf ((p0.set ((p1).toNat) v1).set ((p3).toNat) v2) p1).bind fun v10 =>
   (p4 ((v9, v10))).bind fun v11 =>
   j7 (decide (v11 < 0)))
   (j7 false)
def Gs.partition_L13 (N : Nat) (p0 : List α) (p1 : Int) (p3 : Int) (p4 : (α × α) → Option Int) (v1 : α) (v2 : α) (v6 : Int) (j13 : Int → Option (Int × Bool × (List α))) : Nat → Int → Option (Int × Bool × (List α))
 | 0, _ => none
 | n13 + 1, v13 =>
  Bi (fun (v15 : Bool) =>
   AT v15
    (Gs.partition_L13 N p0 p1 p3 p4 v1 v2 v6 j13 n13 (wI .i64 (v13 - 1)))
    (j13 v13))
  fun j15 =>
  AT ((decide (v6 ≤ v13)))
   ((Bf ((p0.set ((p1).toNat) v1).set ((p3).toNat) v2) v13).bind fun v17 =>
   (Bf ((p0.set ((p1).toNat) v1).set ((p3).toNat) v2) p1).bind fun v18 =>
   (p4 ((v17, v18))).bind fun v19 =>
   j15 (!((decide (v19 < 0)))))
   (j15 false)
def Gs.partition_L32 (N : Nat) (p1 : Int) (p4 : (α × α) → Option Int) (v30 : (List α) × Int × Int) (j32 : Int → Option (Int × Bool × (List α))) : Nat → Int → Option (Int × Bool × (List α))
 | 0, _ => none
 | n32 + 1, v32 =>
  Bi (fun (v34 : Bool) =>
   AT v34
    (Gs.partition_L32 N p1 p4 v30 j32 n32 (wI .i64 (v32 + 1)))
    (j32 v32))
  fun j34 =>
  AT ((decide (v32 ≤ v30.2.2)))
   ((Bf v30.1 v32).bind fun v36 =>
   (Bf v30.1 p1).bind fun v37 =>
   (p4 ((v36, v37))).bind fun v38 =>
   j34 (decide (v38 < 0)))
   (j34 false)
def Gs.partition_L40 (N : Nat) (p1 : Int) (p4 : (α × α) → Option Int) (v30 : (List α) × Int × Int) (v33 : Int) (j40 : Int → Option (Int × Bool × (List α))) : Nat → Int → Option (Int × Bool × (List α))
 | 0, _ => none
 | n40 + 1, v40 =>
  Bi (fun (v42 : Bool) =>
   AT v42
    (Gs.partition_L40 N p1 p4 v30 v33 j40 n40 (wI .i64 (v40 - 1)))
    (j40 v40))
  fun j42 =>
  AT ((decide (v33 ≤ v40)))
   ((Bf v30.1 v40).bind fun v44 =>
   (Bf v30.1 p1).bind fun v45 =>
   (p4 ((v44, v45))).bind fun v46 =>
   j42 (!((decide (v46 < 0)))))
   (j42 false)
def Gs.partition_L30 (N : Nat) (p1 : Int) (p4 : (α × α) → Option Int) (j30 : ((List α) × Int) → Option (Int × Bool × (List α))) : Nat → ((List α) × Int × Int) → Option (Int × Bool × (List α))
 | 0, _ => none
 | n30 + 1, v30 =>
  Gs.partition_L32 N p1 p4 v30 (fun (v33 : Int) =>
   Gs.partition_L40 N p1 p4 v30 v33 (fun (v41 : Int) =>
    AT ((decide (v41 < v33)))
     (j30 (v30.1, v41))
     ((Bf v30.1 v41).bind fun v49 =>
     (Bf v30.1 v33).bind fun v50 =>
     (Bf v30.1 v33).bind fun _ =>
     (Bf (v30.1.set ((v33).toNat) v49) v41).bind fun _ =>
     Gs.partition_L30 N p1 p4 j30 n30 ((v30.1.set ((v33).toNat) v49).set ((v41).toNat) v50, (wI .i64 (v33 + 1)), (wI .i64 (v41 - 1))))) N v30.2.2) N v30.2.1
def Gs.partition (N : Nat) (p0 : List α) (p1 : Int) (p2 : Int) (p3 : Int) (p4 : (α × α) → Option Int) : Option (Int × Bool × (List α)) :=
 (Bf p0 p3).bind fun v1 =>
 (Bf p0 p1).bind fun v2 =>
 (Bf p0 p1).bind fun _ =>
 (Bf (p0.set ((p1).toNat) v1) p3).bind fun _ =>
 Gs.partition_L5 N p0 p1 p2 p3 p4 v1 v2 (fun (v6 : Int) =>
  Gs.partition_L13 N p0 p1 p3 p4 v1 v2 v6 (fun (v14 : Int) =>
   AT ((decide (v14 < v6)))
    ((Bf ((p0.set ((p1).toNat) v1).set ((p3).toNat) v2) p1).bind fun v22 =>
    (Bf ((p0.set ((p1).toNat) v1).set ((p3).toNat) v2) v14).bind fun v23 =>
    (Bf ((p0.set ((p1).toNat) v1).set ((p3).toNat) v2) v14).bind fun _ =>
    (Bf (((p0.set ((p1).toNat) v1).set ((p3).toNat) v2).set ((v14).toNat) v22) p1).bind fun _ =>
    some (v14, true, (((p0.set ((p1).toNat) v1).set ((p3).toNat) v2).set ((v14).toNat) v22).set ((p1).toNat) v23))
    ((Bf ((p0.set ((p1).toNat) v1).set ((p3).toNat) v2) v14).bind fun v26 =>
    (Bf ((p0.set ((p1).toNat) v1).set ((p3).toNat) v2) v6).bind fun v27 =>
    (Bf ((p0.set ((p1).toNat) v1).set ((p3).toNat) v2) v6).bind fun _ =>
    (Bf (((p0.set ((p1).toNat) v1).set ((p3).toNat) v2).set ((v6).toNat) v26) v14).bind fun _ =>
    Gs.partition_L30 N p1 p4 (fun (v31 : (List α) × Int) =>
     (Bf v31.1 p1).bind fun v53 =>
     (Bf v31.1 v31.2).bind fun v54 =>
     (Bf v31.1 v31.2).bind fun _ =>
     (Bf (v31.1.set ((v31.2).toNat) v53) p1).bind fun _ =>
     some (v31.2, false, (v31.1.set ((v31.2).toNat) v53).set ((p1).toNat) v54)) N ((((p0.set ((p1).toNat) v1).set ((p3).toNat) v2).set ((v6).toNat) v26).set ((v14).toNat) v27, (wI .i64 (v6 + 1)), (wI .i64 (v14 - 1))))) N (wI .i64 (p2 - 1))) N (wI .i64 (p1 + 1))
def Gs.pdqsort_L1 (N : Nat) (p4 : (α × α) → Option Int) (rc : (List α) → Int → Int → Int → ((α × α) → Option Int) → Option ((List α))) (j1 : Unit → Option ((List α))) : Nat → ((List α) × Int × Int × Int × Bool × Bool) → Option ((List α))
 | 0, _ => none
 | n1 + 1, v1 =>
  AT ((decide ((wI .i64 (v1.2.2.1 - v1.2.1)) ≤ 12)))
   ((Gs.insertionSort N v1.1 v1.2.1 v1.2.2.1 p4).bind fun v4 =>
   some v4)
   (AT ((v1.2.2.2.1 == 0))
    ((Gs.heapSort N v1.1 v1.2.1 v1.2.2.1 p4).bind fun v6 =>
    some v6)
    (Bi (fun (v7 : (List α) × Int) =>
     (Gs.choosePivot N v7.1 v1.2.1 v1.2.2.1 p4).bind fun v10 =>
     Bi (fun (v11 : (List α) × Int × Int) =>
      Bi (fun (v14 : (List α)) =>
       Bi (fun (v21 : Bool) =>
        AT v21
         ((Gs.partitionEqual N v14 v1.2.1 v1.2.2.1 v11.2.1 p4).bind fun v27 =>
         Gs.pdqsort_L1 N p4 rc j1 n1 (v27.2, v27.1, v1.2.2.1, v7.2, v1.2.2.2.2.1, v1.2.2.2.2.2))
         ((Gs.partition N v14 v1.2.1 v1.2.2.1 v11.2.1 p4).bind fun v28 =>
         AT ((decide ((wI .i64 (v28.1 - v1.2.1)) < (wI .i64 (v1.2.2.1 - v28.1)))))
          ((rc v28.2.2 v1.2.1 v28.1 v7.2 p4).bind fun v30 =>
          Gs.pdqsort_L1 N p4 rc j1 n1 (v30, (wI .i64 (v28.1 + 1)), v1.2.2.1, v7.2, (decide ((wI .i64 (Int.tdiv ((wI .i64 (v1.2.2.1 - v1.2.1))) 8)) ≤ (wI .i64 (v28.1 - v1.2.1)))), v28.2.1))
          ((rc v28.2.2 ((wI .i64 (v28.1 + 1))) v1.2.2.1 v7.2 p4).bind fun v31 =>
          Gs.pdqsort_L1 N p4 rc j1 n1 (v31, v1.2.1, v28.1, v7.2, (decide ((wI .i64 (Int.tdiv ((wI .i64 (v1.2.2.1 - v1.2.1))) 8)) ≤ (wI .i64 (v1.2.2.1 - v28.1)))), v28.2.1))))
       fun j21 =>
       AT ((decide (0 < v1.2.1)))
        ((Bf v14 ((wI .i64 (v1.2.1 - 1)))).bind fun v23 =>
        (Bf v14 v11.2.1).bind fun v24 =>
        (p4 ((v23, v24))).bind fun v25 =>
        j21 (!((decide (v25 < 0)))))
        (j21 false))
      fun j14 =>
      Bi (fun (v15 : Bool) =>
       AT v15
        ((Gs.partialInsertionSort N v11.1 v1.2.1 v1.2.2.1 p4).bind fun v19 =>
        AT v19.1
         (some v19.2)
         (j14 v19.2))
        (j14 v11.1))
      fun j15 =>
      AT v1.2.2.2.2.1
       (AT v1.2.2.2.2.2
        (j15 (v11.2.2 == 1))
        (j15 false))
       (j15 false))
     fun j11 =>
     AT ((v10.2 == 2))
      ((Gs.reverseRange N v7.1 v1.2.1 v1.2.2.1 p4).bind fun v13 =>
      j11 (v13, (wI .i64 ((wI .i64 (v1.2.2.1 - 1)) - (wI .i64 (v10.1 - v1.2.1)))), 1))
      (j11 (v7.1, v10.1, v10.2)))
    fun j7 =>
    AT ((!v1.2.2.2.2.1))
     ((Gs.breakPatterns N v1.1 v1.2.1 v1.2.2.1 p4).bind fun v9 =>
     j7 (v9, (wI .i64 (v1.2.2.2.1 - 1))))
     (j7 (v1.1, v1.2.2.2.1))))
def Gs.pdqsort_B (N : Nat) (rc : (List α) → Int → Int → Int → ((α × α) → Option Int) → Option ((List α))) (p0 : List α) (p1 : Int) (p2 : Int) (p3 : Int) (p4 : (α × α) → Option Int) : Option ((List α)) :=
 Gs.pdqsort_L1 N p4 rc (fun (_ : Unit) =>
  none) N (p0, p1, p2, p3, true, true)
def Gs.pdqsort_R (N : Nat) : Nat → (List α) → Int → Int → Int → ((α × α) → Option Int) → Option ((List α))
 | 0, _, _, _, _, _ => none
 | k + 1, p0, p1, p2, p3, p4 => Gs.pdqsort_B N (Gs.pdqsort_R N k) p0 p1 p2 p3 p4
def Gs.pdqsort (N : Nat) (p0 : List α) (p1 : Int) (p2 : Int) (p3 : Int) (p4 : (α × α) → Option Int) : Option ((List α)) := Gs.pdqsort_R N N p0 p1 p2 p3 p4
def DN (N : Nat) (p0 : List Ag) (p1 : (Ag × Ag) → Option Int) : Option ((List Ag)) :=
 (Dm N ((wI .u64 ((p0.length : Int))))).bind fun v1 =>
 (Gs.pdqsort N p0 0 ((p0.length : Int)) v1 p1).bind fun v2 =>
 some v2
def FC (_ : Nat) (p0 : Int) : Option Bool :=
 some ((p0 != p0))
def C8 (N : Nat) (p0 : Int) (p1 : Int) : Option Int :=
 (FC N p0).bind fun v1 =>
 (FC N p1).bind fun v2 =>
 AT v1
  (AT v2
   (some 0)
   (some ((-1))))
  (AT v2
   (some 1)
   (AT ((decide (p0 < p1)))
    (some ((-1)))
    (AT ((decide (p1 < p0)))
     (some 1)
     (some 0))))
def DH (N : Nat) (p0 : List Int) (p1 : List Int) (j1 : Unit → Option Int) : Nat → Int → Option Int
 | 0, _ => none
 | n1 + 1, v1 =>
  AT ((decide (v1 < (p0.length : Int))))
   ((Bf p0 v1).bind fun v4 =>
   AT ((decide ((p1.length : Int) ≤ v1)))
    (some 1)
    ((Bf p1 v1).bind fun v6 =>
    (C8 N v4 v6).bind fun v7 =>
    AT ((v7 != 0))
     (some v7)
     (DH N p0 p1 j1 n1 (wI .i64 (v1 + 1)))))
   (j1 ())
def Eb (N : Nat) (p0 : List Int) (p1 : List Int) : Option Int :=
 DH N p0 p1 (fun (_ : Unit) =>
  AT ((decide ((p0.length : Int) < (p1.length : Int))))
   (some ((-1)))
   (some 0)) N 0
def Fg (_ : Nat) (p0 : Int) : Option Bool :=
 some ((p0 != p0))
def FM (N : Nat) (p0 : Int) (p1 : Int) : Option Int :=
 (Fg N p0).bind fun v1 =>
 (Fg N p1).bind fun v2 =>
 AT v1
  (AT v2
   (some 0)
   (some ((-1))))
  (AT v2
   (some 1)
   (AT ((decide (p0 < p1)))
    (some ((-1)))
    (AT ((decide (p1 < p0)))
     (some 1)
     (some 0))))
def CJ (N : Nat) (p0 : List Int) (p1 : List Int) (j1 : Unit → Option Int) : Nat → Int → Option Int
 | 0, _ => none
 | n1 + 1, v1 =>
  AT ((decide (v1 < (p0.length : Int))))
   ((Bf p0 v1).bind fun v4 =>
   AT ((decide ((p1.length : Int) ≤ v1)))
    (some 1)
    ((Bf p1 v1).bind fun v6 =>
    (FM N v4 v6).bind fun v7 =>
    AT ((v7 != 0))
     (some v7)
     (CJ N p0 p1 j1 n1 (wI .i64 (v1 + 1)))))
   (j1 ())
def DX (N : Nat) (p0 : List Int) (p1 : List Int) : Option Int :=
 CJ N p0 p1 (fun (_ : Unit) =>
  AT ((decide ((p0.length : Int) < (p1.length : Int))))
   (some ((-1)))
   (some 0)) N 0
def EV (N : Nat) (p0 : List Int) (j1 : Unit → Option Int) : Nat → Int → Option Int
 | 0, _ => none
 | n1 + 1, v1 =>
  AT ((decide (v1 < (p0.length : Int))))
   ((Bf p0 v1).bind fun v4 =>
   AT ((v4 != 0))
    (some v4)
    (EV N p0 j1 n1 (wI .i64 (v1 + 1))))
   (j1 ())
def F2 (N : Nat) (p0 : List Int) : Option Int :=
 EV N p0 (fun (_ : Unit) =>
  some 0) N 0
def E0 (N : Nat) (p0 : Ag) (p1 : Ag) : Option Int :=
 (Eb N p0.fBase p1.fBase).bind fun v1 =>
 (Eb N p0.fNext p1.fNext).bind fun v2 =>
 (DX N p0.fHeld p1.fHeld).bind fun v3 =>
 (F2 N (([v1, v2, v3] : List Int))).bind fun v4 =>
 some v4
def Fs (N : Nat) (v10 : (List Aw) × (List Ag)) (j11 : ((List Ag) × (List (ByteArray × Bool))) → Option ((List Ag) × Int)) : Nat → ((List Ag) × (List (ByteArray × Bool)) × Int) → Option ((List Ag) × Int)
 | 0, _ => none
 | n11 + 1, v11 =>
  AT ((decide (v11.2.2 < (v10.2.length : Int))))
   (Bi (fun (v14 : (List Ag) × (List (ByteArray × Bool))) =>
    Fs N v10 j11 n11 (v14.1, v14.2, (wI .i64 (v11.2.2 + 1))))
   fun j14 =>
   (Bf v10.2 v11.2.2).bind fun v15 =>
   (HB N v15).bind fun v16 =>
   AT ((!(((LD v16 v11.2.1).getD false))))
    ((HB N v15).bind fun v18 =>
    (EJ (v11.1.length + (([v15] : List Ag)).length ≤ Fa)).bind fun _ =>
    j14 (v11.1 ++ (([v15] : List Ag)), Mh v18 true v11.2.1))
    (j14 (v11.1, v11.2.1)))
   (j11 (v11.1, v11.2.1))
def FH (N : Nat) (p0 : Aj) (j6 : ((List Ag)) → Option ((List Ag) × Int)) : Nat → ((List Ag) × (List (ByteArray × Bool)) × Int) → Option ((List Ag) × Int)
 | 0, _ => none
 | n6 + 1, v6 =>
  AT ((decide (v6.2.2 < (v6.1.length : Int))))
   ((Bf v6.1 v6.2.2).bind fun v9 =>
   (Jk N p0 v9).bind fun v10 =>
   Fs N v10 (fun (v12 : (List Ag) × (List (ByteArray × Bool))) =>
    AT ((decide (20000 < (v12.1.length : Int))))
     (some (([] : List Ag), 3))
     (FH N p0 j6 n6 (v12.1, v12.2, (wI .i64 (v6.2.2 + 1))))) N (v6.1, v6.2.1, 0))
   (j6 v6.1)
def FX (N : Nat) (p0 : Aj) : Option ((List Ag) × Int) :=
 (Gn N p0).bind fun v1 =>
 Bi (fun (v2 : Bool) =>
  AT v2
   (some (([] : List Ag), v1.2.2))
   ((HB N v1.1).bind fun v5 =>
   FH N p0 (fun (v7 : (List Ag)) =>
    (DN N v7 ((fun (x : Ag × Ag) => E0 N x.1 x.2))).bind fun v21 =>
    some (v21, 0)) N (([v1.1] : List Ag), Mh v5 true (([] : List (ByteArray × Bool))), 0)))
 fun j2 =>
 AT ((v1.2.2 != 0))
  (j2 true)
  (j2 (!v1.2.1))
def D5 (N : Nat) (p0 : List Int) (p1 : List Int) (j2 : Unit → Option Bool) : Nat → Int → Option Bool
 | 0, _ => none
 | n2 + 1, v2 =>
  AT ((decide (v2 < (p0.length : Int))))
   ((Bf p0 v2).bind fun v5 =>
   (Bf p1 v2).bind fun v6 =>
   AT ((v5 != v6))
    (some false)
    (D5 N p0 p1 j2 n2 (wI .i64 (v2 + 1))))
   (j2 ())
def Fv (N : Nat) (p0 : List Int) (p1 : List Int) : Option Bool :=
 AT (((p0.length : Int) != (p1.length : Int)))
  (some false)
  (D5 N p0 p1 (fun (_ : Unit) =>
   some true) N 0)
def Dp (N : Nat) (p0 : List Int) (p1 : Int → Option Bool) (j1 : Unit → Option Int) : Nat → Int → Option Int
 | 0, _ => none
 | n1 + 1, v1 =>
  AT ((decide (v1 < (p0.length : Int))))
   ((Bf p0 v1).bind fun v4 =>
   (p1 v4).bind fun v5 =>
   AT v5
    (some v1)
    (Dp N p0 p1 j1 n1 (wI .i64 (v1 + 1))))
   (j1 ())
def ER (N : Nat) (p0 : List Int) (p1 : Int → Option Bool) : Option Int :=
 Dp N p0 p1 (fun (_ : Unit) =>
  some ((-1))) N 0
def Eg (N : Nat) (p0 : List Int) (p1 : Int → Option Bool) : Option Bool :=
 (ER N p0 p1).bind fun v1 =>
 some ((decide (0 ≤ v1)))
def H1 (_ : Nat) (p0 : Int) : Option Bool :=
 some ((decide (0 ≤ p0)))
def Jb (N : Nat) (p0 : Aj) (p1 : Ag) : Option Bool :=
 Bi (fun (v1 : Bool) =>
  some v1)
 fun j1 =>
 (EQ N p0 p1).bind fun v2 =>
 AT ((v2 == 0))
  ((Fv N p1.fBase p0.fTarget).bind fun v4 =>
  AT v4
   ((Eg N p1.fNext ((fun (x : Int) => H1 N x))).bind fun v6 =>
   j1 (!v6))
   (j1 false))
  (j1 false)
def Fi (N : Nat) (p0 : Ag) (p1 : List Int) (p2 : List Int) (p3 : List Int) (p4 : List AV) : Option Bool :=
 (Jb N ((Aj.mk p1 p2 p3 p4)) p0).bind fun v1 =>
 some v1
def Bp (N : Nat) (p0 : List Ag) (p1 : Ag → Option Bool) (j1 : Unit → Option Int) : Nat → Int → Option Int
 | 0, _ => none
 | n1 + 1, v1 =>
  AT ((decide (v1 < (p0.length : Int))))
   ((Bf p0 v1).bind fun v4 =>
   (p1 v4).bind fun v5 =>
   AT v5
    (some v1)
    (Bp N p0 p1 j1 n1 (wI .i64 (v1 + 1))))
   (j1 ())
def CN (N : Nat) (p0 : List Ag) (p1 : Ag → Option Bool) : Option Int :=
 Bp N p0 p1 (fun (_ : Unit) =>
  some ((-1))) N 0
def Bz (N : Nat) (p0 : List Ag) (p1 : Ag → Option Bool) : Option Bool :=
 (CN N p0 p1).bind fun v1 =>
 some ((decide (0 ≤ v1)))
def EI (N : Nat) (p0 : Aj) : Option ((List Ag) × Int) :=
 (FX N p0).bind fun v1 =>
 AT ((v1.2 != 0))
  (some (([] : List Ag), v1.2))
  ((Bz N v1.1 ((fun (x : Ag) => Fi N x p0.fVersions p0.fNow p0.fTarget p0.fTables))).bind fun v3 =>
  AT v3
   (some (([] : List Ag), 15))
   (some (v1.1, 0)))
def CR (N : Nat) (p0 : Aj) (p1 : Ag) (v1 : (List Aw) × Int) (j3 : ((List A3)) → Option ((List A3) × Int)) : Nat → ((List A3) × Int) → Option ((List A3) × Int)
 | 0, _ => none
 | n3 + 1, v3 =>
  AT ((decide (v3.2 < (v1.1.length : Int))))
   (Bi (fun (v6 : (List A3)) =>
    CR N p0 p1 v1 j3 n3 (v6, (wI .i64 (v3.2 + 1))))
   fun j6 =>
   (Bf v1.1 v3.2).bind fun v7 =>
   (Fk N p0 p1 v7).bind fun v8 =>
   (GE N p0 v8.1).bind fun v9 =>
   AT ((v9.2.2 == 0))
    ((EJ (v3.1.length + (([(A3.mk v7 v9.1 v9.2.1)] : List A3)).length ≤ Fa)).bind fun _ =>
    j6 (v3.1 ++ (([(A3.mk v7 v9.1 v9.2.1)] : List A3))))
    (j6 v3.1))
   (j3 v3.1)
def D0 (N : Nat) (p0 : Aj) (p1 : Ag) : Option ((List A3) × Int) :=
 (DE N p0 p1).bind fun v1 =>
 AT ((v1.2 != 0))
  (some (([] : List A3), v1.2))
  (CR N p0 p1 v1 (fun (v4 : (List A3)) =>
   some (v4, 0)) N (([] : List A3), 0))
def Dr (N : Nat) (p0 : Aj) (p1 : List Ag) (j3 : ((List A3)) → Option ((List A3) × Int)) : Nat → ((List A3) × Int) → Option ((List A3) × Int)
 | 0, _ => none
 | n3 + 1, v3 =>
  AT ((decide (v3.2 < (p1.length : Int))))
   ((Bf p1 v3.2).bind fun v6 =>
   (D0 N p0 v6).bind fun v7 =>
   AT ((v7.2 != 0))
    (some (([] : List A3), v7.2))
    ((EJ (v3.1.length + v7.1.length ≤ Fa)).bind fun _ =>
    Dr N p0 p1 j3 n3 (v3.1 ++ v7.1, (wI .i64 (v3.2 + 1)))))
   (j3 v3.1)
def Ej (N : Nat) (p0 : Aj) (p1 : List Ag) : Option ((List A3) × Int) :=
 (CH N p0).bind fun v1 =>
 AT ((v1 != 0))
  (some (([] : List A3), v1))
  (Dr N p0 p1 (fun (v4 : (List A3)) =>
   some (v4, 0)) N (([] : List A3), 0))
def Bn (N : Nat) (p0 : List Ah) (p1 : (Ah × Ah) → Option Int) : Option ((List Ah)) :=
 (Dm N ((wI .u64 ((p0.length : Int))))).bind fun v1 =>
 (Gs.pdqsort N p0 0 ((p0.length : Int)) v1 p1).bind fun v2 =>
 some v2
def Cp (N : Nat) (p0 : Ah) (p1 : Ah) : Option Int :=
 (C8 N p0.fTable p1.fTable).bind fun v1 =>
 (C8 N p0.fWriter p1.fWriter).bind fun v2 =>
 (C8 N p0.fReader p1.fReader).bind fun v3 =>
 (F2 N (([v1, v2, v3] : List Int))).bind fun v4 =>
 some v4
def BO (N : Nat) (p0 : List Ah) (v2 : Int) (j10 : ((List Ah) × Int) → Option (Nat × (List Ah))) : Nat → ((List Ah) × Int × Int) → Option (Nat × (List Ah))
 | 0, _ => none
 | n10 + 1, v10 =>
  AT ((decide (v10.2.2 < ((((p0.length - (v2).toNat)) : Nat) : Int))))
   (Bi (fun (v13 : (List Ah) × Int) =>
    BO N p0 v2 j10 n10 (v13.1, v13.2, (wI .i64 (v10.2.2 + 1))))
   fun j13 =>
   (EJ (((v2).toNat) + ((p0.length - (v2).toNat)) ≤ v10.1.length)).bind fun _ =>
   (Bf (((v10.1.drop ((v2).toNat)).take ((p0.length - (v2).toNat)))) v10.2.2).bind fun v14 =>
   (Bf (((v10.1.drop ((v2).toNat)).take ((p0.length - (v2).toNat)))) ((wI .i64 (v10.2.2 - 1)))).bind fun v16 =>
   AT ((!((v14.fTable == v16.fTable) && ((v14.fWriter == v16.fWriter) && ((v14.fReader == v16.fReader) && true)))))
    ((Bf (((v10.1.drop ((v2).toNat)).take ((p0.length - (v2).toNat)))) v10.2.2).bind fun v18 =>
    (Bf v10.1 v10.2.1).bind fun _ =>
    j13 (v10.1.set ((v10.2.1).toNat) v18, (wI .i64 (v10.2.1 + 1))))
    (j13 (v10.1, v10.2.1)))
   (j10 (v10.1, v10.2.1))
def BU (N : Nat) (p0 : List Ah) (j2 : Unit → Option (Nat × (List Ah))) : Nat → Int → Option (Nat × (List Ah))
 | 0, _ => none
 | n2 + 1, v2 =>
  AT ((decide (v2 < (p0.length : Int))))
   ((Bf p0 v2).bind fun v5 =>
   (Bf p0 ((wI .i64 (v2 - 1)))).bind fun v6 =>
   AT (((v5.fTable == v6.fTable) && ((v5.fWriter == v6.fWriter) && ((v5.fReader == v6.fReader) && true))))
    ((EJ ((0 : Int) ≤ v2 ∧ (v2).toNat ≤ p0.length ∧ p0.length ≤ p0.length)).bind fun _ =>
    BO N p0 v2 (fun (v11 : (List Ah) × Int) =>
     (EJ ((0 : Int) ≤ v11.2 ∧ (v11.2).toNat ≤ v11.1.length ∧ v11.1.length ≤ v11.1.length)).bind fun _ =>
     (EJ ((0 : Int) ≤ v11.2 ∧ 0 ≤ (v11.2).toNat ∧ (v11.2).toNat ≤ (HQ v11.1 ((v11.2).toNat) (List.replicate ((v11.1.length - (v11.2).toNat)) ((Ah.mk 0 0 0)))).length)).bind fun _ =>
     some ((v11.2).toNat, HQ v11.1 ((v11.2).toNat) (List.replicate ((v11.1.length - (v11.2).toNat)) ((Ah.mk 0 0 0))))) N (p0, v2, 1))
    (BU N p0 j2 n2 (wI .i64 (v2 + 1))))
   (j2 ())
def Bq (N : Nat) (p0 : List Ah) : Option (Nat × (List Ah)) :=
 AT ((decide ((p0.length : Int) < 2)))
  (some (p0.length, p0))
  (BU N p0 (fun (_ : Unit) =>
   some (p0.length, p0)) N 1)
def Dg (N : Nat) (v1 : (List A3) × Int) (j3 : ((List Ah)) → Option ((List Ah) × Int)) : Nat → ((List Ah) × Int) → Option ((List Ah) × Int)
 | 0, _ => none
 | n3 + 1, v3 =>
  AT ((decide (v3.2 < (v1.1.length : Int))))
   ((Bf v1.1 v3.2).bind fun v6 =>
   (EJ (v3.1.length + (([(Ah.mk v6.fConflict.fTable v6.fConflict.fWriter v6.fConflict.fReader)] : List Ah)).length ≤ Fa)).bind fun _ =>
   Dg N v1 j3 n3 (v3.1 ++ (([(Ah.mk v6.fConflict.fTable v6.fConflict.fWriter v6.fConflict.fReader)] : List Ah)), (wI .i64 (v3.2 + 1))))
   (j3 v3.1)
def EF (N : Nat) (p0 : Aj) (p1 : List Ag) : Option ((List Ah) × Int) :=
 (Ej N p0 p1).bind fun v1 =>
 AT ((v1.2 != 0))
  (some (([] : List Ah), v1.2))
  (Dg N v1 (fun (v4 : (List Ah)) =>
   (Bn N v4 ((fun (x : Ah × Ah) => Cp N x.1 x.2))).bind fun v8 =>
   (Bq N v8).bind fun v9 =>
   (EJ (v9.1 ≤ v9.2.length)).bind fun _ =>
   some (v9.2.take v9.1, 0)) N (([] : List Ah), 0))
def Ch (N : Nat) (p0 : Aj) (v8 : Ag) (j11 : Int → Option (Int × Ag × Int)) : Nat → (Int × Int) → Option (Int × Ag × Int)
 | 0, _ => none
 | n11 + 1, v11 =>
  AT ((decide (v11.2 < (p0.fTarget.length : Int))))
   (Bi (fun (v14 : Int) =>
    Ch N p0 v8 j11 n11 (v14, (wI .i64 (v11.2 + 1))))
   fun j14 =>
   (Bf p0.fTarget v11.2).bind fun v15 =>
   Bi (fun (v16 : Bool) =>
    AT v16
     (j14 (wI .i64 (v11.1 + 1)))
     (j14 v11.1))
   fun j16 =>
   (Bf v8.fBase v11.2).bind fun v17 =>
   AT ((v17 == v15))
    ((Bf v8.fNext v11.2).bind fun v19 =>
    j16 (decide (v19 < 0)))
    (j16 false))
   (j11 v11.1)
def DT (N : Nat) (p0 : Aj) (p1 : List Ag) (j4 : (Int × Int) → Option (Int × Ag × Int)) : Nat → (Int × Int × Int) → Option (Int × Ag × Int)
 | 0, _ => none
 | n4 + 1, v4 =>
  AT ((decide (v4.2.2 < (p1.length : Int))))
   (Bi (fun (v7 : Int × Int) =>
    DT N p0 p1 j4 n4 (v7.1, v7.2, (wI .i64 (v4.2.2 + 1))))
   fun j7 =>
   (Bf p1 v4.2.2).bind fun v8 =>
   (EQ N p0 v8).bind fun v9 =>
   AT ((v9 != 0))
    (some (0, (Ag.mk (([] : List Int)) (([] : List Int)) (([] : List Int))), v9))
    (Ch N p0 v8 (fun (v12 : Int) =>
     AT ((decide (v4.1 < v12)))
      (j7 (v12, v4.2.2))
      (j7 (v4.1, v4.2.1))) N (0, 0)))
   (j4 (v4.1, v4.2.1))
def EE (N : Nat) (p0 : Aj) (p1 : List Ag) : Option (Int × Ag × Int) :=
 (CH N p0).bind fun v1 =>
 AT ((v1 != 0))
  (some (0, (Ag.mk (([] : List Int)) (([] : List Int)) (([] : List Int))), v1))
  (AT (((p1.length : Int) == 0))
   (some (0, (Ag.mk (([] : List Int)) (([] : List Int)) (([] : List Int))), 10))
   (DT N p0 p1 (fun (v5 : Int × Int) =>
    (Bf p1 v5.2).bind fun v22 =>
    (Bo N v22.fBase).bind fun v23 =>
    (Bo N v22.fNext).bind fun v24 =>
    (Bu N v22.fHeld).bind fun v25 =>
    some (v5.1, (Ag.mk v23 v24 v25), 0)) N ((-1), 0, 0)))
def Dn (N : Nat) (p0 : List Int) (p1 : List Int) (j1 : Unit → Option Int) : Nat → Int → Option Int
 | 0, _ => none
 | n1 + 1, v1 =>
  Bi (fun (v3 : Bool) =>
   AT v3
    ((Bf p0 v1).bind fun v6 =>
    (Bf p1 v1).bind fun v7 =>
    AT ((decide (v6 < v7)))
     (some ((-1)))
     ((Bf p0 v1).bind fun v9 =>
     (Bf p1 v1).bind fun v10 =>
     AT ((decide (v10 < v9)))
      (some 1)
      (Dn N p0 p1 j1 n1 (wI .i64 (v1 + 1)))))
    (j1 ()))
  fun j3 =>
  AT ((decide (v1 < (p0.length : Int))))
   (j3 (decide (v1 < (p1.length : Int))))
   (j3 false)
def Dt (N : Nat) (p0 : List Int) (p1 : List Int) : Option Int :=
 Dn N p0 p1 (fun (_ : Unit) =>
  AT ((decide ((p0.length : Int) < (p1.length : Int))))
   (some ((-1)))
   (AT ((decide ((p1.length : Int) < (p0.length : Int))))
    (some 1)
    (some 0))) N 0
def CT (N : Nat) (p0 : List Int) (j1 : ((List Int)) → Option ((List Int))) : Nat → ((List Int) × Int) → Option ((List Int))
 | 0, _ => none
 | n1 + 1, v1 =>
  AT ((decide (v1.2 < (p0.length : Int))))
   ((Bf p0 v1.2).bind fun v4 =>
   (EJ (v1.1.length + (([(wI .i64 v4)] : List Int)).length ≤ Fa)).bind fun _ =>
   CT N p0 j1 n1 (v1.1 ++ (([(wI .i64 v4)] : List Int)), (wI .i64 (v1.2 + 1))))
   (j1 v1.1)
def Dl (N : Nat) (p0 : List Int) : Option ((List Int)) :=
 CT N p0 (fun (v2 : (List Int)) =>
  some v2) N (([] : List Int), 0)
def D3 (N : Nat) (p0 : Ag) (p1 : Ag) : Option Int :=
 (Dt N p0.fBase p1.fBase).bind fun v1 =>
 AT ((v1 != 0))
  (some v1)
  ((Dt N p0.fNext p1.fNext).bind fun v3 =>
  AT ((v3 != 0))
   (some v3)
   ((Dl N p0.fHeld).bind fun v5 =>
   (Dl N p1.fHeld).bind fun v6 =>
   (Dt N v5 v6).bind fun v7 =>
   some v7))
def BW (N : Nat) (p0 : Ag) (p1 : Ag) : Option Bool :=
 (D3 N p0 p1).bind fun v1 =>
 some ((v1 == 0))
def EN (N : Nat) (p0 : List Ag) (p1 : List Ag) (j2 : Unit → Option Bool) : Nat → Int → Option Bool
 | 0, _ => none
 | n2 + 1, v2 =>
  AT ((decide (v2 < (p0.length : Int))))
   ((Bf p0 v2).bind fun v5 =>
   (Bf p1 v2).bind fun v6 =>
   (BW N v5 v6).bind fun v7 =>
   AT ((!v7))
    (some false)
    (EN N p0 p1 j2 n2 (wI .i64 (v2 + 1))))
   (j2 ())
def GS (N : Nat) (p0 : List Ag) (p1 : List Ag) : Option Bool :=
 AT (((p0.length : Int) != (p1.length : Int)))
  (some false)
  (EN N p0 p1 (fun (_ : Unit) =>
   some true) N 0)
def Bj (N : Nat) (p0 : List Ag) (p1 : Ag) (p2 : (Ag × Ag) → Option Int) (j1 : Int → Option (Int × Bool)) : Nat → (Int × Int) → Option (Int × Bool)
 | 0, _ => none
 | n1 + 1, v1 =>
  AT ((decide (v1.1 < v1.2)))
   ((Bf p0 ((wI .i64 ((EA .u64 ((wI .u64 ((wI .i64 (v1.1 + v1.2))))) 1))))).bind fun v4 =>
   (p2 ((v4, p1))).bind fun v5 =>
   AT ((decide (v5 < 0)))
    (Bj N p0 p1 p2 j1 n1 ((wI .i64 ((wI .i64 ((EA .u64 ((wI .u64 ((wI .i64 (v1.1 + v1.2))))) 1))) + 1)), v1.2))
    (Bj N p0 p1 p2 j1 n1 (v1.1, (wI .i64 ((EA .u64 ((wI .u64 ((wI .i64 (v1.1 + v1.2))))) 1))))))
   (j1 v1.1)
def Cf (N : Nat) (p0 : List Ag) (p1 : Ag) (p2 : (Ag × Ag) → Option Int) : Option (Int × Bool) :=
 Bj N p0 p1 p2 (fun (v2 : Int) =>
  Bi (fun (v7 : Bool) =>
   some (v2, v7))
  fun j7 =>
  AT ((decide (v2 < (p0.length : Int))))
   ((Bf p0 v2).bind fun v9 =>
   (p2 ((v9, p1))).bind fun v10 =>
   j7 (v10 == 0))
   (j7 false)) N (0, (p0.length : Int))
def GF (N : Nat) (p0 : List Ag) (p1 : Ag) : Option Bool :=
 (Cf N p0 p1 ((fun (x : Ag × Ag) => E0 N x.1 x.2))).bind fun v1 =>
 some v1.2
def FN (N : Nat) (p0 : Aj) (p1 : List Ag) (j5 : Unit → Option Bool) : Nat → Int → Option Bool
 | 0, _ => none
 | n5 + 1, v5 =>
  AT ((decide (v5 < (p1.length : Int))))
   ((Bf p1 v5).bind fun v8 =>
   Bi (fun (v9 : Bool) =>
    AT v9
     (some false)
     ((Fo N p0 v8).bind fun v14 =>
     Bi (fun (v15 : Bool) =>
      AT v15
       (some false)
       (FN N p0 p1 j5 n5 (wI .i64 (v5 + 1))))
     fun j15 =>
     AT ((!v14.1))
      (j15 true)
      (AT ((v14.2 != 0))
       (j15 true)
       ((Jb N p0 v8).bind fun v18 =>
       j15 v18))))
   fun j9 =>
   AT ((decide (0 < v5)))
    ((Bf p1 ((wI .i64 (v5 - 1)))).bind fun v11 =>
    (E0 N v11 v8).bind fun v12 =>
    j9 (decide (0 ≤ v12)))
    (j9 false))
   (j5 ())
def Fu (N : Nat) (p0 : Aj) (p1 : List Ag) (v25 : Ag) (v26 : (List Aw) × Int) (j27 : Unit → Option Bool) : Nat → Int → Option Bool
 | 0, _ => none
 | n27 + 1, v27 =>
  AT ((decide (v27 < (v26.1.length : Int))))
   ((Bf v26.1 v27).bind fun v30 =>
   (Fk N p0 v25 v30).bind fun v31 =>
   (Fo N p0 v31.1).bind fun v32 =>
   Bi (fun (v33 : Bool) =>
    AT v33
     (some false)
     (Fu N p0 p1 v25 v26 j27 n27 (wI .i64 (v27 + 1))))
   fun j33 =>
   AT v32.1
    ((GF N p1 v31.1).bind fun v35 =>
    j33 (!v35))
    (j33 false))
   (j27 ())
def Fr (N : Nat) (p0 : Aj) (p1 : List Ag) (j22 : Unit → Option Bool) : Nat → Int → Option Bool
 | 0, _ => none
 | n22 + 1, v22 =>
  AT ((decide (v22 < (p1.length : Int))))
   ((Bf p1 v22).bind fun v25 =>
   (DE N p0 v25).bind fun v26 =>
   Fu N p0 p1 v25 v26 (fun (_ : Unit) =>
    Fr N p0 p1 j22 n22 (wI .i64 (v22 + 1))) N 0)
   (j22 ())
def DG (N : Nat) (p0 : Aj) (p1 : List Ag) : Option Bool :=
 (FI N p0).bind fun v1 =>
 AT ((v1.2 != 0))
  (some false)
  ((Fo N p0 v1.1).bind fun v3 =>
  AT ((!v3.1))
   (some (((p1.length : Int) == 0)))
   (FN N p0 p1 (fun (_ : Unit) =>
    (GF N p1 v1.1).bind fun v20 =>
    AT ((!v20))
     (some false)
     (Fr N p0 p1 (fun (_ : Unit) =>
      some true) N 0)) N 0))
def DF (N : Nat) (p0 : List Ah) (p1 : List Ah) (j2 : Unit → Option Bool) : Nat → Int → Option Bool
 | 0, _ => none
 | n2 + 1, v2 =>
  AT ((decide (v2 < (p0.length : Int))))
   ((Bf p0 v2).bind fun v5 =>
   (Bf p1 v2).bind fun v6 =>
   AT ((!((v5.fTable == v6.fTable) && ((v5.fWriter == v6.fWriter) && ((v5.fReader == v6.fReader) && true)))))
    (some false)
    (DF N p0 p1 j2 n2 (wI .i64 (v2 + 1))))
   (j2 ())
def Fd (N : Nat) (p0 : List Ah) (p1 : List Ah) : Option Bool :=
 AT (((p0.length : Int) != (p1.length : Int)))
  (some false)
  (DF N p0 p1 (fun (_ : Unit) =>
   some true) N 0)
def Ev (N : Nat) : Option Bool :=
 (B5 N).bind fun v1 =>
 (EI N v1).bind fun v2 =>
 (B5 N).bind fun v3 =>
 (Ej N v3 v2.1).bind fun v4 =>
 (B5 N).bind fun v5 =>
 (EF N v5 v2.1).bind fun v6 =>
 (B5 N).bind fun v7 =>
 (EE N v7 v2.1).bind fun v8 =>
 Bi (fun (v9 : Bool) =>
  Bi (fun (v13 : Bool) =>
   Bi (fun (v25 : Bool) =>
    some v25)
   fun j25 =>
   AT v13
    (AT (((v4.1.length : Int) == 1))
     ((Bf v4.1 0).bind fun v28 =>
     AT (((v28.fStep.fKind == 1) && ((v28.fStep.fIndex == 0) && ((v28.fStep.fVersion == 1) && true))))
      ((Bf v4.1 0).bind fun v30 =>
      AT (((v30.fConflict.fTable == 0) && ((v30.fConflict.fWriter == 1) && ((v30.fConflict.fReader == 0) && true))))
       ((Fd N v6.1 (([(Ah.mk 0 1 0)] : List Ah))).bind fun v32 =>
       AT v32
        (AT ((v8.1 == 0))
         ((BW N v8.2.1 ((Ag.mk (([0] : List Int)) (([(-1)] : List Int)) (([0] : List Int))))).bind fun v35 =>
         j25 v35)
         (j25 false))
        (j25 false))
       (j25 false))
      (j25 false))
     (j25 false))
    (j25 false))
  fun j13 =>
  AT v9
   ((GS N v2.1 (([(Ag.mk (([0] : List Int)) (([(-1)] : List Int)) (([0] : List Int)))] : List Ag))).bind fun v15 =>
   AT v15
    ((B5 N).bind fun v17 =>
    (DG N v17 v2.1).bind fun v18 =>
    AT v18
     ((B5 N).bind fun v20 =>
     (DG N v20 (([] : List Ag))).bind fun v21 =>
     AT ((!v21))
      ((B5 N).bind fun v23 =>
      (DG N v23 (([(Ag.mk (([0] : List Int)) (([(-1)] : List Int)) (([0] : List Int))), (Ag.mk (([1] : List Int)) (([(-1)] : List Int)) (([0] : List Int)))] : List Ag))).bind fun v24 =>
      j13 (!v24))
      (j13 false))
     (j13 false))
    (j13 false))
   (j13 false))
 fun j9 =>
 AT ((v2.2 == 0))
  (AT ((v4.2 == 0))
   (AT ((v6.2 == 0))
    (j9 (v8.2.2 == 0))
    (j9 false))
   (j9 false))
  (j9 false)
def CB (N : Nat) (p0 : Aj) (v6 : Int) (j14 : Unit → Option Bool) : Nat → Int → Option Bool
 | 0, _ => none
 | n14 + 1, v14 =>
  (Bf p0.fTables v6).bind fun v16 =>
  AT ((decide (v14 < (v16.fOK.length : Int))))
   ((Bf p0.fTables v6).bind fun v18 =>
   (Bf v18.fOK v14).bind fun v19 =>
   AT ((decide (8 < (v19.length : Int))))
    (some false)
    (CB N p0 v6 j14 n14 (wI .i64 (v14 + 1))))
   (j14 ())
def Cy (N : Nat) (p0 : Aj) (v6 : Int) (j21 : Unit → Option Bool) : Nat → Int → Option Bool
 | 0, _ => none
 | n21 + 1, v21 =>
  (Bf p0.fTables v6).bind fun v23 =>
  AT ((decide (v21 < (v23.fRewrite.length : Int))))
   ((Bf p0.fTables v6).bind fun v25 =>
   (Bf v25.fRewrite v21).bind fun v26 =>
   AT ((decide (8 < (v26.length : Int))))
    (some false)
    (Cy N p0 v6 j21 n21 (wI .i64 (v21 + 1))))
   (j21 ())
def Dx (N : Nat) (p0 : Aj) (j6 : Unit → Option Bool) : Nat → Int → Option Bool
 | 0, _ => none
 | n6 + 1, v6 =>
  AT ((decide (v6 < (p0.fTables.length : Int))))
   (Bi (fun (v9 : Bool) =>
    AT v9
     (some false)
     (CB N p0 v6 (fun (_ : Unit) =>
      Cy N p0 v6 (fun (_ : Unit) =>
       Dx N p0 j6 n6 (wI .i64 (v6 + 1))) N 0) N 0))
   fun j9 =>
   (Bf p0.fTables v6).bind fun v10 =>
   AT ((decide (8 < (v10.fOK.length : Int))))
    (j9 true)
    ((Bf p0.fTables v6).bind fun v12 =>
    j9 (decide (8 < (v12.fRewrite.length : Int)))))
   (j6 ())
def E2 (N : Nat) (p0 : Aj) : Option Bool :=
 Bi (fun (v1 : Bool) =>
  AT v1
   (some false)
   (Dx N p0 (fun (_ : Unit) =>
    some true) N 0))
 fun j1 =>
 AT ((decide (8 < (p0.fVersions.length : Int))))
  (j1 true)
  (AT ((decide (8 < (p0.fNow.length : Int))))
   (j1 true)
   (AT ((decide (8 < (p0.fTarget.length : Int))))
    (j1 true)
    (j1 (decide (14 < (p0.fTables.length : Int))))))
def E3 (_ : Nat) (p0 : Ag) : Option Bool :=
 Bi (fun (v1 : Bool) =>
  some v1)
 fun j1 =>
 AT ((decide ((p0.fBase.length : Int) ≤ 8)))
  (AT ((decide ((p0.fNext.length : Int) ≤ 8)))
   (j1 (decide ((p0.fHeld.length : Int) ≤ 14)))
   (j1 false))
  (j1 false)
def Ci (N : Nat) (p0 : Ag) : Option Bool :=
 (E3 N p0).bind fun v1 =>
 some ((!v1))
def BC (_ : Nat) (p0 : AV) : Option Bool :=
 Bi (fun (v1 : Bool) =>
  some v1)
 fun j1 =>
 AT ((p0.fKind == 3))
  (j1 true)
  (j1 (p0.fKind == 4))
def CC (N : Nat) (p0 : List (List Bool)) (p1 : Int) (p2 : Int) (j2 : Unit → Option Bool) : Nat → Int → Option Bool
 | 0, _ => none
 | n2 + 1, v2 =>
  AT ((decide (v2 < p1)))
   ((Bf p0 v2).bind fun v5 =>
   AT (((v5.length : Int) != p2))
    (some false)
    (CC N p0 p1 p2 j2 n2 (wI .i64 (v2 + 1))))
   (j2 ())
def Dz (N : Nat) (p0 : List (List Bool)) (p1 : Int) (p2 : Int) : Option Bool :=
 AT (((p0.length : Int) != p1))
  (some false)
  (CC N p0 p1 p2 (fun (_ : Unit) =>
   some true) N 0)
def Ca (N : Nat) (p1 : AV) (j22 : Unit → Option Int) : Nat → Int → Option Int
 | 0, _ => none
 | n22 + 1, v22 =>
  AT ((decide (v22 < (p1.fRewrite.length : Int))))
   ((Bf p1.fRewrite v22).bind fun v25 =>
   (Bf v25 v22).bind fun v26 =>
   AT ((!v26))
    (some 1)
    (Ca N p1 j22 n22 (wI .i64 (v22 + 1))))
   (j22 ())
def Ex (N : Nat) (p0 : Aj) (p1 : AV) : Option Int :=
 Bi (fun (v1 : Bool) =>
  AT v1
   (some 1)
   (Bi (fun (v7 : Bool) =>
    AT v7
     (some 4)
     ((Bf p0.fVersions p1.fFrom).bind fun v12 =>
     (Bf p0.fVersions p1.fTo).bind fun v13 =>
     (Dz N p1.fOK v12 v13).bind fun v14 =>
     AT ((!v14))
      (some 6)
      (AT ((p1.fKind != 4))
       (AT (((p1.fRewrite.length : Int) != 0))
        (some 6)
        (some 0))
       ((Bf p0.fVersions p1.fFrom).bind fun v18 =>
       (Bf p0.fVersions p1.fFrom).bind fun v19 =>
       (Dz N p1.fRewrite v18 v19).bind fun v20 =>
       AT ((!v20))
        (some 6)
        (Ca N p1 (fun (_ : Unit) =>
         some 0) N 0)))))
   fun j7 =>
   AT ((decide (p1.fFrom < 0)))
    (j7 true)
    (AT ((decide ((p0.fVersions.length : Int) ≤ p1.fFrom)))
     (j7 true)
     (AT ((decide (p1.fTo < 0)))
      (j7 true)
      (j7 (decide ((p0.fVersions.length : Int) ≤ p1.fTo)))))))
 fun j1 =>
 AT ((decide (p1.fKind < 1)))
  (j1 true)
  (AT ((decide (4 < p1.fKind)))
   (j1 true)
   (AT p1.fAware
    ((BC N p1).bind fun v5 =>
    j1 v5)
    (j1 false)))
def By (N : Nat) (p0 : Aj) (j7 : Unit → Option Int) : Nat → Int → Option Int
 | 0, _ => none
 | n7 + 1, v7 =>
  AT ((decide (v7 < (p0.fVersions.length : Int))))
   ((Bf p0.fVersions v7).bind fun v10 =>
   Bi (fun (v11 : Bool) =>
    AT v11
     (some 7)
     (By N p0 j7 n7 (wI .i64 (v7 + 1))))
   fun j11 =>
   AT ((decide (v10 < 1)))
    (j11 true)
    (AT ((decide (6 < v10)))
     (j11 true)
     ((Bf p0.fNow v7).bind fun v14 =>
     AT ((decide (v14 < 0)))
      (j11 true)
      ((Bf p0.fNow v7).bind fun v16 =>
      AT ((decide (v10 ≤ v16)))
       (j11 true)
       ((Bf p0.fTarget v7).bind fun v18 =>
       AT ((decide (v18 < 0)))
        (j11 true)
        ((Bf p0.fTarget v7).bind fun v20 =>
        j11 (decide (v10 ≤ v20))))))))
   (j7 ())
def Bv (N : Nat) (p0 : Aj) (j22 : Unit → Option Int) : Nat → Int → Option Int
 | 0, _ => none
 | n22 + 1, v22 =>
  AT ((decide (v22 < (p0.fTables.length : Int))))
   ((Bf p0.fTables v22).bind fun v25 =>
   (Ex N p0 v25).bind fun v26 =>
   AT ((v26 != 0))
    (some v26)
    (Bv N p0 j22 n22 (wI .i64 (v22 + 1))))
   (j22 ())
def BA (N : Nat) (p0 : Aj) : Option Int :=
 Bi (fun (v1 : Bool) =>
  AT v1
   (some 3)
   (Bi (fun (v4 : Bool) =>
    AT v4
     (some 6)
     (By N p0 (fun (_ : Unit) =>
      Bv N p0 (fun (_ : Unit) =>
       some 0) N 0) N 0))
   fun j4 =>
   AT (((p0.fNow.length : Int) != (p0.fVersions.length : Int)))
    (j4 true)
    (j4 ((p0.fTarget.length : Int) != (p0.fVersions.length : Int)))))
 fun j1 =>
 AT ((decide (6 < (p0.fVersions.length : Int))))
  (j1 true)
  (j1 (decide (12 < (p0.fTables.length : Int))))
def B4 (_ : Nat) (p0 : Ag) (p1 : Int) : Option Int :=
 (Bf p0.fBase p1).bind fun v1 =>
 (EJ (0 ≤ v1)).bind fun _ =>
 Bi (fun (v3 : Int) =>
  some v3)
 fun j3 =>
 (Bf p0.fNext p1).bind fun v4 =>
 AT ((decide (0 ≤ v4)))
  ((Bf p0.fNext p1).bind fun v6 =>
  (EJ (0 ≤ v6)).bind fun _ =>
  j3 (Oi .u8 ((CF .u8 1 v1)) ((CF .u8 1 v6))))
  (j3 (CF .u8 1 v1))
def Cn (N : Nat) (p0 : Aj) (p1 : Ag) (j7 : Unit → Option Int) : Nat → Int → Option Int
 | 0, _ => none
 | n7 + 1, v7 =>
  AT ((decide (v7 < (p0.fVersions.length : Int))))
   (Bi (fun (v10 : Bool) =>
    AT v10
     (some 7)
     ((Bf p1.fBase v7).bind fun v21 =>
     (Bf p1.fNext v7).bind fun v22 =>
     AT ((v21 == v22))
      (some 1)
      (Cn N p0 p1 j7 n7 (wI .i64 (v7 + 1)))))
   fun j10 =>
   (Bf p1.fBase v7).bind fun v11 =>
   AT ((decide (v11 < 0)))
    (j10 true)
    ((Bf p1.fBase v7).bind fun v13 =>
    (Bf p0.fVersions v7).bind fun v14 =>
    AT ((decide (v14 ≤ v13)))
     (j10 true)
     ((Bf p1.fNext v7).bind fun v16 =>
     AT ((decide (v16 < (-1))))
      (j10 true)
      ((Bf p1.fNext v7).bind fun v18 =>
      (Bf p0.fVersions v7).bind fun v19 =>
      j10 (decide (v19 ≤ v18))))))
   (j7 ())
def B9 (N : Nat) (p0 : Aj) (p1 : Ag) (j24 : Unit → Option Int) : Nat → Int → Option Int
 | 0, _ => none
 | n24 + 1, v24 =>
  AT ((decide (v24 < (p0.fTables.length : Int))))
   ((Bf p0.fTables v24).bind fun v27 =>
   (Bf p0.fVersions v27.fFrom).bind fun v28 =>
   (EJ (0 ≤ v28)).bind fun _ =>
   Bi (fun (v30 : Bool) =>
    AT v30
     (some 1)
     (B9 N p0 p1 j24 n24 (wI .i64 (v24 + 1))))
   fun j30 =>
   (BC N v27).bind fun v31 =>
   AT ((!v31))
    ((Bf p1.fHeld v24).bind fun v33 =>
    AT ((v33 != 0))
     (j30 true)
     ((BC N v27).bind fun v35 =>
     AT v35
      ((Bf p1.fHeld v24).bind fun v37 =>
      AT (((Do .u8 v37 ((wI .u8 ((CF .u8 1 v28) - 1)))) != 0))
       (j30 true)
       ((B4 N p1 v27.fFrom).bind fun v39 =>
       (Bf p1.fHeld v24).bind fun v40 =>
       j30 ((Do .u8 v39 v40) != 0)))
      (j30 false)))
    ((BC N v27).bind fun v41 =>
    AT v41
     ((Bf p1.fHeld v24).bind fun v43 =>
     AT (((Do .u8 v43 ((wI .u8 ((CF .u8 1 v28) - 1)))) != 0))
      (j30 true)
      ((B4 N p1 v27.fFrom).bind fun v45 =>
      (Bf p1.fHeld v24).bind fun v46 =>
      j30 ((Do .u8 v45 v46) != 0)))
     (j30 false)))
   (j24 ())
def Dc (N : Nat) (p0 : Aj) (p1 : Ag) : Option Int :=
 (BA N p0).bind fun v1 =>
 AT ((v1 != 0))
  (some v1)
  (Bi (fun (v3 : Bool) =>
   AT v3
    (some 6)
    (Cn N p0 p1 (fun (_ : Unit) =>
     B9 N p0 p1 (fun (_ : Unit) =>
      some 0) N 0) N 0))
  fun j3 =>
  AT (((p1.fBase.length : Int) != (p0.fVersions.length : Int)))
   (j3 true)
   (AT (((p1.fNext.length : Int) != (p0.fVersions.length : Int)))
    (j3 true)
    (j3 ((p1.fHeld.length : Int) != (p0.fTables.length : Int)))))
def Cm (N : Nat) (p0 : Aj) (p1 : List Ag) (j3 : Unit → Option Int) : Nat → Int → Option Int
 | 0, _ => none
 | n3 + 1, v3 =>
  AT ((decide (v3 < (p1.length : Int))))
   ((Bf p1 v3).bind fun v6 =>
   (Dc N p0 v6).bind fun v7 =>
   AT ((v7 != 0))
    (some v7)
    (Cm N p0 p1 j3 n3 (wI .i64 (v3 + 1))))
   (j3 ())
def DV (N : Nat) (p0 : Aj) (p1 : List Ag) : Option Int :=
 (BA N p0).bind fun v1 =>
 AT ((v1 != 0))
  (some v1)
  (Cm N p0 p1 (fun (_ : Unit) =>
   some 0) N 0)
def Ew (_ : Nat) (p0 : Aw) : Option Bool :=
 Bi (fun (v1 : Bool) =>
  some v1)
 fun j1 =>
 AT ((decide (1 ≤ p0.fKind)))
  (AT ((decide (p0.fKind ≤ 4)))
   (AT ((decide (0 ≤ p0.fIndex)))
    (AT ((decide (0 ≤ p0.fVersion)))
     (AT ((p0.fKind == 1))
      (j1 true)
      (j1 (p0.fVersion == 0)))
     (j1 false))
    (j1 false))
   (j1 false))
  (j1 false)
def CD (_ : Nat) (p0 : Int) (p1 : Int) : Option Bool :=
 (EJ (0 ≤ p1)).bind fun _ =>
 some (((FT .u8 ((EA .u8 p0 p1)) 1) == 1))
def Cb (N : Nat) (p0 : Aj) (p2 : Aw) (j12 : ((List Int)) → Option (Ag × Bool)) : Nat → ((List Int) × Int) → Option (Ag × Bool)
 | 0, _ => none
 | n12 + 1, v12 =>
  AT ((decide (v12.2 < (p0.fTables.length : Int))))
   (Bi (fun (v15 : (List Int)) =>
    Cb N p0 p2 j12 n12 (v15, (wI .i64 (v12.2 + 1))))
   fun j15 =>
   Bi (fun (v16 : Bool) =>
    AT v16
     ((Bf v12.1 v12.2).bind fun v22 =>
     (EJ (0 ≤ p2.fVersion)).bind fun _ =>
     (Bf v12.1 v12.2).bind fun _ =>
     j15 (v12.1.set ((v12.2).toNat) ((Oi .u8 v22 ((CF .u8 1 p2.fVersion))))))
     (j15 v12.1))
   fun j16 =>
   (Bf p0.fTables v12.2).bind fun v17 =>
   AT ((v17.fFrom == p2.fIndex))
    ((Bf p0.fTables v12.2).bind fun v19 =>
    (BC N v19).bind fun v20 =>
    j16 v20)
    (j16 false))
   (j12 v12.1)
def BV (N : Nat) (p0 : Aj) (p1 : Ag) (p2 : Aw) (v32 : AV) (v35 : Int) (j38 : Unit → Option (Ag × Bool)) : Nat → Int → Option (Ag × Bool)
 | 0, _ => none
 | n38 + 1, v38 =>
  (Bf p0.fVersions v32.fFrom).bind fun v40 =>
  AT ((decide (v38 < v40)))
   (Bi (fun (v42 : Bool) =>
    Bi (fun (v47 : Bool) =>
     AT v47
      (some ((Ag.mk (([] : List Int)) (([] : List Int)) (([] : List Int))), false))
      (BV N p0 p1 p2 v32 v35 j38 n38 (wI .i64 (v38 + 1))))
    fun j47 =>
    AT v42
     (AT ((v32.fKind == 4))
      ((Bf v32.fRewrite v38).bind fun v50 =>
      (Bf p1.fBase v32.fFrom).bind fun v51 =>
      (Bf v50 v51).bind fun v52 =>
      j47 (!v52))
      (j47 false))
     (j47 false))
   fun j42 =>
   (Bf p1.fHeld p2.fIndex).bind fun v43 =>
   (CD N v43 v38).bind fun v44 =>
   AT v44
    ((CD N v35 v38).bind fun v46 =>
    j42 (!v46))
    (j42 false))
   (j38 ())
def CS (N : Nat) (p0 : Aj) (p1 : Ag) (p2 : Aw) : Option (Ag × Bool) :=
 (EJ ((([] : List Int)).length + p1.fBase.length ≤ Fa)).bind fun _ =>
 (EJ ((([] : List Int)).length + p1.fNext.length ≤ Fa)).bind fun _ =>
 (EJ ((([] : List Int)).length + p1.fHeld.length ≤ Fa)).bind fun _ =>
 Bi (fun (v4 : (List Int) × (List Int) × (List Int)) =>
  some ((Ag.mk v4.1 v4.2.1 v4.2.2), true))
 fun j4 =>
 AT ((p2.fKind == 1))
  (Bi (fun (v6 : Bool) =>
   AT v6
    (some ((Ag.mk (([] : List Int)) (([] : List Int)) (([] : List Int))), false))
    ((Bf ((([] : List Int)) ++ p1.fNext) p2.fIndex).bind fun _ =>
    Cb N p0 p2 (fun (v13 : (List Int)) =>
     j4 ((([] : List Int)) ++ p1.fBase, ((([] : List Int)) ++ p1.fNext).set ((p2.fIndex).toNat) p2.fVersion, v13)) N ((([] : List Int)) ++ p1.fHeld, 0)))
  fun j6 =>
  (Bf p1.fNext p2.fIndex).bind fun v7 =>
  AT ((decide (0 ≤ v7)))
   (j6 true)
   ((Bf p1.fBase p2.fIndex).bind fun v9 =>
   j6 (p2.fVersion == v9)))
  (AT ((p2.fKind == 2))
   ((Bf p1.fNext p2.fIndex).bind fun v26 =>
   AT ((decide (v26 < 0)))
    (some ((Ag.mk (([] : List Int)) (([] : List Int)) (([] : List Int))), false))
    ((Bf p1.fNext p2.fIndex).bind fun v28 =>
    (Bf ((([] : List Int)) ++ p1.fBase) p2.fIndex).bind fun _ =>
    (Bf ((([] : List Int)) ++ p1.fNext) p2.fIndex).bind fun _ =>
    j4 (((([] : List Int)) ++ p1.fBase).set ((p2.fIndex).toNat) v28, ((([] : List Int)) ++ p1.fNext).set ((p2.fIndex).toNat) ((-1)), (([] : List Int)) ++ p1.fHeld)))
   (AT ((p2.fKind == 3))
    ((Bf p0.fTables p2.fIndex).bind fun v32 =>
    (BC N v32).bind fun v33 =>
    AT ((!v33))
     (some ((Ag.mk (([] : List Int)) (([] : List Int)) (([] : List Int))), false))
     ((B4 N p1 v32.fFrom).bind fun v35 =>
     (Bf p1.fHeld p2.fIndex).bind fun v36 =>
     AT ((v36 == v35))
      (some ((Ag.mk (([] : List Int)) (([] : List Int)) (([] : List Int))), false))
      (BV N p0 p1 p2 v32 v35 (fun (_ : Unit) =>
       (Bf ((([] : List Int)) ++ p1.fHeld) p2.fIndex).bind fun _ =>
       j4 ((([] : List Int)) ++ p1.fBase, (([] : List Int)) ++ p1.fNext, ((([] : List Int)) ++ p1.fHeld).set ((p2.fIndex).toNat) v35)) N 0)))
    ((Bf p1.fNext p2.fIndex).bind fun v55 =>
    AT ((decide (v55 < 0)))
     (some ((Ag.mk (([] : List Int)) (([] : List Int)) (([] : List Int))), false))
     ((Bf ((([] : List Int)) ++ p1.fNext) p2.fIndex).bind fun _ =>
     j4 ((([] : List Int)) ++ p1.fBase, ((([] : List Int)) ++ p1.fNext).set ((p2.fIndex).toNat) ((-1)), (([] : List Int)) ++ p1.fHeld)))))
def Eo (N : Nat) (p0 : Aj) (p1 : Ag) (p2 : Aw) : Option (Ag × Int) :=
 (Dc N p0 p1).bind fun v1 =>
 AT ((v1 != 0))
  (some ((Ag.mk (([] : List Int)) (([] : List Int)) (([] : List Int))), v1))
  ((Ew N p2).bind fun v3 =>
  AT ((!v3))
   (some ((Ag.mk (([] : List Int)) (([] : List Int)) (([] : List Int))), 1))
   (Bi (fun (v5 : Bool) =>
    AT v5
     (some ((Ag.mk (([] : List Int)) (([] : List Int)) (([] : List Int))), 4))
     (Bi (fun (v11 : Bool) =>
      AT v11
       (some ((Ag.mk (([] : List Int)) (([] : List Int)) (([] : List Int))), 4))
       ((CS N p0 p1 p2).bind fun v15 =>
       AT ((!v15.2))
        (some ((Ag.mk (([] : List Int)) (([] : List Int)) (([] : List Int))), 11))
        (some (v15.1, 0))))
     fun j11 =>
     AT ((p2.fKind == 1))
      ((Bf p0.fVersions p2.fIndex).bind fun v13 =>
      j11 (decide (v13 ≤ p2.fVersion)))
      (j11 false)))
   fun j5 =>
   AT ((p2.fKind == 3))
    (AT ((decide ((p0.fTables.length : Int) ≤ p2.fIndex)))
     (j5 true)
     (AT ((p2.fKind != 3))
      (j5 (decide ((p0.fVersions.length : Int) ≤ p2.fIndex)))
      (j5 false)))
    (AT ((p2.fKind != 3))
     (j5 (decide ((p0.fVersions.length : Int) ≤ p2.fIndex)))
     (j5 false))))
def Cl (N : Nat) (p0 : Aj) (p1 : Ag) (v1 : (List Aw) × Int) (v4 : (List Aw) × Int) (j7 : ((List Aw)) → Option ((List Aw))) : Nat → ((List Aw) × Int) → Option ((List Aw))
 | 0, _ => none
 | n7 + 1, v7 =>
  AT ((decide (v7.2 < 6)))
   (Bi (fun (v10 : (List Aw)) =>
    Cl N p0 p1 v1 v4 j7 n7 (v10, (wI .i64 (v7.2 + 1))))
   fun j10 =>
   (Eo N p0 p1 ((Aw.mk v1.2 v4.2 v7.2))).bind fun v11 =>
   AT ((v11.2 == 0))
    ((EJ (v7.1.length + (([(Aw.mk v1.2 v4.2 v7.2)] : List Aw)).length ≤ Fa)).bind fun _ =>
    j10 (v7.1 ++ (([(Aw.mk v1.2 v4.2 v7.2)] : List Aw))))
    (j10 v7.1))
   (j7 v7.1)
def Cj (N : Nat) (p0 : Aj) (p1 : Ag) (v1 : (List Aw) × Int) (j4 : ((List Aw)) → Option ((List Aw))) : Nat → ((List Aw) × Int) → Option ((List Aw))
 | 0, _ => none
 | n4 + 1, v4 =>
  AT ((decide (v4.2 < (S4 ((p0.fVersions.length : Int)) ((p0.fTables.length : Int))))))
   (Cl N p0 p1 v1 v4 (fun (v8 : (List Aw)) =>
    Cj N p0 p1 v1 j4 n4 (v8, (wI .i64 (v4.2 + 1)))) N (v4.1, 0))
   (j4 v4.1)
def BM (N : Nat) (p0 : Aj) (p1 : Ag) (j1 : ((List Aw)) → Option ((List Aw))) : Nat → ((List Aw) × Int) → Option ((List Aw))
 | 0, _ => none
 | n1 + 1, v1 =>
  AT ((decide (v1.2 ≤ 3)))
   (Cj N p0 p1 v1 (fun (v5 : (List Aw)) =>
    BM N p0 p1 j1 n1 (v5, (wI .i64 (v1.2 + 1)))) N (v1.1, 0))
   (j1 v1.1)
def Ez (N : Nat) (p0 : Aj) (p1 : Ag) : Option ((List Aw)) :=
 BM N p0 p1 (fun (v2 : (List Aw)) =>
  some v2) N (([] : List Aw), 1)
def Ed (_ : Nat) (p0 : Ag) : Option Ag :=
 (EJ ((([] : List Int)).length + p0.fBase.length ≤ Fa)).bind fun _ =>
 (EJ ((([] : List Int)).length + p0.fNext.length ≤ Fa)).bind fun _ =>
 (EJ ((([] : List Int)).length + p0.fHeld.length ≤ Fa)).bind fun _ =>
 some ((Ag.mk ((([] : List Int)) ++ p0.fBase) ((([] : List Int)) ++ p0.fNext) ((([] : List Int)) ++ p0.fHeld)))
def CG (N : Nat) (p0 : Ag) (j1 : Int → Option ((List Ag))) : Nat → (Int × Int) → Option ((List Ag))
 | 0, _ => none
 | n1 + 1, v1 =>
  AT ((decide (v1.2 < (p0.fNext.length : Int))))
   (Bi (fun (v4 : Int) =>
    CG N p0 j1 n1 (v4, (wI .i64 (v1.2 + 1))))
   fun j4 =>
   (Bf p0.fNext v1.2).bind fun v5 =>
   AT ((decide (0 ≤ v5)))
    (j4 (wI .i64 (v1.1 + 1)))
    (j4 v1.1))
   (j1 v1.1)
def B3 (N : Nat) (p0 : Ag) (v7 : (List Ag) × Int) (j12 : ((List Int)) → Option ((List Ag))) : Nat → ((List Int) × Int × Int) → Option ((List Ag))
 | 0, _ => none
 | n12 + 1, v12 =>
  AT ((decide (v12.2.2 < (p0.fNext.length : Int))))
   (Bi (fun (v15 : (List Int) × Int) =>
    B3 N p0 v7 j12 n12 (v15.1, v15.2, (wI .i64 (v12.2.2 + 1))))
   fun j15 =>
   (Bf p0.fNext v12.2.2).bind fun v16 =>
   AT ((decide (v16 < 0)))
    (j15 (v12.1, v12.2.1))
    (Bi (fun (v18 : (List Int)) =>
     j15 (v18, (wI .i64 (v12.2.1 + 1))))
    fun j18 =>
    (EJ (0 ≤ v12.2.1)).bind fun _ =>
    AT (((Int.tmod ((EA .i64 v7.2 v12.2.1)) 2) == 1))
     ((Bf v12.1 v12.2.2).bind fun _ =>
     j18 (v12.1.set ((v12.2.2).toNat) ((-1))))
     (j18 v12.1)))
   (j12 v12.1)
def BN (N : Nat) (p0 : Ag) (v2 : Int) (j7 : ((List Ag)) → Option ((List Ag))) : Nat → ((List Ag) × Int) → Option ((List Ag))
 | 0, _ => none
 | n7 + 1, v7 =>
  (EJ (0 ≤ v2)).bind fun _ =>
  AT ((decide (v7.2 < (CF .i64 1 v2))))
   ((Ed N p0).bind fun v11 =>
   B3 N p0 v7 (fun (v13 : (List Int)) =>
    (EJ (v7.1.length + (([(Ag.mk v11.fBase v13 v11.fHeld)] : List Ag)).length ≤ Fa)).bind fun _ =>
    BN N p0 v2 j7 n7 (v7.1 ++ (([(Ag.mk v11.fBase v13 v11.fHeld)] : List Ag)), (wI .i64 (v7.2 + 1)))) N (v11.fNext, 0, 0))
   (j7 v7.1)
def Ek (N : Nat) (p0 : Ag) : Option ((List Ag)) :=
 CG N p0 (fun (v2 : Int) =>
  BN N p0 v2 (fun (v8 : (List Ag)) =>
   some v8) N (([] : List Ag), 0)) N (0, 0)
def E5 (N : Nat) (p0 : Aj) (p1 : Ag) : Option ((List Ag) × Int) :=
 (Dc N p0 p1).bind fun v1 =>
 AT ((v1 != 0))
  (some (([] : List Ag), v1))
  ((Ek N p1).bind fun v3 =>
  some (v3, 0))
def BE (N : Nat) (p0 : Aj) (p1 : Ag) (v1 : (List Ah) × Int) (v4 : AV) (v10 : (List Ah) × Int) (j17 : ((List Ah) × Bool) → Option ((List Ah))) : Nat → ((List Ah) × Bool × Int) → Option ((List Ah))
 | 0, _ => none
 | n17 + 1, v17 =>
  (Bf p0.fVersions v4.fTo).bind fun v19 =>
  AT ((decide (v17.2.2 < v19)))
   (Bi (fun (v21 : (List Ah) × Bool) =>
    BE N p0 p1 v1 v4 v10 j17 n17 (v21.1, v21.2, (wI .i64 (v17.2.2 + 1))))
   fun j21 =>
   (B4 N p1 v4.fTo).bind fun v22 =>
   (CD N v22 v17.2.2).bind fun v23 =>
   AT ((!v23))
    (j21 (v17.1, v17.2.1))
    (Bi (fun (v25 : Bool) =>
     Bi (fun (v29 : Bool) =>
      AT v29
       ((EJ (v17.1.length + (([(Ah.mk v1.2 v10.2 v17.2.2)] : List Ah)).length ≤ Fa)).bind fun _ =>
       j21 (v17.1 ++ (([(Ah.mk v1.2 v10.2 v17.2.2)] : List Ah)), v25))
       (j21 (v17.1, v25)))
     fun j29 =>
     AT ((!v4.fAware))
      ((Bf v4.fOK v10.2).bind fun v31 =>
      (Bf v31 v17.2.2).bind fun v32 =>
      j29 (!v32))
      (j29 false))
    fun j25 =>
    AT v17.2.1
     (j25 true)
     ((Bf v4.fOK v10.2).bind fun v27 =>
     (Bf v27 v17.2.2).bind fun v28 =>
     j25 v28)))
   (j17 (v17.1, v17.2.1))
def BT (N : Nat) (p0 : Aj) (p1 : Ag) (v1 : (List Ah) × Int) (v4 : AV) (v6 : Int) (j10 : ((List Ah)) → Option ((List Ah))) : Nat → ((List Ah) × Int) → Option ((List Ah))
 | 0, _ => none
 | n10 + 1, v10 =>
  (Bf p0.fVersions v4.fFrom).bind fun v12 =>
  AT ((decide (v10.2 < v12)))
   (Bi (fun (v14 : (List Ah)) =>
    BT N p0 p1 v1 v4 v6 j10 n10 (v14, (wI .i64 (v10.2 + 1))))
   fun j14 =>
   (CD N v6 v10.2).bind fun v15 =>
   AT ((!v15))
    (j14 v10.1)
    (BE N p0 p1 v1 v4 v10 (fun (v18 : (List Ah) × Bool) =>
     Bi (fun (v35 : Bool) =>
      AT v35
       ((EJ (v18.1.length + (([(Ah.mk v1.2 v10.2 ((-1)))] : List Ah)).length ≤ Fa)).bind fun _ =>
       j14 (v18.1 ++ (([(Ah.mk v1.2 v10.2 ((-1)))] : List Ah))))
       (j14 v18.1))
     fun j35 =>
     AT v4.fAware
      (j35 (!v18.2))
      (j35 false)) N (v10.1, false, 0)))
   (j10 v10.1)
def CK (N : Nat) (p0 : Aj) (p1 : Ag) (j1 : ((List Ah)) → Option ((List Ah))) : Nat → ((List Ah) × Int) → Option ((List Ah))
 | 0, _ => none
 | n1 + 1, v1 =>
  AT ((decide (v1.2 < (p0.fTables.length : Int))))
   ((Bf p0.fTables v1.2).bind fun v4 =>
   (B4 N p1 v4.fFrom).bind fun v5 =>
   Bi (fun (v6 : Int) =>
    BT N p0 p1 v1 v4 v6 (fun (v11 : (List Ah)) =>
     CK N p0 p1 j1 n1 (v11, (wI .i64 (v1.2 + 1)))) N (v1.1, 0))
   fun j6 =>
   (BC N v4).bind fun v7 =>
   AT v7
    ((Bf p1.fHeld v1.2).bind fun v9 =>
    j6 v9)
    (j6 v5))
   (j1 v1.1)
def Et (N : Nat) (p0 : Aj) (p1 : Ag) : Option ((List Ah)) :=
 CK N p0 p1 (fun (v2 : (List Ah)) =>
  some v2) N (([] : List Ah), 0)
def CL (N : Nat) (p0 : Aj) (v1 : (List Ag) × Int) (j3 : Unit → Option (Ag × Ah × Int)) : Nat → Int → Option (Ag × Ah × Int)
 | 0, _ => none
 | n3 + 1, v3 =>
  AT ((decide (v3 < (v1.1.length : Int))))
   ((Bf v1.1 v3).bind fun v6 =>
   (Et N p0 v6).bind fun v7 =>
   AT ((decide (0 < (v7.length : Int))))
    ((Bf v1.1 v3).bind fun v9 =>
    (Bf v7 0).bind fun v10 =>
    some (v9, v10, 0))
    (CL N p0 v1 j3 n3 (wI .i64 (v3 + 1))))
   (j3 ())
def Ey (N : Nat) (p0 : Aj) (p1 : Ag) : Option (Ag × Ah × Int) :=
 (E5 N p0 p1).bind fun v1 =>
 AT ((v1.2 != 0))
  (some ((Ag.mk (([] : List Int)) (([] : List Int)) (([] : List Int))), (Ah.mk 0 0 0), v1.2))
  (CL N p0 v1 (fun (_ : Unit) =>
   some ((Ag.mk (([] : List Int)) (([] : List Int)) (([] : List Int))), (Ah.mk 0 0 0), 15)) N 0)
def B7 (N : Nat) (p0 : Aj) (p1 : Ag) (v1 : (List Aw)) (j2 : ((List A3)) → Option ((List A3))) : Nat → ((List A3) × Int) → Option ((List A3))
 | 0, _ => none
 | n2 + 1, v2 =>
  AT ((decide (v2.2 < (v1.length : Int))))
   (Bi (fun (v5 : (List A3)) =>
    B7 N p0 p1 v1 j2 n2 (v5, (wI .i64 (v2.2 + 1))))
   fun j5 =>
   (Bf v1 v2.2).bind fun v6 =>
   (CS N p0 p1 v6).bind fun v7 =>
   (Ey N p0 v7.1).bind fun v8 =>
   AT ((v8.2.2 == 0))
    ((Bf v1 v2.2).bind fun v10 =>
    (EJ (v2.1.length + (([(A3.mk v10 v8.1 v8.2.1)] : List A3)).length ≤ Fa)).bind fun _ =>
    j5 (v2.1 ++ (([(A3.mk v10 v8.1 v8.2.1)] : List A3))))
    (j5 v2.1))
   (j2 v2.1)
def Ee (N : Nat) (p0 : Aj) (p1 : Ag) : Option ((List A3)) :=
 (Ez N p0 p1).bind fun v1 =>
 B7 N p0 p1 v1 (fun (v3 : (List A3)) =>
  some v3) N (([] : List A3), 0)
def B8 (N : Nat) (p0 : Aj) (p1 : List Ag) (j3 : ((List A3)) → Option ((List A3) × Int)) : Nat → ((List A3) × Int) → Option ((List A3) × Int)
 | 0, _ => none
 | n3 + 1, v3 =>
  AT ((decide (v3.2 < (p1.length : Int))))
   ((Bf p1 v3.2).bind fun v6 =>
   (Ee N p0 v6).bind fun v7 =>
   (EJ (v3.1.length + v7.length ≤ Fa)).bind fun _ =>
   B8 N p0 p1 j3 n3 (v3.1 ++ v7, (wI .i64 (v3.2 + 1))))
   (j3 v3.1)
def C0 (N : Nat) (p0 : Aj) (p1 : List Ag) : Option ((List A3) × Int) :=
 (DV N p0 p1).bind fun v1 =>
 AT ((v1 != 0))
  (some (([] : List A3), v1))
  (B8 N p0 p1 (fun (v4 : (List A3)) =>
   some (v4, 0)) N (([] : List A3), 0))
def BH (N : Nat) (p0 : Aj) (p1 : List Ag) (v6 : Int × Int × Int) (j10 : Int → Option (Int × Ag × Int)) : Nat → (Int × Int) → Option (Int × Ag × Int)
 | 0, _ => none
 | n10 + 1, v10 =>
  AT ((decide (v10.2 < (p0.fTarget.length : Int))))
   (Bi (fun (v13 : Int) =>
    BH N p0 p1 v6 j10 n10 (v13, (wI .i64 (v10.2 + 1))))
   fun j13 =>
   Bi (fun (v14 : Bool) =>
    AT v14
     (j13 (wI .i64 (v10.1 + 1)))
     (j13 v10.1))
   fun j14 =>
   (Bf p1 v6.2.2).bind fun v15 =>
   (Bf v15.fNext v10.2).bind fun v16 =>
   AT ((decide (v16 < 0)))
    ((Bf p1 v6.2.2).bind fun v18 =>
    (Bf v18.fBase v10.2).bind fun v19 =>
    (Bf p0.fTarget v10.2).bind fun v20 =>
    j14 (v19 == v20))
    (j14 false))
   (j10 v10.1)
def CU (N : Nat) (p0 : Aj) (p1 : List Ag) (j6 : (Int × Int) → Option (Int × Ag × Int)) : Nat → (Int × Int × Int) → Option (Int × Ag × Int)
 | 0, _ => none
 | n6 + 1, v6 =>
  AT ((decide (v6.2.2 < (p1.length : Int))))
   (Bi (fun (v9 : Int × Int) =>
    CU N p0 p1 j6 n6 (v9.1, v9.2, (wI .i64 (v6.2.2 + 1))))
   fun j9 =>
   BH N p0 p1 v6 (fun (v11 : Int) =>
    AT ((decide (v6.1 < v11)))
     (j9 (v11, v6.2.2))
     (j9 (v6.1, v6.2.1))) N (0, 0))
   (j6 (v6.1, v6.2.1))
def D2 (N : Nat) (p0 : Aj) (p1 : List Ag) : Option (Int × Ag × Int) :=
 (BA N p0).bind fun v1 =>
 AT ((v1 != 0))
  (some (0, (Ag.mk (([] : List Int)) (([] : List Int)) (([] : List Int))), v1))
  (AT (((p1.length : Int) == 0))
   (some (0, (Ag.mk (([] : List Int)) (([] : List Int)) (([] : List Int))), 10))
   ((DV N p0 p1).bind fun v4 =>
   AT ((v4 != 0))
    (some (0, (Ag.mk (([] : List Int)) (([] : List Int)) (([] : List Int))), v4))
    (CU N p0 p1 (fun (v7 : Int × Int) =>
     (Bf p1 v7.2).bind fun v23 =>
     some (v7.1, v23, 0)) N ((-1), 0, 0))))
def Ct (N : Nat) (p0 : List A3) (p1 : List A3) (j2 : Unit → Option Bool) : Nat → Int → Option Bool
 | 0, _ => none
 | n2 + 1, v2 =>
  AT ((decide (v2 < (p0.length : Int))))
   (Bi (fun (v5 : Bool) =>
    AT v5
     (some false)
     (Ct N p0 p1 j2 n2 (wI .i64 (v2 + 1))))
   fun j5 =>
   (Bf p0 v2).bind fun v6 =>
   (Bf p1 v2).bind fun v7 =>
   AT ((!((v6.fStep.fKind == v7.fStep.fKind) && ((v6.fStep.fIndex == v7.fStep.fIndex) && ((v6.fStep.fVersion == v7.fStep.fVersion) && true)))))
    (j5 true)
    ((Bf p0 v2).bind fun v9 =>
    (Bf p1 v2).bind fun v10 =>
    AT ((!((v9.fConflict.fTable == v10.fConflict.fTable) && ((v9.fConflict.fWriter == v10.fConflict.fWriter) && ((v9.fConflict.fReader == v10.fConflict.fReader) && true)))))
     (j5 true)
     ((Bf p0 v2).bind fun v12 =>
     (Bf p1 v2).bind fun v13 =>
     (BW N ((Ag.mk v12.fMix.fBase v12.fMix.fNext v12.fMix.fHeld)) ((Ag.mk v13.fMix.fBase v13.fMix.fNext v13.fMix.fHeld))).bind fun v14 =>
     j5 (!v14))))
   (j2 ())
def CZ (N : Nat) (p0 : List A3) (p1 : List A3) : Option Bool :=
 AT (((p0.length : Int) != (p1.length : Int)))
  (some false)
  (Ct N p0 p1 (fun (_ : Unit) =>
   some true) N 0)
def C6 (N : Nat) (p0 : Aj) (p1 : List Ag) : Option Bool :=
 Bi (fun (v1 : Bool) =>
  AT v1
   ((Ev N).bind fun v9 =>
   some v9)
   ((C0 N p0 p1).bind fun v10 =>
   (Ej N p0 p1).bind fun v11 =>
   (EF N p0 p1).bind fun v12 =>
   (EE N p0 p1).bind fun v13 =>
   (D2 N p0 p1).bind fun v14 =>
   Bi (fun (v15 : Bool) =>
    AT v15
     (some false)
     (Bi (fun (_ : Unit) =>
      (BA N p0).bind fun v34 =>
      AT ((v34 != 0))
       ((EI N p0).bind fun v36 =>
       Bi (fun (v37 : Bool) =>
        some v37)
       fun j37 =>
       AT ((v36.2 == v34))
        (AT (((v36.1.length : Int) == 0))
         ((DG N p0 p1).bind fun v40 =>
         j37 (!v40))
         (j37 false))
        (j37 false))
       (some true))
     fun j24 =>
     AT ((decide (0 < (p1.length : Int))))
      ((Bf p1 0).bind fun v26 =>
      (D0 N p0 v26).bind fun v27 =>
      (EJ ((0 : Int) ≤ 1 ∧ 0 ≤ (1 : Int).toNat ∧ (1 : Int).toNat ≤ p1.length)).bind fun _ =>
      (C0 N p0 (((p1.drop 0).take ((1 : Int).toNat - 0)))).bind fun v29 =>
      Bi (fun (v30 : Bool) =>
       AT v30
        (some false)
        (j24 ()))
      fun j30 =>
      AT ((v27.2 != v29.2))
       (j30 true)
       ((CZ N v27.1 v29.1).bind fun v32 =>
       j30 (!v32)))
      (j24 ())))
   fun j15 =>
   AT ((v11.2 != v10.2))
    (j15 true)
    (AT ((v12.2 != v10.2))
     (j15 true)
     (AT ((v13.2.2 != v14.2.2))
      (j15 true)
      (AT ((v13.1 != v14.1))
       (j15 true)
       ((BW N v13.2.1 v14.2.1).bind fun v20 =>
       AT ((!v20))
        (j15 true)
        (AT ((v10.2 != 0))
         (j15 (decide (0 < (wI .i64 ((v11.1.length : Int) + (v12.1.length : Int))))))
         (j15 false))))))))
 fun j1 =>
 (Ev N).bind fun v2 =>
 AT ((!v2))
  (j1 true)
  ((E2 N p0).bind fun v4 =>
  AT ((!v4))
   (j1 true)
   (AT ((decide (4 < (p1.length : Int))))
    (j1 true)
    ((Bz N p1 ((fun (x : Ag) => Ci N x))).bind fun v7 =>
    j1 v7)))
def Iu {α : Type} (w : α → Prop) (xs : List α) : Prop := ∀ x, x ∈ xs → w x
def Ol (n : Int) : Prop := (Lit.int .i64 n).wf = true
def JR (n : Int) : Prop := (Lit.int .u8 n).wf = true
def Mk (x : AV) : Prop := Ol x.fKind ∧ Ol x.fFrom ∧ Ol x.fTo ∧ (fun _ => True) x.fAware ∧ (Iu (Iu (fun _ => True))) x.fOK ∧ (Iu (Iu (fun _ => True))) x.fRewrite ∧ True
def KL (x : Aj) : Prop := (Iu Ol) x.fVersions ∧ (Iu Ol) x.fNow ∧ (Iu Ol) x.fTarget ∧ (Iu Mk) x.fTables ∧ True
def M9 (x : Ag) : Prop := (Iu Ol) x.fBase ∧ (Iu Ol) x.fNext ∧ (Iu JR) x.fHeld ∧ True
end Go.Lift
namespace Go.Lift
open Go.RowKit
open Go.Proofs
theorem Ac : Tryz.prog.follows .mixedOrders = true := by kernel_rfl
theorem NB : FG Tryz.prog 195 false = true := by kernel_rfl
theorem Bs : FG Tryz.prog 26 false = true := by kernel_rfl
theorem GQ : FG Tryz.prog 27 false = true := by kernel_rfl
theorem Di : FG Tryz.prog 29 true = true := by kernel_rfl
theorem Cz : FG Tryz.prog 3 false = true := by kernel_rfl
theorem SI : FG Tryz.prog 4 false = true := by kernel_rfl
theorem G5 : FG Tryz.prog 44 false = true := by kernel_rfl
theorem A4 : FG Tryz.prog 46 true = true := by kernel_rfl
theorem CP : FG Tryz.prog 66 true = true := by kernel_rfl
theorem IP : FG Tryz.prog 67 false = true := by kernel_rfl
theorem Iy : FG Tryz.prog 69 true = true := by kernel_rfl
theorem Ns : FG Tryz.prog 70 false = true := by kernel_rfl
theorem JZ : FG Tryz.prog 81 false = true := by kernel_rfl
theorem HR : FG Tryz.prog 84 true = true := by kernel_rfl
theorem Ze : FG Tryz.prog 86 true = true := by kernel_rfl
theorem XH : PM Tryz.prog 22 = true := by kernel_rfl
theorem Qf : Hd Tryz.prog 3 8 = true := by kernel_rfl
theorem SD : Hd Tryz.prog 46 72 = true := by kernel_rfl
theorem Xq : Hd Tryz.prog 5 1 = true := by kernel_rfl
theorem Qn : Hd Tryz.prog 66 24 = true := by kernel_rfl
theorem R3 : Hd Tryz.prog 81 1 = true := by kernel_rfl
theorem Qb : Hd Tryz.prog 84 24 = true := by kernel_rfl
theorem RY : Hd Tryz.prog 86 120 = true := by kernel_rfl
theorem Cq : DY Tryz.prog 29 0 0 = true := by kernel_rfl
theorem Iv : DY Tryz.prog 29 1 1 = true := by kernel_rfl
theorem H3 : DY Tryz.prog 29 2 2 = true := by kernel_rfl
theorem CI : DY Tryz.prog 29 3 3 = true := by kernel_rfl
theorem CO : DY Tryz.prog 46 0 0 = true := by kernel_rfl
theorem BK : DY Tryz.prog 46 1 1 = true := by kernel_rfl
theorem CM : DY Tryz.prog 46 2 2 = true := by kernel_rfl
theorem Sv : DY Tryz.prog 66 0 0 = true := by kernel_rfl
theorem R6 : DY Tryz.prog 66 1 1 = true := by kernel_rfl
theorem SE : DY Tryz.prog 66 2 2 = true := by kernel_rfl
theorem GG : DY Tryz.prog 69 0 0 = true := by kernel_rfl
theorem DZ : DY Tryz.prog 69 1 1 = true := by kernel_rfl
theorem Jj : DY Tryz.prog 69 2 2 = true := by kernel_rfl
theorem KT : DY Tryz.prog 69 3 3 = true := by kernel_rfl
theorem IB : DY Tryz.prog 69 4 4 = true := by kernel_rfl
theorem Ge : DY Tryz.prog 69 5 5 = true := by kernel_rfl
theorem FO : DY Tryz.prog 84 0 0 = true := by kernel_rfl
theorem E6 : DY Tryz.prog 84 1 1 = true := by kernel_rfl
theorem Ha : DY Tryz.prog 84 2 2 = true := by kernel_rfl
theorem Pi : DY Tryz.prog 86 0 0 = true := by kernel_rfl
theorem R1 : DY Tryz.prog 86 1 3 = true := by kernel_rfl
theorem M7 : DY Tryz.prog 86 2 6 = true := by kernel_rfl
theorem YL : AK Tryz.prog 100 = true := by kernel_rfl
theorem Xs : AK Tryz.prog 101 = true := by kernel_rfl
theorem Sq : AK Tryz.prog 102 = true := by kernel_rfl
theorem YH : AK Tryz.prog 103 = true := by kernel_rfl
theorem US : AK Tryz.prog 104 = true := by kernel_rfl
theorem UF : AK Tryz.prog 105 = true := by kernel_rfl
theorem Wq : AK Tryz.prog 106 = true := by kernel_rfl
theorem TH : AK Tryz.prog 107 = true := by kernel_rfl
theorem Tj : AK Tryz.prog 108 = true := by kernel_rfl
theorem Wr : AK Tryz.prog 109 = true := by kernel_rfl
theorem Yj : AK Tryz.prog 11 = true := by kernel_rfl
theorem XE : AK Tryz.prog 111 = true := by kernel_rfl
theorem YG : AK Tryz.prog 113 = true := by kernel_rfl
theorem Su : AK Tryz.prog 114 = true := by kernel_rfl
theorem We : AK Tryz.prog 115 = true := by kernel_rfl
theorem Uu : AK Tryz.prog 118 = true := by kernel_rfl
theorem Ye : AK Tryz.prog 119 = true := by kernel_rfl
theorem YI : AK Tryz.prog 12 = true := by kernel_rfl
theorem XU : AK Tryz.prog 120 = true := by kernel_rfl
theorem X6 : AK Tryz.prog 121 = true := by kernel_rfl
theorem Xm : AK Tryz.prog 122 = true := by kernel_rfl
theorem Ys : AK Tryz.prog 123 = true := by kernel_rfl
theorem XN : AK Tryz.prog 124 = true := by kernel_rfl
theorem YK : AK Tryz.prog 125 = true := by kernel_rfl
theorem Yb : AK Tryz.prog 126 = true := by kernel_rfl
theorem X2 : AK Tryz.prog 127 = true := by kernel_rfl
theorem XW : AK Tryz.prog 128 = true := by kernel_rfl
theorem XR : AK Tryz.prog 129 = true := by kernel_rfl
theorem YC : AK Tryz.prog 130 = true := by kernel_rfl
theorem V1 : AK Tryz.prog 131 = true := by kernel_rfl
theorem YF : AK Tryz.prog 132 = true := by kernel_rfl
theorem Xu : AK Tryz.prog 133 = true := by kernel_rfl
theorem Xt : AK Tryz.prog 134 = true := by kernel_rfl
theorem Ym : AK Tryz.prog 135 = true := by kernel_rfl
theorem Yv : AK Tryz.prog 136 = true := by kernel_rfl
theorem YJ : AK Tryz.prog 137 = true := by kernel_rfl
theorem Yd : AK Tryz.prog 138 = true := by kernel_rfl
theorem Xr : AK Tryz.prog 139 = true := by kernel_rfl
theorem Zs : AK Tryz.prog 14 = true := by kernel_rfl
theorem Xo : AK Tryz.prog 140 = true := by kernel_rfl
theorem Yu : AK Tryz.prog 141 = true := by kernel_rfl
theorem X7 : AK Tryz.prog 142 = true := by kernel_rfl
theorem Xv : AK Tryz.prog 143 = true := by kernel_rfl
theorem X4 : AK Tryz.prog 145 = true := by kernel_rfl
theorem Yz : AK Tryz.prog 146 = true := by kernel_rfl
theorem XZ : AK Tryz.prog 147 = true := by kernel_rfl
theorem YE : AK Tryz.prog 148 = true := by kernel_rfl
theorem XQ : AK Tryz.prog 149 = true := by kernel_rfl
theorem Vr : AK Tryz.prog 15 = true := by kernel_rfl
theorem Xz : AK Tryz.prog 150 = true := by kernel_rfl
theorem XF : AK Tryz.prog 151 = true := by kernel_rfl
theorem Yp : AK Tryz.prog 152 = true := by kernel_rfl
theorem YO : AK Tryz.prog 153 = true := by kernel_rfl
theorem Xp : AK Tryz.prog 154 = true := by kernel_rfl
theorem Wv : AK Tryz.prog 155 = true := by kernel_rfl
theorem V6 : AK Tryz.prog 156 = true := by kernel_rfl
theorem XL : AK Tryz.prog 157 = true := by kernel_rfl
theorem YN : AK Tryz.prog 158 = true := by kernel_rfl
theorem Xk : AK Tryz.prog 159 = true := by kernel_rfl
theorem XO : AK Tryz.prog 160 = true := by kernel_rfl
theorem V3 : AK Tryz.prog 161 = true := by kernel_rfl
theorem Wm : AK Tryz.prog 162 = true := by kernel_rfl
theorem Wu : AK Tryz.prog 163 = true := by kernel_rfl
theorem Uo : AK Tryz.prog 164 = true := by kernel_rfl
theorem Ww : AK Tryz.prog 165 = true := by kernel_rfl
theorem Wa : AK Tryz.prog 166 = true := by kernel_rfl
theorem Tt : AK Tryz.prog 167 = true := by kernel_rfl
theorem Wb : AK Tryz.prog 168 = true := by kernel_rfl
theorem Xj : AK Tryz.prog 169 = true := by kernel_rfl
theorem YM : AK Tryz.prog 170 = true := by kernel_rfl
theorem T2 : AK Tryz.prog 171 = true := by kernel_rfl
theorem Ua : AK Tryz.prog 172 = true := by kernel_rfl
theorem XC : AK Tryz.prog 18 = true := by kernel_rfl
theorem XI : AK Tryz.prog 19 = true := by kernel_rfl
theorem Zj : AK Tryz.prog 20 = true := by kernel_rfl
theorem W7 : AK Tryz.prog 21 = true := by kernel_rfl
theorem YD : AK Tryz.prog 22 = true := by kernel_rfl
theorem Zc : AK Tryz.prog 24 = true := by kernel_rfl
theorem X0 : AK Tryz.prog 25 = true := by kernel_rfl
theorem Zq : AK Tryz.prog 26 = true := by kernel_rfl
theorem U6 : AK Tryz.prog 27 = true := by kernel_rfl
theorem YB : AK Tryz.prog 30 = true := by kernel_rfl
theorem Zn : AK Tryz.prog 32 = true := by kernel_rfl
theorem ZC : AK Tryz.prog 33 = true := by kernel_rfl
theorem Zh : AK Tryz.prog 34 = true := by kernel_rfl
theorem Vp : AK Tryz.prog 35 = true := by kernel_rfl
theorem RL : AK Tryz.prog 39 = true := by kernel_rfl
theorem Y9 : AK Tryz.prog 40 = true := by kernel_rfl
theorem Zu : AK Tryz.prog 41 = true := by kernel_rfl
theorem X1 : AK Tryz.prog 42 = true := by kernel_rfl
theorem Yy : AK Tryz.prog 44 = true := by kernel_rfl
theorem TN : AK Tryz.prog 45 = true := by kernel_rfl
theorem WT : AK Tryz.prog 46 = true := by kernel_rfl
theorem XJ : AK Tryz.prog 47 = true := by kernel_rfl
theorem W8 : AK Tryz.prog 48 = true := by kernel_rfl
theorem WJ : AK Tryz.prog 49 = true := by kernel_rfl
theorem RA : AK Tryz.prog 51 = true := by kernel_rfl
theorem Uz : AK Tryz.prog 54 = true := by kernel_rfl
theorem XX : AK Tryz.prog 55 = true := by kernel_rfl
theorem XG : AK Tryz.prog 56 = true := by kernel_rfl
theorem Zl : AK Tryz.prog 57 = true := by kernel_rfl
theorem U8 : AK Tryz.prog 58 = true := by kernel_rfl
theorem Zi : AK Tryz.prog 59 = true := by kernel_rfl
theorem Zb : AK Tryz.prog 60 = true := by kernel_rfl
theorem YP : AK Tryz.prog 61 = true := by kernel_rfl
theorem Vf : AK Tryz.prog 62 = true := by kernel_rfl
theorem Zw : AK Tryz.prog 63 = true := by kernel_rfl
theorem Ub : AK Tryz.prog 65 = true := by kernel_rfl
theorem RD : AK Tryz.prog 66 = true := by kernel_rfl
theorem WP : AK Tryz.prog 67 = true := by kernel_rfl
theorem ZK : AK Tryz.prog 68 = true := by kernel_rfl
theorem Zd : AK Tryz.prog 72 = true := by kernel_rfl
theorem Yc : AK Tryz.prog 73 = true := by kernel_rfl
theorem Y6 : AK Tryz.prog 75 = true := by kernel_rfl
theorem ZF : AK Tryz.prog 76 = true := by kernel_rfl
theorem Zg : AK Tryz.prog 78 = true := by kernel_rfl
theorem Wz : AK Tryz.prog 82 = true := by kernel_rfl
theorem Zo : AK Tryz.prog 83 = true := by kernel_rfl
theorem W6 : AK Tryz.prog 84 = true := by kernel_rfl
theorem Y4 : AK Tryz.prog 85 = true := by kernel_rfl
theorem Zf : AK Tryz.prog 86 = true := by kernel_rfl
theorem Y3 : AK Tryz.prog 87 = true := by kernel_rfl
theorem ZH : AK Tryz.prog 88 = true := by kernel_rfl
theorem Zy : AK Tryz.prog 89 = true := by kernel_rfl
theorem ZD : AK Tryz.prog 90 = true := by kernel_rfl
theorem WC : AK Tryz.prog 91 = true := by kernel_rfl
theorem YA : AK Tryz.prog 92 = true := by kernel_rfl
theorem Zv : AK Tryz.prog 93 = true := by kernel_rfl
theorem Y7 : AK Tryz.prog 94 = true := by kernel_rfl
theorem Zt : AK Tryz.prog 95 = true := by kernel_rfl
theorem Zm : AK Tryz.prog 96 = true := by kernel_rfl
theorem XY : AK Tryz.prog 97 = true := by kernel_rfl
theorem Y2 : AK Tryz.prog 98 = true := by kernel_rfl
theorem Zr : AK Tryz.prog 99 = true := by kernel_rfl
theorem MH : Og Tryz.prog 152 .u64 = true := by kernel_rfl
theorem QH : Og Tryz.prog 179 .u32 = true := by kernel_rfl
theorem Wn : Og Tryz.prog 181 .u64 = true := by kernel_rfl
theorem Wd : Og Tryz.prog 195 .u64 = true := by kernel_rfl
theorem Wp : Og Tryz.prog 3 .i64 = true := by kernel_rfl
theorem YW : Og Tryz.prog 5 .u8 = true := by kernel_rfl
theorem WN : Tryz.prog.underlying 9 = some .string := by kernel_rfl
theorem PH : Tryz.prog.underlying 134 = some (.map 9 4) := by kernel_rfl
theorem Zk : IC Tryz.prog 29 = some [(0, 1), (1, 1), (2, 1), (3, 1)] := by kernel_rfl
theorem Gt : IC Tryz.prog 46 = some [(0, 1), (1, 1), (2, 1)] := by kernel_rfl
theorem PQ : IC Tryz.prog 66 = some [(0, 1), (1, 1), (2, 1)] := by kernel_rfl
theorem ZJ : IC Tryz.prog 69 = some [(0, 1), (1, 1), (2, 1), (3, 1), (4, 1), (5, 1)] := by kernel_rfl
theorem UE : IC Tryz.prog 84 = some [(0, 1), (1, 1), (2, 1)] := by kernel_rfl
theorem Ya : IC Tryz.prog 86 = some [(0, 3), (3, 3), (6, 3)] := by kernel_rfl
theorem QL : SR Tryz.prog 66 = some [0, 0, 0] := by kernel_rfl
theorem Wc : SR Tryz.prog 84 = some [0, 0, 0] := by kernel_rfl
theorem O6 : sliceB Tryz.prog 22 5 = true := by kernel_rfl
theorem AN : sliceB Tryz.prog 26 3 = true := by kernel_rfl
theorem D6 : sliceB Tryz.prog 27 69 = true := by kernel_rfl
theorem A0 : sliceB Tryz.prog 30 46 = true := by kernel_rfl
theorem Dj : sliceB Tryz.prog 44 81 = true := by kernel_rfl
theorem zFS : sliceB Tryz.prog 48 86 = true := by kernel_rfl
theorem A8 : sliceB Tryz.prog 55 66 = true := by kernel_rfl
theorem F1 : sliceB Tryz.prog 67 70 = true := by kernel_rfl
theorem Ji : sliceB Tryz.prog 70 4 = true := by kernel_rfl
theorem EU : sliceB Tryz.prog 94 84 = true := by kernel_rfl
theorem N9 : (Tryz.prog.underlying 152).isSome = true := by kernel_rfl
theorem P2 : (Tryz.prog.underlying 179).isSome = true := by kernel_rfl
theorem UH : (Tryz.prog.underlying 181).isSome = true := by kernel_rfl
theorem UW : (Tryz.prog.underlying 3).isSome = true := by kernel_rfl
theorem ZI : (Tryz.prog.underlying 5).isSome = true := by kernel_rfl
theorem ZA : (Tryz.prog.underlying 81).isSome = true := by kernel_rfl
theorem Vw : O0 Tryz.prog 9 = true := by kernel_rfl
theorem QX : Il Tryz.prog 195 1 = true := by kernel_rfl
theorem Da : Il Tryz.prog 29 4 = true := by kernel_rfl
theorem DJ : Il Tryz.prog 3 1 = true := by kernel_rfl
theorem VM : Il Tryz.prog 4 1 = true := by kernel_rfl
theorem Az : Il Tryz.prog 46 3 = true := by kernel_rfl
theorem YV : Il Tryz.prog 5 1 = true := by kernel_rfl
theorem AU : Il Tryz.prog 66 3 = true := by kernel_rfl
theorem EB : Il Tryz.prog 69 6 = true := by kernel_rfl
theorem MZ : Il Tryz.prog 70 1 = true := by kernel_rfl
theorem FW : Il Tryz.prog 81 1 = true := by kernel_rfl
theorem Es : Il Tryz.prog 84 3 = true := by kernel_rfl
theorem Kg : Il Tryz.prog 86 9 = true := by kernel_rfl
theorem V9 : EY Tryz.prog 195 = some (.int .u64 0) := by kernel_rfl
theorem Xl : EY Tryz.prog 29 = some (.agg #[.slice none 0 0, .slice none 0 0, .slice none 0 0, .slice none 0 0]) := by kernel_rfl
theorem Mt : EY Tryz.prog 3 = some (.int .i64 0) := by kernel_rfl
theorem Za : EY Tryz.prog 4 = some (.bool false) := by kernel_rfl
theorem Cs : EY Tryz.prog 46 = some (.agg #[.slice none 0 0, .slice none 0 0, .slice none 0 0]) := by kernel_rfl
theorem Y0 : EY Tryz.prog 5 = some (.int .u8 0) := by kernel_rfl
theorem HW : EY Tryz.prog 66 = some (.agg #[.int .i64 0, .int .i64 0, .int .i64 0]) := by kernel_rfl
theorem NA : EY Tryz.prog 69 = some (.agg #[.int .i64 0, .int .i64 0, .int .i64 0, .bool false, .slice none 0 0, .slice none 0 0]) := by kernel_rfl
theorem Zx : EY Tryz.prog 70 = some (.slice none 0 0) := by kernel_rfl
theorem Pq : EY Tryz.prog 81 = some (.int .u8 0) := by kernel_rfl
theorem Jq : EY Tryz.prog 84 = some (.agg #[.int .i64 0, .int .i64 0, .int .i64 0]) := by kernel_rfl
theorem Pw : EY Tryz.prog 86 = some (.agg #[.int .i64 0, .int .i64 0, .int .i64 0, .slice none 0 0, .slice none 0 0, .slice none 0 0, .int .i64 0, .int .i64 0, .int .i64 0]) := by kernel_rfl
open IntKind renaming wrap → wI
set_option maxRecDepth 10000
theorem C1 (N : Nat) (r : Aj) (h : B5 N = some r) : AD Tryz.prog 39 [] [(1, r.fVersions.map Al), (1, r.fNow.map Al), (1, r.fTarget.map Al), (6, r.fTables.map Ar)] (.e (.agg [.own 0, .own 1, .own 2, .own 3])) := by
 unfold B5 at h
 refine Au (n := 10) (rs := [.cell 0 29]) Tryz.func39 rfl rfl rfl (A5 rfl) (A5 rfl) rfl fun w0 S0 => ?_
 refine Ab (Aa Ac rfl (qz Xl rfl (Ae (Ab (Aa Ac rfl (EX AN DJ Mt rfl (EX AN DJ Mt rfl (EX AN DJ Mt rfl (EX Ji VM Za rfl (EX Ji VM Za rfl (EM (BR 4 _ _ rfl rfl) (EM (BR 5 _ _ rfl rfl) (EX F1 MZ Zx rfl (Br NA ZJ rfl (EM (BR 6 _ _ rfl rfl) (EX D6 EB NA rfl (Br Xl Zk rfl (qs Da rfl (Ae ?_)))))))))))))))))))
 obtain rfl := sj h
 refine Am (sm [(1000, 1), (1001, 2), (1002, 3), (1003, 8)] [(0, oD (.ptr 0 0))] [(0, .box [.own 1000, .own 1001, .own 1002, .own 1003]), (1000, .vec 1 ((([2] : List Int)).map Al)), (1001, .vec 1 ((([0] : List Int)).map Al)), (1002, .vec 1 ((([1] : List Int)).map Al)), (1003, .vec 6 ((([(AV.mk 1 0 0 false (([([true, true] : List Bool), ([false, true] : List Bool)] : List (List Bool))) (([] : List (List Bool))))] : List AV)).map Ar))] rfl rfl) (AA ?_)
 exact ⟨⟨[_], ⟨.cellN _ _ _ _ _ _ _ rfl rfl Di Da rfl rfl (Iq rfl), tv⟩, rfl⟩, ⟨rfl, rfl, rfl, rfl, tv⟩⟩
theorem Hv (N : Nat) (p0 : Int) (p1 : Int) (r : Bool) (h : D8 N p0 p1 = some r) : AD Tryz.prog 102 [iD p0, iD p1] [] (bD r) := by
 unfold D8 at h
 refine Au (n := 12) (rs := [.tmp 4]) Tryz.func102 rfl rfl rfl (A5 rfl) (A5 rfl) rfl fun w0 S0 => ?_
 refine Ab (Aa Ac rfl (qa rfl (Ae ?_)))
 refine AL h (fun v1 => mk [(4, bD v1)] []) (fun j1 h => ?_) (fun v1 h => ?_)
 ·refine Aa Ac rfl (qm rfl (Cv rfl (qm rfl ?_)))
  refine AB (t := 7) rfl (fun c2 => ?_) (fun c2 => ?_)
  ·have h := An c2 h
   refine qm rfl (qm rfl (AY rfl (qp rfl (qa rfl (Ae ?_)))))
   exact As _ h (sm [] _ _ rfl rfl)
  ·have h := Ao c2 h
   refine qn rfl (qn rfl (qn rfl (qp rfl (qa rfl (Ae ?_)))))
   exact As _ h (sm [] _ _ rfl rfl)
 ·obtain rfl := sj h
  refine Am (sm [] [(4, bD v1)] [] rfl rfl) (AA ?_)
  exact ⟨⟨[_], ⟨.tmp _ _ rfl, tv⟩, rfl⟩, tv⟩
theorem PZ (N : Nat) (p0 : Int) (p1 : Bool) (r : Bool) (h : GX N p0 p1 = some r) : AD Tryz.prog 130 [iD p0, bD p1] [] (bD r) := by
 unfold GX at h
 refine Au (n := 23) (rs := [.tmp 4]) Tryz.func130 rfl rfl rfl (A5 rfl) (A5 rfl) rfl fun w0 S0 => ?_
 refine Ab (Aa Ac rfl (qa rfl (Ae ?_)))
 refine AL h (fun v1 => mk [(4, bD v1)] []) (fun j1 h => ?_) (fun v1 h => ?_)
 ·refine Aa Ac rfl (qm rfl (BQ rfl (qm rfl ?_)))
  refine AB (t := 7) rfl (fun c2 => ?_) (fun c2 => ?_)
  ·have h := An c2 h
   refine qn rfl (qn rfl (qp rfl (qm rfl (qn rfl (qn rfl (qn rfl (qu rfl (qu rfl (qn rfl (qn rfl (qu rfl (qu rfl (qn rfl (qp rfl (qa rfl (Ae ?_))))))))))))))))
   exact As _ h (sm [] _ _ rfl rfl)
  ·have h := Ao c2 h
   refine qm rfl (BQ rfl (qp rfl (qm rfl ?_)))
   refine AB (t := 11) rfl (fun c3 => ?_) (fun c3 => ?_)
   ·have h := An c3 h
    refine qn rfl (qn rfl (qn rfl (qu rfl (qu rfl (qn rfl (qn rfl (qu rfl (qu rfl (qn rfl (qp rfl (qa rfl (Ae ?_))))))))))))
    exact As _ h (sm [] _ _ rfl rfl)
   ·have h := Ao c3 h
    refine qm rfl (BQ rfl (qm rfl ?_))
    refine AB (t := 14) rfl (fun c4 => ?_) (fun c4 => ?_)
    ·have h := An c4 h
     refine qn rfl (qn rfl (qp rfl (qm rfl (qm rfl (BS rfl (qp rfl (qp rfl (qa rfl (Ae ?_)))))))))
     exact As _ h (sm [] _ _ rfl rfl)
    ·have h := Ao c4 h
     refine qm rfl (BQ rfl (qp rfl (qm rfl ?_)))
     refine AB (t := 18) rfl (fun c5 => ?_) (fun c5 => ?_)
     ·have h := An c5 h
      refine qm rfl (BS rfl (qp rfl (qp rfl (qa rfl (Ae ?_)))))
      exact As _ h (sm [] _ _ rfl rfl)
     ·have h := Ao c5 h
      refine qn rfl (qn rfl (qp rfl (qp rfl (qa rfl (Ae ?_)))))
      exact As _ h (sm [] _ _ rfl rfl)
 ·obtain rfl := sj h
  refine Am (sm [] [(4, bD v1)] [] rfl rfl) (AA ?_)
  exact ⟨⟨[_], ⟨.tmp _ _ rfl, tv⟩, rfl⟩, tv⟩
theorem Me (N : Nat) (p0 : List Bool) (p1 : Int) (r : Bool) (h : D1 N p0 p1 = some r) : AD Tryz.prog 160 [pD (.sl (p0.map eB)), oD (.rop [.val (.int .i64 p1)])] [] (bD r) := by
 unfold D1 at h
 refine Au (n := 8) (rs := [.tmp 3]) Tryz.func160 rfl rfl rfl (A5 rfl) (A5 rfl) rfl fun w0 S0 => ?_
 refine Ab (Aa Ac rfl (qa rfl (Ae (Ab (Aa Ac rfl (qm rfl (AR Ji rfl (qk Cz rfl (BP rfl (qa rfl (Ae ?_)))))))))))
 obtain rfl := sj h
 refine Am (sm [] [(3, bD (((p0.length : Int) != p1)))] [] rfl rfl) (AA ?_)
 exact ⟨⟨[_], ⟨.tmp _ _ rfl, tv⟩, rfl⟩, tv⟩
theorem Ij (N : Nat) (p0 : List (List Bool)) (p1 : (List Bool) → Option Bool) (r : Int) (h : Dv N p0 p1 = some r) : AD Tryz.prog 170 [pD (.sl (p0.map (Fe eB))), oD (.clo (Bb (MQ false (Fe eB)) tB p1))] [] (iD r) := by
 unfold Dv at h
 refine Au (n := 19) (rs := [.tmp 4]) Tryz.func170 rfl rfl rfl (A5 rfl) (A5 rfl) rfl fun w0 S0 => ?_
 refine Ab (Aa Ac rfl (qa rfl (Ae (Ab (Ab (Aa Ac rfl (qm rfl (AR F1 rfl (qm rfl (Ae ?_))))))))))
 refine AE (L := BG N p0 p1) h (fun v1 => mk [(0, pD (.sl (p0.map (Fe eB)))), (1, oD (.clo (Bb (MQ false (Fe eB)) tB p1))), (7, iD ((p0.length : Int))), (8, iD v1)] []) (fun v2 => mk [] []) (fun _ _ => rfl) (sm [] _ _ rfl rfl) (fun j1 n1 v1 h => ?_) (fun v2 s h hs => ?_)
 ·unfold BG at h
  refine Ab (Aa Ac rfl (AY rfl (Ae (Ab ?_))))
  refine Ap rfl (fun c3 => ?_) (fun c3 => ?_)
  ·have h := An c3 h
   refine Aq (Ab (AJ (Ab (Aa Ac rfl (qm rfl (qa rfl (Ae (Ab (Aa Ac rfl (qm rfl (qm rfl (qm rfl ?_))))))))))))
   obtain ⟨v4, a4, b4, h⟩ := Ak h
   refine qi F1 MZ a4 (Af b4) rfl (qk Ns rfl ?_)
   obtain ⟨v5, a5, h⟩ := bind_some h
   refine Cx (ds0 := [_]) (ar := (MQ false (Fe eB)) v4) (.p rfl) rfl rfl ⟨rfl, tv⟩ rfl rfl rfl (Cw (LE _ _ (Yr ZE)) a5) ?_
   refine Ae ?_
   refine Ap rfl (fun c6 => ?_) (fun c6 => ?_)
   ·have h := An c6 h
    refine Ab (Aa Ac rfl (qm rfl (qa rfl (Ae ?_))))
    obtain rfl := sj h
    refine Am (sm [] [(4, iD v1)] [] rfl rfl) (AA ?_)
    exact ⟨⟨[_], ⟨.tmp _ _ rfl, tv⟩, rfl⟩, tv⟩
   ·have h := Ao c6 h
    refine Aq (Aa Ac rfl (AP rfl (qm rfl (Ae ?_))))
    exact As _ h (sm [] _ _ rfl rfl)
  ·have h := Ao c3 h
   refine AQ ?_
   exact As _ h (sm [] _ _ rfl rfl)
 ·refine Am hs (Ab (Aa Ac rfl (qa rfl (Ae ?_))))
  obtain rfl := sj h
  refine Am (sm [] [(4, iD ((-1)))] [] rfl rfl) (AA ?_)
  exact ⟨⟨[_], ⟨.tmp _ _ rfl, tv⟩, rfl⟩, tv⟩
theorem HL (N : Nat) (p0 : List (List Bool)) (p1 : (List Bool) → Option Bool) (r : Bool) (h : C4 N p0 p1 = some r) : AD Tryz.prog 159 [pD (.sl (p0.map (Fe eB))), oD (.clo (Bb (MQ false (Fe eB)) tB p1))] [] (bD r) := by
 unfold C4 at h
 refine Au (n := 9) (rs := [.tmp 4]) Tryz.func159 rfl rfl rfl (A5 rfl) (A5 rfl) rfl fun w0 S0 => ?_
 refine Ab (Aa Ac rfl (qa rfl (Ae (Ab (Aa Ac rfl (qm rfl (qm rfl ?_)))))))
 obtain ⟨v1, a1, h⟩ := bind_some h
 refine AG [] (Ij N p0 p1 v1 a1) YM rfl (Cv rfl (qa rfl (Ae ?_)))
 obtain rfl := sj h
 refine Am (sm [] [(4, bD ((decide (0 ≤ v1))))] [] rfl rfl) (AA ?_)
 exact ⟨⟨[_], ⟨.tmp _ _ rfl, tv⟩, rfl⟩, tv⟩
theorem Kv (N : Nat) (p0 : List (List Bool)) (p1 : Int) (p2 : Int) (r : Bool) (h : Ff N p0 p1 p2 = some r) : AD Tryz.prog 131 [pD (.sl (p0.map (Fe eB))), iD p1, iD p2] [] (bD r) := by
 unfold Ff at h
 refine Au (n := 17) (rs := [.tmp 6]) Tryz.func131 rfl rfl rfl (A5 rfl) (A5 rfl) rfl fun w0 S0 => ?_
 refine Ab (Aa Ac rfl (qb rfl (qa rfl (Ae ?_))))
 refine AL h (fun v1 => mk [(6, bD v1)] []) (fun j1 h => ?_) (fun v1 h => ?_)
 ·refine Aa Ac rfl (qm rfl (AR F1 rfl (qm rfl (BQ rfl (qm rfl ?_)))))
  refine AB (t := 11) rfl (fun c2 => ?_) (fun c2 => ?_)
  ·have h := An c2 h
   refine qm rfl (EM (LC 5 [.val (.int .i64 p2)] rfl rfl) ?_)
   refine Lf (capD := [_]) (Bb (MQ false (Fe eB)) tB ((fun (x : List Bool) => D1 N x p2))) (.g rfl rfl) XO rfl ⟨rfl, tv⟩ rfl (fun ar t ht => by obtain ⟨x, r, rfl, hq, rfl⟩ := Hl ht; exact Me N x p2 r hq) ?_
   obtain ⟨v3, a3, h⟩ := bind_some h
   refine AG [] (HL N p0 ((fun (x : List Bool) => D1 N x p2)) v3 a3) Xk rfl (BS rfl (qp rfl (qa rfl (Ae ?_))))
   exact As _ h (sm [] _ _ rfl rfl)
  ·have h := Ao c2 h
   refine qn rfl (qn rfl (qn rfl (qn rfl (qp rfl (qa rfl (Ae ?_))))))
   exact As _ h (sm [] _ _ rfl rfl)
 ·obtain rfl := sj h
  refine Am (sm [] [(6, bD v1)] [] rfl rfl) (AA ?_)
  exact ⟨⟨[_], ⟨.tmp _ _ rfl, tv⟩, rfl⟩, tv⟩
theorem Ou (N : Nat) (p0 : Aj) (p1 : AV) (r : Int) (h : Gz N p0 p1 = some r) : AD Tryz.prog 103 [.e (.agg [sC (p0.fVersions.map Al), sC (p0.fNow.map Al), sC (p0.fTarget.map Al), sC (p0.fTables.map Ar)]), .e (.agg [iC p1.fKind, iC p1.fFrom, iC p1.fTo, .pure (.val (.bool p1.fAware)), sC (p1.fOK.map (Fe eB)), sC (p1.fRewrite.map (Fe eB))])] [] (iD r) := by
 unfold Gz at h
 refine Au (n := 87) (rs := [.tmp 4]) Tryz.func103 rfl rfl rfl (A5 rfl) (A5 rfl) rfl fun w0 S0 => ?_
 refine Ab (Aa Ac rfl (qb rfl (qb rfl (qa rfl (Ae (Ab (Ab (Aa Ac rfl (qf GG rfl (ql Cz rfl (qf KT rfl (ql SI rfl ?_))))))))))))
 obtain ⟨v1, a1, h⟩ := bind_some h
 refine AG [] (PZ N p1.fKind p1.fAware v1 a1) YC rfl (BS rfl (Ae ?_))
 refine Ap rfl (fun c2 => ?_) (fun c2 => ?_)
 ·have h := An c2 h
  refine Ab (Aa Ac rfl (qa rfl (Ae ?_)))
  obtain rfl := sj h
  refine Am (sm [] [(4, iD 1)] [] rfl rfl) (AA ?_)
  exact ⟨⟨[_], ⟨.tmp _ _ rfl, tv⟩, rfl⟩, tv⟩
 ·have h := Ao c2 h
  refine Aq (Ab ?_)
  refine AL h (fun v3 => mk [(2, oD (.ptr 2 0)), (3, oD (.ptr 3 0)), (29, bD v3)] [(2, .box [sC (p0.fVersions.map Al), sC (p0.fNow.map Al), sC (p0.fTarget.map Al), sC (p0.fTables.map Ar)]), (3, .box [iC p1.fKind, iC p1.fFrom, iC p1.fTo, .pure (.val (.bool p1.fAware)), sC (p1.fOK.map (Fe eB)), sC (p1.fRewrite.map (Fe eB))])]) (fun j3 h => ?_) (fun v3 h => ?_)
  ·refine Aa Ac rfl (qf DZ rfl (ql Cz rfl (qf Cq rfl (ql Bs rfl (AR AN rfl ?_)))))
   obtain ⟨v4, a4, h⟩ := bind_some h
   refine AG [] (Hv N p1.fFrom ((p0.fVersions.length : Int)) v4 a4) Sq rfl (BS rfl (qm rfl ?_))
   refine AB (t := 21) rfl (fun c5 => ?_) (fun c5 => ?_)
   ·have h := An c5 h
    refine qn rfl (qn rfl (qn rfl (qn rfl (qn rfl (qn rfl (qn rfl (qp rfl (Ae ?_))))))))
    exact As _ h (sm [] _ _ rfl rfl)
   ·have h := Ao c5 h
    refine qf Jj rfl (ql Cz rfl (qf Cq rfl (ql Bs rfl (AR AN rfl ?_))))
    obtain ⟨v6, a6, h⟩ := bind_some h
    refine AG [] (Hv N p1.fTo ((p0.fVersions.length : Int)) v6 a6) Sq rfl (BS rfl (qp rfl (Ae ?_)))
    exact As _ h (sm [] _ _ rfl rfl)
  ·refine Ap rfl (fun c7 => ?_) (fun c7 => ?_)
   ·have h := An c7 h
    refine Ab (Aa Ac rfl (qa rfl (Ae ?_)))
    obtain rfl := sj h
    refine Am (sm [] [(4, iD 4)] [] rfl rfl) (AA ?_)
    exact ⟨⟨[_], ⟨.tmp _ _ rfl, tv⟩, rfl⟩, tv⟩
   ·have h := Ao c7 h
    refine Aq (Ab (Aa Ac rfl (qf Cq rfl (ql Bs rfl (qf DZ rfl (ql Cz rfl ?_))))))
    obtain ⟨v8, a8, b8, h⟩ := Ak h
    refine qi AN DJ a8 (Af b8) rfl (qk Cz rfl (qa rfl (Ae (Ab (Aa Ac rfl (qf GG rfl (ql Cz rfl (BQ rfl (qa rfl (Ae (Ab ?_)))))))))))
    refine AL h (fun v9 => mk [(3, oD (.ptr 3 0)), (70, bD v9)] [(3, .box [iC p1.fKind, iC p1.fFrom, iC p1.fTo, .pure (.val (.bool p1.fAware)), sC (p1.fOK.map (Fe eB)), sC (p1.fRewrite.map (Fe eB))])]) (fun j9 h => ?_) (fun v9 h => ?_)
    ·refine Aa Ac rfl (qf IB rfl (ql IP rfl (qm rfl (qf Cq rfl (ql Bs rfl (qf Jj rfl (ql Cz rfl ?_)))))))
     obtain ⟨v10, a10, b10, h⟩ := Ak h
     refine qi AN DJ a10 (Af b10) rfl (qk Cz rfl ?_)
     obtain ⟨v11, a11, h⟩ := bind_some h
     refine AG [] (Kv N p1.fOK v8 v10 v11 a11) V1 rfl (BS rfl (qm rfl ?_))
     refine AB (t := 50) rfl (fun c12 => ?_) (fun c12 => ?_)
     ·have h := An c12 h
      refine qn rfl (qn rfl (qu rfl (qu rfl (qu rfl (qu rfl (qu rfl (qu rfl (qn rfl (qp rfl (qm rfl (qn rfl (qn rfl (qn rfl (qu rfl (qu rfl (qu rfl (qu rfl (qn rfl (qp rfl (AC (by kernel_rfl) ?_))))))))))))))))))))
      exact As _ h (sm [] _ _ rfl rfl)
     ·have h := Ao c12 h
      refine qm rfl (qm rfl ?_)
      refine AB (t := 52) rfl (fun c13 => ?_) (fun c13 => ?_)
      ·have h := An c13 h
       refine qf Ge rfl (ql IP rfl (qm rfl (qm rfl ?_)))
       obtain ⟨v14, a14, h⟩ := bind_some h
       refine AG [] (Kv N p1.fRewrite v8 v8 v14 a14) V1 rfl (BS rfl (qp rfl (qp rfl (qm rfl ?_))))
       refine AB (t := 61) rfl (fun c15 => ?_) (fun c15 => ?_)
       ·have h := An c15 h
        refine qn rfl (qn rfl (qn rfl (qu rfl (qu rfl (qu rfl (qu rfl (qn rfl (qp rfl (AC (by kernel_rfl) ?_)))))))))
        exact As _ h (sm [] _ _ rfl rfl)
       ·have h := Ao c15 h
        refine qm rfl (BS rfl (qm rfl ?_))
        refine AB (t := 64) rfl (fun c16 => ?_) (fun c16 => ?_)
        ·have h := An c16 h
         refine qf Ge rfl (ql IP rfl (AR F1 rfl (DC rfl (qp rfl (qp rfl (AC (by kernel_rfl) ?_))))))
         exact As _ h (sm [] _ _ rfl rfl)
        ·have h := Ao c16 h
         refine qn rfl (qn rfl (qn rfl (qn rfl (qp rfl (qp rfl (AC (by kernel_rfl) ?_))))))
         exact As _ h (sm [] _ _ rfl rfl)
      ·have h := Ao c13 h
       refine qn rfl (qn rfl (qn rfl (qn rfl (qn rfl (qn rfl (qp rfl (qp rfl (qm rfl (qm rfl (BS rfl (qm rfl ?_)))))))))))
       refine AB (t := 64) rfl (fun c17 => ?_) (fun c17 => ?_)
       ·have h := An c17 h
        refine qf Ge rfl (ql IP rfl (AR F1 rfl (DC rfl (qp rfl (qp rfl (AC (by kernel_rfl) ?_))))))
        exact As _ h (sm [] _ _ rfl rfl)
       ·have h := Ao c17 h
        refine qn rfl (qn rfl (qn rfl (qn rfl (qp rfl (qp rfl (AC (by kernel_rfl) ?_))))))
        exact As _ h (sm [] _ _ rfl rfl)
    ·refine Ap rfl (fun c18 => ?_) (fun c18 => ?_)
     ·have h := An c18 h
      refine Ab (Aa Ac rfl (qa rfl (Ae ?_)))
      obtain rfl := sj h
      refine Am (sm [] [(4, iD 6)] [] rfl rfl) (AA ?_)
      exact ⟨⟨[_], ⟨.tmp _ _ rfl, tv⟩, rfl⟩, tv⟩
     ·have h := Ao c18 h
      refine Aq (Ab (Ab (Aa Ac rfl (qf Ge rfl (ql IP rfl (AR F1 rfl (qm rfl (Ae ?_))))))))
      refine AE (L := Df N p1) h (fun v19 => mk [(3, oD (.ptr 3 0)), (73, iD ((p1.fRewrite.length : Int))), (74, iD v19)] [(3, .box [iC p1.fKind, iC p1.fFrom, iC p1.fTo, .pure (.val (.bool p1.fAware)), sC (p1.fOK.map (Fe eB)), sC (p1.fRewrite.map (Fe eB))])]) (fun v20 => mk [] []) (fun _ _ => rfl) (sm [] _ _ rfl rfl) (fun j19 n19 v19 h => ?_) (fun v20 s h hs => ?_)
      ·unfold Df at h
       refine Ab (Aa Ac rfl (AY rfl (Ae (Ab ?_))))
       refine Ap rfl (fun c21 => ?_) (fun c21 => ?_)
       ·have h := An c21 h
        refine Aq (Ab (AJ (Ab (Aa Ac rfl (qm rfl (qa rfl (Ae (Ab (Aa Ac rfl (qf Ge rfl (ql IP rfl (qm rfl ?_))))))))))))
        obtain ⟨v22, a22, b22, h⟩ := Ak h
        refine qi F1 MZ a22 (Af b22) rfl (qk Ns rfl (qm rfl ?_))
        obtain ⟨v23, a23, b23, h⟩ := Ak h
        refine qi Ji VM a23 (Af b23) rfl (qk SI rfl (BS rfl (Ae ?_)))
        refine Ap rfl (fun c24 => ?_) (fun c24 => ?_)
        ·have h := An c24 h
         refine Ab (Aa Ac rfl (qa rfl (Ae ?_)))
         obtain rfl := sj h
         refine Am (sm [] [(4, iD 1)] [] rfl rfl) (AA ?_)
         exact ⟨⟨[_], ⟨.tmp _ _ rfl, tv⟩, rfl⟩, tv⟩
        ·have h := Ao c24 h
         refine Aq (Aa Ac rfl (AP rfl (qm rfl (Ae ?_))))
         exact As _ h (sm [] _ _ rfl rfl)
       ·have h := Ao c21 h
        refine AQ ?_
        exact As _ h (sm [] _ _ rfl rfl)
      ·refine Am hs (Ab (Aa Ac rfl (qa rfl (Ae ?_))))
       obtain rfl := sj h
       refine Am (sm [] [(4, iD 0)] [] rfl rfl) (AA ?_)
       exact ⟨⟨[_], ⟨.tmp _ _ rfl, tv⟩, rfl⟩, tv⟩
theorem Fj (N : Nat) (p0 : Aj) (r : Int) (h : CH N p0 = some r) : AD Tryz.prog 58 [.e (.agg [sC (p0.fVersions.map Al), sC (p0.fNow.map Al), sC (p0.fTarget.map Al), sC (p0.fTables.map Ar)])] [] (iD r) := by
 unfold CH at h
 refine Au (n := 81) (rs := [.tmp 2]) Tryz.func58 rfl rfl rfl (A5 rfl) (A5 rfl) rfl fun w0 S0 => ?_
 refine Ab (Aa Ac rfl (qb rfl (qa rfl (Ae (Ab (Aa Ac rfl (qf Cq rfl (ql Bs rfl (AR AN rfl (qa rfl (Ae (Ab ?_))))))))))))
 refine AL h (fun v1 => mk [(1, oD (.ptr 1 0)), (3, iD ((p0.fVersions.length : Int))), (19, bD v1)] [(1, .box [sC (p0.fVersions.map Al), sC (p0.fNow.map Al), sC (p0.fTarget.map Al), sC (p0.fTables.map Ar)])]) (fun j1 h => ?_) (fun v1 h => ?_)
 ·refine Aa Ac rfl (qm rfl (DC rfl (qm rfl ?_)))
  refine AB (t := 14) rfl (fun c2 => ?_) (fun c2 => ?_)
  ·have h := An c2 h
   refine qn rfl (qn rfl (qn rfl (qn rfl (qp rfl (Ae ?_)))))
   exact As _ h (sm [] _ _ rfl rfl)
  ·have h := Ao c2 h
   refine qf CI rfl (ql GQ rfl (AR D6 rfl (DC rfl (qp rfl (Ae ?_)))))
   exact As _ h (sm [] _ _ rfl rfl)
 ·refine Ap rfl (fun c3 => ?_) (fun c3 => ?_)
  ·have h := An c3 h
   refine Ab (Aa Ac rfl (qa rfl (Ae ?_)))
   obtain rfl := sj h
   refine Am (sm [] [(2, iD 3)] [] rfl rfl) (AA ?_)
   exact ⟨⟨[_], ⟨.tmp _ _ rfl, tv⟩, rfl⟩, tv⟩
  ·have h := Ao c3 h
   refine Aq (Ab ?_)
   refine AL h (fun v4 => mk [(1, oD (.ptr 1 0)), (31, bD v4)] [(1, .box [sC (p0.fVersions.map Al), sC (p0.fNow.map Al), sC (p0.fTarget.map Al), sC (p0.fTables.map Ar)])]) (fun j4 h => ?_) (fun v4 h => ?_)
   ·refine Aa Ac rfl (qf Iv rfl (ql Bs rfl (AR AN rfl (qm rfl (BP rfl (qm rfl ?_))))))
    refine AB (t := 25) rfl (fun c5 => ?_) (fun c5 => ?_)
    ·have h := An c5 h
     refine qn rfl (qn rfl (qn rfl (qn rfl (qn rfl (qp rfl (Ae ?_))))))
     exact As _ h (sm [] _ _ rfl rfl)
    ·have h := Ao c5 h
     refine qf H3 rfl (ql Bs rfl (AR AN rfl (qm rfl (BP rfl (qp rfl (Ae ?_))))))
     exact As _ h (sm [] _ _ rfl rfl)
   ·refine Ap rfl (fun c6 => ?_) (fun c6 => ?_)
    ·have h := An c6 h
     refine Ab (Aa Ac rfl (qa rfl (Ae ?_)))
     obtain rfl := sj h
     refine Am (sm [] [(2, iD 6)] [] rfl rfl) (AA ?_)
     exact ⟨⟨[_], ⟨.tmp _ _ rfl, tv⟩, rfl⟩, tv⟩
    ·have h := Ao c6 h
     refine Aq (Ab (Ab (Aa Ac rfl (qf Cq rfl (ql Bs rfl (AR AN rfl (qm rfl (Ae ?_))))))))
     refine AE (L := B6 N p0) h (fun v7 => mk [(1, oD (.ptr 1 0)), (33, pD (.sl (p0.fVersions.map Al))), (34, iD ((p0.fVersions.length : Int))), (35, iD v7)] [(1, .box [sC (p0.fVersions.map Al), sC (p0.fNow.map Al), sC (p0.fTarget.map Al), sC (p0.fTables.map Ar)])]) (fun v8 => mk [(1, oD (.ptr 1 0))] [(1, .box [sC (p0.fVersions.map Al), sC (p0.fNow.map Al), sC (p0.fTarget.map Al), sC (p0.fTables.map Ar)])]) (fun _ _ => rfl) (sm [] _ _ rfl rfl) (fun j7 n7 v7 h => ?_) (fun v8 s h hs => ?_)
     ·unfold B6 at h
      refine Ab (Aa Ac rfl (AY rfl (Ae (Ab ?_))))
      refine Ap rfl (fun c9 => ?_) (fun c9 => ?_)
      ·have h := An c9 h
       refine Aq (Ab (AJ (Ab (Aa Ac rfl (qm rfl ?_)))))
       obtain ⟨v10, a10, b10, h⟩ := Ak h
       refine qi AN DJ a10 (Af b10) rfl (qk Cz rfl (qa rfl (qa rfl (Ae ?_))))
       refine AL h (fun v11 => mk [(1, oD (.ptr 1 0)), (33, pD (.sl (p0.fVersions.map Al))), (34, iD ((p0.fVersions.length : Int))), (35, iD v7), (65, bD v11)] [(1, .box [sC (p0.fVersions.map Al), sC (p0.fNow.map Al), sC (p0.fTarget.map Al), sC (p0.fTables.map Ar)])]) (fun j11 h => ?_) (fun v11 h => ?_)
       ·refine Aa Ac rfl (qm rfl (AY rfl (qm rfl ?_)))
        refine AB (t := 42) rfl (fun c12 => ?_) (fun c12 => ?_)
        ·have h := An c12 h
         refine qn rfl (qn rfl (qp rfl (qm rfl (qn rfl (qn rfl (qn rfl (qn rfl (qn rfl (qn rfl (qn rfl (qn rfl (qp rfl (qm rfl (qn rfl (qn rfl (qn rfl (qn rfl (qn rfl (qn rfl (qn rfl (qn rfl (qp rfl (Ae ?_)))))))))))))))))))))))
         exact As _ h (sm [] _ _ rfl rfl)
        ·have h := Ao c12 h
         refine qm rfl (DC rfl (qp rfl (qm rfl ?_)))
         refine AB (t := 46) rfl (fun c13 => ?_) (fun c13 => ?_)
         ·have h := An c13 h
          refine qn rfl (qn rfl (qn rfl (qn rfl (qn rfl (qn rfl (qn rfl (qn rfl (qp rfl (qm rfl (qn rfl (qn rfl (qn rfl (qn rfl (qn rfl (qn rfl (qn rfl (qn rfl (qp rfl (Ae ?_)))))))))))))))))))
          exact As _ h (sm [] _ _ rfl rfl)
         ·have h := Ao c13 h
          refine qf Iv rfl (ql Bs rfl (qm rfl ?_))
          obtain ⟨v14, a14, b14, h⟩ := Ak h
          refine qi AN DJ a14 (Af b14) rfl (qk Cz rfl (qm rfl ?_))
          obtain ⟨v15, a15, h⟩ := bind_some h
          refine AG [] (Hv N v14 v10 v15 a15) Sq rfl (BS rfl (qp rfl (qm rfl ?_)))
          refine AB (t := 56) rfl (fun c16 => ?_) (fun c16 => ?_)
          ·have h := An c16 h
           refine qn rfl (qn rfl (qn rfl (qn rfl (qn rfl (qn rfl (qn rfl (qn rfl (qp rfl (Ae ?_)))))))))
           exact As _ h (sm [] _ _ rfl rfl)
          ·have h := Ao c16 h
           refine qf H3 rfl (ql Bs rfl (qm rfl ?_))
           obtain ⟨v17, a17, b17, h⟩ := Ak h
           refine qi AN DJ a17 (Af b17) rfl (qk Cz rfl (qm rfl ?_))
           obtain ⟨v18, a18, h⟩ := bind_some h
           refine AG [] (Hv N v17 v10 v18 a18) Sq rfl (BS rfl (qp rfl (Ae ?_)))
           exact As _ h (sm [] _ _ rfl rfl)
       ·refine Ap rfl (fun c19 => ?_) (fun c19 => ?_)
        ·have h := An c19 h
         refine Ab (Aa Ac rfl (qa rfl (Ae ?_)))
         obtain rfl := sj h
         refine Am (sm [] [(2, iD 7)] [] rfl rfl) (AA ?_)
         exact ⟨⟨[_], ⟨.tmp _ _ rfl, tv⟩, rfl⟩, tv⟩
        ·have h := Ao c19 h
         refine Aq (Aa Ac rfl (AP rfl (qm rfl (Ae ?_))))
         exact As _ h (sm [] _ _ rfl rfl)
      ·have h := Ao c9 h
       refine AQ ?_
       exact As _ h (sm [] _ _ rfl rfl)
     ·refine Am hs (Ab (Ab (Aa Ac rfl (qf CI rfl (ql GQ rfl (AR D6 rfl (qm rfl (Ae ?_))))))))
      refine AE (L := B1 N p0) h (fun v20 => mk [(1, oD (.ptr 1 0)), (68, pD (.sl (p0.fTables.map Ar))), (69, iD ((p0.fTables.length : Int))), (70, iD v20)] [(1, .box [sC (p0.fVersions.map Al), sC (p0.fNow.map Al), sC (p0.fTarget.map Al), sC (p0.fTables.map Ar)])]) (fun v21 => mk [] []) (fun _ _ => rfl) (sm [] _ _ rfl rfl) (fun j20 n20 v20 h => ?_) (fun v21 s h hs => ?_)
      ·unfold B1 at h
       refine Ab (Aa Ac rfl (AY rfl (Ae (Ab ?_))))
       refine Ap rfl (fun c22 => ?_) (fun c22 => ?_)
       ·have h := An c22 h
        refine Aq (Ab (AJ (Ab (Aa Ac rfl ?_))))
        obtain ⟨v23, a23, b23, h⟩ := Ak h
        refine qi D6 EB a23 (Af b23) rfl (qK Iy EB rfl (qz NA rfl (qs EB rfl (Ae (Ab (Aa Ac rfl (qL Di Da rfl (qL Iy EB rfl ?_))))))))
        obtain ⟨v24, a24, h⟩ := bind_some h
        refine AG [] (Ou N p0 v23 v24 a24) YH rfl (qa rfl (Ae (Ab (Aa Ac rfl (qm rfl (BP rfl (Ae ?_)))))))
        refine Ap rfl (fun c25 => ?_) (fun c25 => ?_)
        ·have h := An c25 h
         refine Ab (Aa Ac rfl (qm rfl (qa rfl (Ae ?_))))
         obtain rfl := sj h
         refine Am (sm [] [(2, iD v24)] [] rfl rfl) (AA ?_)
         exact ⟨⟨[_], ⟨.tmp _ _ rfl, tv⟩, rfl⟩, tv⟩
        ·have h := Ao c25 h
         refine Aq (Aa Ac rfl (AP rfl (qm rfl (Ae ?_))))
         exact As _ h (sm [] _ _ rfl rfl)
       ·have h := Ao c22 h
        refine AQ ?_
        exact As _ h (sm [] _ _ rfl rfl)
      ·refine Am hs (Ab (Aa Ac rfl (qa rfl (Ae ?_))))
       obtain rfl := sj h
       refine Am (sm [] [(2, iD 0)] [] rfl rfl) (AA ?_)
       exact ⟨⟨[_], ⟨.tmp _ _ rfl, tv⟩, rfl⟩, tv⟩
theorem CV (N : Nat) (p0 : List Int) (r : (List Int)) (h : Bo N p0 = some r) : AD Tryz.prog 66 [pD (.sl (p0.map Al))] [(1, r.map Al)] (oD (.own 0)) := by
 unfold Bo at h
 refine Au (n := 8) (rs := [.tmp 2]) Tryz.func66 rfl rfl rfl (A5 rfl) (A5 rfl) rfl fun w0 S0 => ?_
 refine Ab (Aa Ac rfl (qa rfl (Ae (Ab (Ab (Aa Ac rfl (qm rfl ?_)))))))
 refine Sn (.p rfl) rfl AN ?_
 refine Ae ?_
 refine Sg rfl (fun c2 => ?_) ?_
 ·have c2 := List.map_eq_nil_iff.1 c2
  rw [c2] at h
  have h : (some (([] : List Int))) = some r := h
  refine Ab (Aa Ac rfl (qa rfl (Ae ?_)))
  obtain rfl := sj h
  refine Am ((BB 2 2001 1 rfl rfl rfl).trans (sm [(1000, 2001)] [(2, oD (.own 1000))] [(1000, .vec 1 ((([] : List Int)).map Al))] rfl rfl)) (AA ?_)
  exact ⟨⟨[_], ⟨.tmp _ _ rfl, tv⟩, rfl⟩, ⟨rfl, tv⟩⟩
 ·refine Aq (Ab (Aa Ac rfl (EX AN DJ Mt rfl (qm rfl ?_))))
  obtain ⟨c1, h⟩ := Ba h
  refine Kd (f := Al) AN AN DJ Qf Mt (fun _ => rfl) c1 rfl (qa rfl (Ae ?_))
  obtain rfl := sj h
  refine Am (sm [(1000, 7)] [(2, oD (.own 1000))] [(1000, .vec 1 (((([] : List Int)) ++ p0).map Al))] rfl rfl) (AA ?_)
  exact ⟨⟨[_], ⟨.tmp _ _ rfl, tv⟩, rfl⟩, ⟨rfl, tv⟩⟩
theorem LH (N : Nat) (p0 : Int) (p1 : Int) (r : Int × Int) (h : Hf N p0 p1 = some r) : AD Tryz.prog 153 [pD (.val (.int .u32 p0)), pD (.val (.int .u32 p1))] [] (.tup [.one (.pure (.val (.int .u32 r.1))), .one (.pure (.val (.int .u32 r.2)))]) := by
 unfold Hf at h
 refine Au (n := 17) (rs := [.tmp 4, .tmp 5]) Tryz.func153 rfl rfl rfl (A5 rfl) (A5 rfl) rfl fun w0 S0 => ?_
 refine Ab (Aa Ac rfl (qa rfl (qa rfl (Ae (Ab (Aa Ac rfl (qm rfl (HI P2 Wn rfl (qm rfl (HI P2 Wn rfl (HO rfl (qa rfl (Ae (Ab (Aa Ac rfl (qm rfl (HN rfl (by decide) (HI UH QH rfl (qm rfl (HI UH QH rfl (qa rfl (qa rfl (Ae ?_)))))))))))))))))))))))
 obtain rfl := sj h
 refine Am (sm [] [(4, pD (.val (.int .u32 ((wI .u32 ((EA .u64 ((wI .u64 ((wI .u64 p0) * (wI .u64 p1)))) 32))))))), (5, pD (.val (.int .u32 ((wI .u32 ((wI .u64 ((wI .u64 p0) * (wI .u64 p1)))))))))] [] rfl rfl) (AA ?_)
 exact ⟨⟨[_, _], ⟨.tmp _ _ rfl, ⟨.tmp _ _ rfl, tv⟩⟩, rfl⟩, tv⟩
theorem LV (N : Nat) (p0 : Int) (p1 : Int) (r : Int × Int) (h : Hg N p0 p1 = some r) : AD Tryz.prog 154 [pD (.val (.int .u64 p0)), pD (.val (.int .u64 p1))] [] (.tup [.one (.pure (.val (.int .u64 r.1))), .one (.pure (.val (.int .u64 r.2)))]) := by
 unfold Hg at h
 refine Au (n := 51) (rs := [.tmp 4, .tmp 5]) Tryz.func154 rfl rfl rfl (A5 rfl) (A5 rfl) rfl fun w0 S0 => ?_
 refine Ab (Aa Ac rfl (qa rfl (qa rfl (Ae (Ab (Aa Ac rfl (qm rfl (K8 rfl (qa rfl (Ae (Ab (Aa Ac rfl (qm rfl (HN rfl (by decide) (qa rfl (Ae (Ab (Aa Ac rfl (qm rfl (K8 rfl (qa rfl (Ae (Ab (Aa Ac rfl (qm rfl (HN rfl (by decide) (qa rfl (Ae (Ab (Aa Ac rfl (qm rfl (qm rfl (HO rfl (qa rfl (Ae (Ab (Aa Ac rfl (qm rfl (qm rfl ?_)))))))))))))))))))))))))))))))))))))))
 refine HO rfl (qm rfl (HN rfl (by decide) (AP rfl (qa rfl (Ae (Ab (Aa Ac rfl (qm rfl (K8 rfl (qa rfl (Ae (Ab (Aa Ac rfl (qm rfl (HN rfl (by decide) (qa rfl (Ae (Ab (Aa Ac rfl (qm rfl (qm rfl (qm rfl (HO rfl (AP rfl (qa rfl (Ae (Ab (Aa Ac rfl (qm rfl (qm rfl (HO rfl (qm rfl (AP rfl (qm rfl (HN rfl (by decide) (AP rfl (qa rfl (Ae (Ab ?_)))))))))))))))))))))))))))))))))))))))
 refine Aa Ac rfl (qm rfl (qm rfl (HO rfl (qa rfl (Ae ?_)))))
 obtain rfl := sj h
 refine Am (sm [] [(4, pD (.val (.int .u64 ((wI .u64 ((wI .u64 ((wI .u64 ((EA .u64 p0 32) * (EA .u64 p1 32))) + (EA .u64 ((wI .u64 ((wI .u64 ((EA .u64 p0 32) * (FT .u64 p1 4294967295))) + (EA .u64 ((wI .u64 ((FT .u64 p0 4294967295) * (FT .u64 p1 4294967295)))) 32)))) 32))) + (EA .u64 ((wI .u64 ((FT .u64 ((wI .u64 ((wI .u64 ((EA .u64 p0 32) * (FT .u64 p1 4294967295))) + (EA .u64 ((wI .u64 ((FT .u64 p0 4294967295) * (FT .u64 p1 4294967295)))) 32)))) 4294967295) + (wI .u64 ((FT .u64 p0 4294967295) * (EA .u64 p1 32)))))) 32))))))), (5, pD (.val (.int .u64 ((wI .u64 (p0 * p1))))))] [] rfl rfl) (AA ?_)
 exact ⟨⟨[_, _], ⟨.tmp _ _ rfl, ⟨.tmp _ _ rfl, tv⟩⟩, rfl⟩, tv⟩
theorem MW (N : Nat) (p0 : Int) (p1 : Int) (r : Int × Int) (h : HU N p0 p1 = some r) : AD Tryz.prog 120 [pD (.val (.int .u64 p0)), pD (.val (.int .u64 p1))] [] (.tup [.one (.pure (.val (.int .u64 r.1))), .one (.pure (.val (.int .u64 r.2)))]) := by
 unfold HU at h
 refine Au (n := 30) (rs := [.tmp 4, .tmp 5]) Tryz.func120 rfl rfl rfl (A5 rfl) (A5 rfl) rfl fun w0 S0 => ?_
 refine Ab (Aa Ac rfl (qa rfl (qa rfl (Ae (Ab ?_)))))
 refine Ap rfl (fun c1 => ?_) (fun c1 => ?_)
 ·have h := An c1 h
  refine Ab (Aa Ac rfl (qm rfl (HI N9 QH rfl (qm rfl (HI N9 QH rfl ?_)))))
  obtain ⟨v2, a2, h⟩ := bind_some h
  refine AG [] (LH N ((wI .u32 p0)) ((wI .u32 p1)) v2 a2) YO rfl (qm rfl (qx rfl (qx rfl (qa rfl (qa rfl (Ae (Ab (Aa Ac rfl (qm rfl (HI P2 MH rfl (qm rfl (HI P2 MH rfl (qa rfl (qa rfl (Ae ?_)))))))))))))))
  obtain rfl := sj h
  refine Am (sm [] [(4, pD (.val (.int .u64 ((wI .u64 v2.1))))), (5, pD (.val (.int .u64 ((wI .u64 v2.2)))))] [] rfl rfl) (AA ?_)
  exact ⟨⟨[_, _], ⟨.tmp _ _ rfl, ⟨.tmp _ _ rfl, tv⟩⟩, rfl⟩, tv⟩
 ·have h := Ao c1 h
  refine Aq (Ab (Aa Ac rfl (qm rfl (qm rfl ?_))))
  obtain ⟨v3, a3, h⟩ := bind_some h
  refine AG [] (LV N p0 p1 v3 a3) Xp rfl (qm rfl (qx rfl (qx rfl (qa rfl (qa rfl (Ae (Ab (Aa Ac rfl (qm rfl (qm rfl (qa rfl (qa rfl (Ae ?_)))))))))))))
  obtain rfl := sj h
  refine Am (sm [] [(4, pD (.val (.int .u64 v3.1))), (5, pD (.val (.int .u64 v3.2)))] [] rfl rfl) (AA ?_)
  exact ⟨⟨[_, _], ⟨.tmp _ _ rfl, ⟨.tmp _ _ rfl, tv⟩⟩, rfl⟩, tv⟩
theorem JI (N : Nat) (p0 : List Int) (p1 : Int) (r : (List Int)) (h : Em N p0 p1 = some r) : AD Tryz.prog 90 [pD (.sl (p0.map Al)), iD p1] [(1, r.map Al)] (oD (.own 0)) := by
 unfold Em at h
 refine Au (n := 48) (rs := [.tmp 4]) Tryz.func90 rfl rfl rfl (A5 rfl) (A5 rfl) rfl fun w0 S0 => ?_
 refine Ab (Aa Ac rfl (qa rfl (Ae ?_)))
 refine AL h (fun v1 => mk [(0, pD (.sl (p0.map Al))), (1, iD p1)] []) (fun j1 h => ?_) (fun v1 h => ?_)
 ·refine Ab (Aa Ac rfl (qm rfl (AY rfl (Ae ?_))))
  refine Ap rfl (fun c2 => ?_) (fun c2 => ?_)
  ·have h := An c2 h
   refine Aa Ac rfl ?_
   cases h
  ·have h := Ao c2 h
   refine Aq ?_
   exact As _ h (sm [] _ _ rfl rfl)
 ·refine Ab (Aa Ac rfl (qm rfl (AR AN rfl (HI UW MH rfl (qm rfl (HI UW MH rfl ?_))))))
  obtain ⟨v3, a3, h⟩ := bind_some h
  refine AG [] (MW N ((wI .u64 ((p0.length : Int)))) ((wI .u64 p1)) v3 a3) XU rfl (qm rfl (qx rfl (qx rfl (qa rfl (qa rfl (Ae ?_))))))
  refine AL h (fun v4 => mk [(0, pD (.sl (p0.map Al))), (6, pD (.val (.int .u64 v3.2)))] []) (fun j4 h => ?_) (fun v4 h => ?_)
  ·refine AL h (fun v5 => mk [(0, pD (.sl (p0.map Al))), (6, pD (.val (.int .u64 v3.2))), (26, bD v5)] []) (fun j5 h => ?_) (fun v5 h => ?_)
   ·refine Aa Ac rfl (qm rfl (DC rfl (qm rfl ?_)))
    refine AB (t := 23) rfl (fun c6 => ?_) (fun c6 => ?_)
    ·have h := An c6 h
     refine qn rfl (qn rfl (qp rfl (Ae ?_)))
     exact As _ h (sm [] _ _ rfl rfl)
    ·have h := Ao c6 h
     refine qm rfl (DC rfl (qp rfl (Ae ?_)))
     exact As _ h (sm [] _ _ rfl rfl)
   ·refine Ap rfl (fun c7 => ?_) (fun c7 => ?_)
    ·have h := An c7 h
     refine Aa Ac rfl ?_
     cases h
    ·have h := Ao c7 h
     refine Aq ?_
     exact As _ h (sm [] _ _ rfl rfl)
  ·refine Ab (Aa Ac rfl (qm rfl (HI N9 Wp rfl ?_)))
   obtain ⟨c8, h⟩ := Ba h
   refine MP (.p rfl) rfl rfl rfl AN DJ Qf (A5 rfl) Mt rfl rfl rfl c8.1 c8.2.1 c8.2.2 (RZ Al _ ((0 : Int))) ?_
   refine qa rfl (Ae (Ab (Aa Ac rfl (qm rfl (qm rfl ?_)))))
   refine So Al (List.replicate ((wI .i64 v3.2)).toNat ((0 : Int))) p0 (.p rfl) rfl (H7 Al _ _ (List.replicate ((wI .i64 v3.2)).toNat ((0 : Int)))) rfl rfl (VZ Al _ _ (fun _ => rfl)) tv AN DJ ?_
   refine qa rfl (Ae (Ab ?_))
   refine AE (L := DW N) h (fun v9 => mk [(7, oD (.own 2001)), (8, iD v9.2)] [(2001, .vec 1 (v9.1.map Al))]) (fun v10 => mk [(7, oD (.own 2002))] [(2002, .vec 1 (v10.map Al))]) (fun _ _ => rfl) (sm [(2001, 30)] _ _ rfl rfl) (fun j9 n9 v9 h => ?_) (fun v10 s h hs => ?_)
   ·unfold DW at h
    refine Ab (Ab (Aa Ac rfl (qm rfl (qm rfl (EP AN rfl (AY rfl (Ae ?_)))))))
    refine Ap rfl (fun c11 => ?_) (fun c11 => ?_)
    ·have h := An c11 h
     refine Aq (AJ (Aa Ac rfl (qm rfl (qm rfl (qm rfl ?_)))))
     obtain ⟨c12, h⟩ := Ba h
     have w13 : ((v9.2).toNat) + ((v9.1.length - (v9.2).toNat)) ≤ v9.1.length := by have := c12.2.1; have := c12.2.2; omega
     refine IS Al v9.1 (.p rfl) rfl (H7 Al _ _ v9.1) rfl AN DJ (.some _ _ _ _ c12.1) (.none _) ⟨rfl, tv⟩ tv c12.2.1 (by rw [Nat.zero_add]; exact c12.2.2) (Nat.zero_add _) rfl ?_
     refine qm rfl (qm rfl ?_)
     obtain ⟨c14, h⟩ := Ba h
     have w15 : 0 + ((v9.2).toNat) ≤ v9.1.length := by have := c14.2.1; have := c14.2.2; omega
     refine IS Al v9.1 (.p rfl) rfl (H7 Al _ _ v9.1) rfl AN DJ (.none _) (.some _ _ _ _ c14.1) tv ⟨rfl, tv⟩ c14.2.1 (by rw [Nat.zero_add]; exact c14.2.2) (Nat.zero_add _) rfl ?_
     refine So Al v9.1 (((v9.1.drop 0).take ((v9.2).toNat))) (.p rfl) rfl (Ma Al _ _ ((v9.2).toNat) ((v9.1.length - (v9.2).toNat)) v9.1 w13) rfl rfl (S7 Al _ _ 0 ((v9.2).toNat) v9.1 w15) ⟨rfl, tv⟩ AN DJ ?_
     refine AP rfl (qa rfl (AC (by kernel_rfl) ?_))
     exact As _ h (sm [] _ _ rfl rfl)
    ·have h := Ao c11 h
     refine AQ ?_
     exact As _ h (sm [(2002, 2001)] _ _ rfl rfl)
   ·refine Am hs (Ab (Aa Ac rfl (qm rfl (qa rfl (Ae ?_)))))
    obtain rfl := sj h
    refine Am (sm [(1000, 2002)] [(4, oD (.own 1000))] [(1000, .vec 1 (v10.map Al))] rfl rfl) (AA ?_)
    exact ⟨⟨[_], ⟨.tmp _ _ rfl, tv⟩, rfl⟩, ⟨rfl, tv⟩⟩
theorem JN (N : Nat) (p0 : AV) (r : Bool) (h : Fn N p0 = some r) : AD Tryz.prog 91 [.e (.agg [iC p0.fKind, iC p0.fFrom, iC p0.fTo, .pure (.val (.bool p0.fAware)), sC (p0.fOK.map (Fe eB)), sC (p0.fRewrite.map (Fe eB))])] [] (bD r) := by
 unfold Fn at h
 refine Au (n := 11) (rs := [.tmp 2]) Tryz.func91 rfl rfl rfl (A5 rfl) (A5 rfl) rfl fun w0 S0 => ?_
 refine Ab (Aa Ac rfl (qb rfl (qa rfl (Ae ?_))))
 refine AL h (fun v1 => mk [(2, bD v1)] []) (fun j1 h => ?_) (fun v1 h => ?_)
 ·refine Aa Ac rfl (qf GG rfl (ql Cz rfl (BQ rfl (qm rfl ?_))))
  refine AB (t := 6) rfl (fun c2 => ?_) (fun c2 => ?_)
  ·have h := An c2 h
   refine qn rfl (qn rfl (qn rfl (qp rfl (qa rfl (Ae ?_)))))
   exact As _ h (sm [] _ _ rfl rfl)
  ·have h := Ao c2 h
   refine qf GG rfl (ql Cz rfl (BQ rfl (qp rfl (qa rfl (Ae ?_)))))
   exact As _ h (sm [] _ _ rfl rfl)
 ·obtain rfl := sj h
  refine Am (sm [] [(2, bD v1)] [] rfl rfl) (AA ?_)
  exact ⟨⟨[_], ⟨.tmp _ _ rfl, tv⟩, rfl⟩, tv⟩
theorem MG (N : Nat) (p0 : Aj) (r : Ag × Int) (h : FI N p0 = some r) : AD Tryz.prog 44 [.e (.agg [sC (p0.fVersions.map Al), sC (p0.fNow.map Al), sC (p0.fTarget.map Al), sC (p0.fTables.map Ar)])] [(1, r.1.fBase.map Al), (1, r.1.fNext.map Al), (1, r.1.fHeld.map Bw)] (.tup [.agg [.own 0, .own 1, .own 2], .one (iC r.2)]) := by
 unfold FI at h
 refine Au (n := 50) (rs := [.cell 2 46, .tmp 3]) Tryz.func44 rfl rfl rfl (A5 rfl) (A5 rfl) rfl fun w0 S0 => ?_
 refine Ab (Aa Ac rfl (qb rfl (qz Cs rfl (qa rfl (Ae (Ab (Ab (Aa Ac rfl (qL Di Da rfl ?_)))))))))
 obtain ⟨v1, a1, h⟩ := bind_some h
 refine AG [] (Fj N p0 v1 a1) U8 rfl (qa rfl (Ae (Ab (Aa Ac rfl (qm rfl (BP rfl (Ae ?_)))))))
 refine Ap rfl (fun c2 => ?_) (fun c2 => ?_)
 ·have h := An c2 h
  refine Ab (Aa Ac rfl (Br Cs Gt rfl (qm rfl (qs Az rfl (qa rfl (Ae ?_))))))
  obtain rfl := sj h
  refine Am ((AO 2 0 2001 1 _ rfl rfl rfl rfl).trans ((AO 2 1 2002 1 _ rfl rfl rfl rfl).trans ((AO 2 2 2003 1 _ rfl rfl rfl rfl).trans (sm [(1000, 2001), (1001, 2002), (1002, 2003)] [(2, oD (.ptr 2 0)), (3, iD v1)] [(2, .box [.own 1000, .own 1001, .own 1002]), (1000, .vec 1 ((([] : List Int)).map Al)), (1001, .vec 1 ((([] : List Int)).map Al)), (1002, .vec 1 ((([] : List Int)).map Bw))] rfl rfl)))) (AA ?_)
  exact ⟨⟨[_, _], ⟨.cellN _ _ _ _ _ _ _ rfl rfl A4 Az rfl rfl (Iq rfl), ⟨.tmp _ _ rfl, tv⟩⟩, rfl⟩, ⟨rfl, rfl, rfl, tv⟩⟩
 ·have h := Ao c2 h
  refine Aq (Ab (Aa Ac rfl (qf Iv rfl (ql Bs rfl ?_))))
  obtain ⟨v3, a3, h⟩ := bind_some h
  refine AG [2004] (CV N p0.fNow v3 a3) RD rfl (EX AN DJ Mt rfl (qf Iv rfl (ql Bs rfl (AR AN rfl ?_))))
  obtain ⟨v4, a4, h⟩ := bind_some h
  refine DI [2005] [17] (JI N (([(-1)] : List Int)) ((p0.fNow.length : Int)) v4 a4) ZD (IM (fun _ => rfl) Cr) rfl (qf CI rfl (ql GQ rfl (AR D6 rfl ?_)))
  obtain ⟨c5, h⟩ := Ba h
  refine MP (.p rfl) rfl rfl rfl Dj FW R3 (A5 rfl) Pq rfl rfl rfl c5.1 c5.2.1 c5.2.2 (RZ Bw _ ((0 : Int))) ?_
  refine Br Cs Gt rfl (qz Cs rfl (qs Az rfl (AC (by kernel_rfl) (Ab (Ab (Aa Ac rfl (qf CI rfl (ql GQ rfl (AR D6 rfl (qm rfl (Ae ?_)))))))))))
  refine AE (L := D9 N p0) h (fun v6 => mk [(1, oD (.ptr 1 0)), (2, oD (.ptr 2 0)), (5, oD (.ptr 5 0)), (28, pD (.sl (p0.fTables.map Ar))), (29, iD ((p0.fTables.length : Int))), (30, iD v6.2)] [(1, .box [sC (p0.fVersions.map Al), sC (p0.fNow.map Al), sC (p0.fTarget.map Al), sC (p0.fTables.map Ar)]), (2, .box [.pure (.nil0), .pure (.nil0), .pure (.nil0)]), (5, .box [.own 2006, .own 2007, .own 2008]), (2006, .vec 1 (v3.map Al)), (2007, .vec 1 (v4.map Al)), (2008, .vec 1 (v6.1.map Bw))]) (fun v7 => mk [(2, oD (.ptr 2 0)), (5, oD (.ptr 5 0))] [(2, .box [.pure (.nil0), .pure (.nil0), .pure (.nil0)]), (5, .box [.own 2009, .own 2010, .own 2011]), (2009, .vec 1 (v3.map Al)), (2010, .vec 1 (v4.map Al)), (2011, .vec 1 (v7.map Bw))]) (fun _ _ => rfl) (sm [(2006, 2004), (2007, 2005), (2008, 25)] _ _ rfl rfl) (fun j6 n6 v6 h => ?_) (fun v7 s h hs => ?_)
  ·unfold D9 at h
   refine Ab (Aa Ac rfl (AY rfl (Ae (Ab ?_))))
   refine Ap rfl (fun c8 => ?_) (fun c8 => ?_)
   ·have h := An c8 h
    refine Aq ?_
    refine AL h (fun v9 => mk [(1, oD (.ptr 1 0)), (2, oD (.ptr 2 0)), (5, oD (.ptr 5 0)), (28, pD (.sl (p0.fTables.map Ar))), (29, iD ((p0.fTables.length : Int))), (30, iD v6.2)] [(1, .box [sC (p0.fVersions.map Al), sC (p0.fNow.map Al), sC (p0.fTarget.map Al), sC (p0.fTables.map Ar)]), (2, .box [.pure (.nil0), .pure (.nil0), .pure (.nil0)]), (5, .box [.own 2012, .own 2013, .own 2014]), (2012, .vec 1 (v3.map Al)), (2013, .vec 1 (v4.map Al)), (2014, .vec 1 (v9.map Bw))]) (fun j9 h => ?_) (fun v9 h => ?_)
    ·refine AJ (Ab (Aa Ac rfl (qm rfl ?_)))
     obtain ⟨v10, a10, b10, h⟩ := Ak h
     refine qi D6 EB a10 (Af b10) rfl (qK Iy EB rfl (qz NA rfl (qa rfl (qs EB rfl (Ae (Ab (Aa Ac rfl (qL Iy EB rfl ?_))))))))
     obtain ⟨v11, a11, h⟩ := bind_some h
     refine AG [] (JN N v10 v11 a11) WC rfl (Ae ?_)
     refine Ap rfl (fun c12 => ?_) (fun c12 => ?_)
     ·have h := An c12 h
      refine Aa Ac rfl (qf CM rfl (ql G5 rfl (qm rfl (qf Iv rfl (ql Bs rfl (qf DZ rfl (ql Cz rfl ?_)))))))
      obtain ⟨v13, a13, b13, h⟩ := Ak h
      refine qi AN DJ a13 (Af b13) rfl (qk Cz rfl ?_)
      obtain ⟨c14, h⟩ := Ba h
      refine Ir rfl c14 ?_
      obtain ⟨v15, a15, b15, h⟩ := Ak h
      refine qI Dj FW a15 (Af b15) rfl ?_
      refine AX rfl rfl rfl rfl (Af b15) rfl FW rfl (A5 rfl) (AW Bw v6.1 _ ((CF .u8 1 v13))) ?_
      refine AC (by kernel_rfl) ?_
      exact As _ h (sm [(2012, 2006), (2013, 2007), (2014, 2008)] _ _ rfl rfl)
     ·have h := Ao c12 h
      refine Aq ?_
      exact As _ h (sm [(2012, 2006), (2013, 2007), (2014, 2008)] _ _ rfl rfl)
    ·refine Aa Ac rfl (AP rfl (qm rfl (Ae ?_)))
     exact As _ h (sm [(2006, 2012), (2007, 2013), (2008, 2014)] _ _ rfl rfl)
   ·have h := Ao c8 h
    refine AQ ?_
    exact As _ h (sm [(2009, 2006), (2010, 2007), (2011, 2008)] _ _ rfl rfl)
  ·refine Am hs (Ab (Aa Ac rfl (qL A4 Az rfl (qs Az rfl (qa rfl (Ae ?_))))))
   obtain rfl := sj h
   refine Am (sm [(1000, 2009), (1001, 2010), (1002, 2011)] [(2, oD (.ptr 2 0)), (3, iD 0)] [(2, .box [.own 1000, .own 1001, .own 1002]), (1000, .vec 1 (v3.map Al)), (1001, .vec 1 (v4.map Al)), (1002, .vec 1 (v7.map Bw))] rfl rfl) (AA ?_)
   exact ⟨⟨[_, _], ⟨.cellN _ _ _ _ _ _ _ rfl rfl A4 Az rfl rfl (Iq rfl), ⟨.tmp _ _ rfl, tv⟩⟩, rfl⟩, ⟨rfl, rfl, rfl, tv⟩⟩
theorem Jt (N : Nat) (p0 : Ag) (p1 : Int) (r : Int) (h : E4 N p0 p1 = some r) : AD Tryz.prog 107 [.e (.agg [sC (p0.fBase.map Al), sC (p0.fNext.map Al), sC (p0.fHeld.map Bw)]), iD p1] [] (pD (.val (.int .u8 r))) := by
 unfold E4 at h
 refine Au (n := 27) (rs := [.tmp 4]) Tryz.func107 rfl rfl rfl (A5 rfl) (A5 rfl) rfl fun w0 S0 => ?_
 refine Ab (Aa Ac rfl (qb rfl (qa rfl (Ae (Ab (Aa Ac rfl (qf CO rfl (ql Bs rfl (qm rfl ?_)))))))))
 obtain ⟨v1, a1, b1, h⟩ := Ak h
 refine qi AN DJ a1 (Af b1) rfl (qk Cz rfl ?_)
 obtain ⟨c2, h⟩ := Ba h
 refine Ir rfl c2 (qa rfl (Ae ?_))
 refine AL h (fun v3 => mk [(5, pD (.val (.int .u8 v3)))] []) (fun j3 h => ?_) (fun v3 h => ?_)
 ·refine Ab (Aa Ac rfl (qf BK rfl (ql Bs rfl (qm rfl ?_))))
  obtain ⟨v4, a4, b4, h⟩ := Ak h
  refine qi AN DJ a4 (Af b4) rfl (qk Cz rfl (Cv rfl (Ae ?_)))
  refine Ap rfl (fun c5 => ?_) (fun c5 => ?_)
  ·have h := An c5 h
   refine Aa Ac rfl (qm rfl (qf BK rfl (ql Bs rfl (qm rfl ?_))))
   obtain ⟨v6, a6, b6, h⟩ := Ak h
   refine qi AN DJ a6 (Af b6) rfl (qk Cz rfl ?_)
   obtain ⟨c7, h⟩ := Ba h
   refine Ir rfl c7 (Ug rfl (qa rfl (Ae ?_)))
   exact As _ h (sm [] _ _ rfl rfl)
  ·have h := Ao c5 h
   refine Aq ?_
   exact As _ h (sm [] _ _ rfl rfl)
 ·refine Ab (Aa Ac rfl (qm rfl (qa rfl (Ae ?_))))
  obtain rfl := sj h
  refine Am (sm [] [(4, pD (.val (.int .u8 v3)))] [] rfl rfl) (AA ?_)
  exact ⟨⟨[_], ⟨.tmp _ _ rfl, tv⟩, rfl⟩, tv⟩
theorem H8 (N : Nat) (p0 : Aj) (p1 : Ag) (r : Int) (h : EQ N p0 p1 = some r) : AD Tryz.prog 65 [.e (.agg [sC (p0.fVersions.map Al), sC (p0.fNow.map Al), sC (p0.fTarget.map Al), sC (p0.fTables.map Ar)]), .e (.agg [sC (p1.fBase.map Al), sC (p1.fNext.map Al), sC (p1.fHeld.map Bw)])] [] (iD r) := by
 unfold EQ at h
 refine Au (n := 135) (rs := [.tmp 4]) Tryz.func65 rfl rfl rfl (A5 rfl) (A5 rfl) rfl fun w0 S0 => ?_
 refine Ab (Aa Ac rfl (qb rfl (qb rfl (qa rfl (Ae (Ab (Ab (Aa Ac rfl (qL Di Da rfl ?_)))))))))
 obtain ⟨v1, a1, h⟩ := bind_some h
 refine AG [] (Fj N p0 v1 a1) U8 rfl (qa rfl (Ae (Ab (Aa Ac rfl (qm rfl (BP rfl (Ae ?_)))))))
 refine Ap rfl (fun c2 => ?_) (fun c2 => ?_)
 ·have h := An c2 h
  refine Ab (Aa Ac rfl (qm rfl (qa rfl (Ae ?_))))
  obtain rfl := sj h
  refine Am (sm [] [(4, iD v1)] [] rfl rfl) (AA ?_)
  exact ⟨⟨[_], ⟨.tmp _ _ rfl, tv⟩, rfl⟩, tv⟩
 ·have h := Ao c2 h
  refine Aq (Ab ?_)
  refine AL h (fun v3 => mk [(2, oD (.ptr 2 0)), (3, oD (.ptr 3 0)), (41, bD v3)] [(2, .box [sC (p0.fVersions.map Al), sC (p0.fNow.map Al), sC (p0.fTarget.map Al), sC (p0.fTables.map Ar)]), (3, .box [sC (p1.fBase.map Al), sC (p1.fNext.map Al), sC (p1.fHeld.map Bw)])]) (fun j3 h => ?_) (fun v3 h => ?_)
  ·refine Aa Ac rfl (qf CO rfl (ql Bs rfl (AR AN rfl (qf Cq rfl (ql Bs rfl (AR AN rfl (BP rfl (qm rfl ?_))))))))
   refine AB (t := 24) rfl (fun c4 => ?_) (fun c4 => ?_)
   ·have h := An c4 h
    refine qn rfl (qn rfl (qn rfl (qn rfl (qn rfl (qn rfl (qn rfl (qp rfl (qm rfl (qn rfl (qn rfl (qn rfl (qn rfl (qn rfl (qn rfl (qn rfl (qp rfl (Ae ?_)))))))))))))))))
    exact As _ h (sm [] _ _ rfl rfl)
   ·have h := Ao c4 h
    refine qf BK rfl (ql Bs rfl (AR AN rfl (qf Cq rfl (ql Bs rfl (AR AN rfl (BP rfl (qp rfl (qm rfl ?_))))))))
    refine AB (t := 33) rfl (fun c5 => ?_) (fun c5 => ?_)
    ·have h := An c5 h
     refine qn rfl (qn rfl (qn rfl (qn rfl (qn rfl (qn rfl (qn rfl (qp rfl (Ae ?_))))))))
     exact As _ h (sm [] _ _ rfl rfl)
    ·have h := Ao c5 h
     refine qf CM rfl (ql G5 rfl (AR Dj rfl (qf CI rfl (ql GQ rfl (AR D6 rfl (BP rfl (qp rfl (Ae ?_))))))))
     exact As _ h (sm [] _ _ rfl rfl)
  ·refine Ap rfl (fun c6 => ?_) (fun c6 => ?_)
   ·have h := An c6 h
    refine Ab (Aa Ac rfl (qa rfl (Ae ?_)))
    obtain rfl := sj h
    refine Am (sm [] [(4, iD 6)] [] rfl rfl) (AA ?_)
    exact ⟨⟨[_], ⟨.tmp _ _ rfl, tv⟩, rfl⟩, tv⟩
   ·have h := Ao c6 h
    refine Aq (Ab (Ab (Aa Ac rfl (qf Cq rfl (ql Bs rfl (AR AN rfl (qm rfl (Ae ?_))))))))
    refine AE (L := Ea N p0 p1) h (fun v7 => mk [(2, oD (.ptr 2 0)), (3, oD (.ptr 3 0)), (43, pD (.sl (p0.fVersions.map Al))), (44, iD ((p0.fVersions.length : Int))), (45, iD v7)] [(2, .box [sC (p0.fVersions.map Al), sC (p0.fNow.map Al), sC (p0.fTarget.map Al), sC (p0.fTables.map Ar)]), (3, .box [sC (p1.fBase.map Al), sC (p1.fNext.map Al), sC (p1.fHeld.map Bw)])]) (fun v8 => mk [(2, oD (.ptr 2 0)), (3, oD (.ptr 3 0))] [(2, .box [sC (p0.fVersions.map Al), sC (p0.fNow.map Al), sC (p0.fTarget.map Al), sC (p0.fTables.map Ar)]), (3, .box [sC (p1.fBase.map Al), sC (p1.fNext.map Al), sC (p1.fHeld.map Bw)])]) (fun _ _ => rfl) (sm [] _ _ rfl rfl) (fun j7 n7 v7 h => ?_) (fun v8 s h hs => ?_)
    ·unfold Ea at h
     refine Ab (Aa Ac rfl (AY rfl (Ae (Ab ?_))))
     refine Ap rfl (fun c9 => ?_) (fun c9 => ?_)
     ·have h := An c9 h
      refine Aq (Ab (AJ (Ab (Aa Ac rfl (qm rfl ?_)))))
      obtain ⟨v10, a10, b10, h⟩ := Ak h
      refine qi AN DJ a10 (Af b10) rfl (qk Cz rfl (qa rfl (qa rfl (Ae (Ab ?_)))))
      refine AL h (fun v11 => mk [(2, oD (.ptr 2 0)), (3, oD (.ptr 3 0)), (6, iD v7), (43, pD (.sl (p0.fVersions.map Al))), (44, iD ((p0.fVersions.length : Int))), (45, iD v7), (81, bD v11)] [(2, .box [sC (p0.fVersions.map Al), sC (p0.fNow.map Al), sC (p0.fTarget.map Al), sC (p0.fTables.map Ar)]), (3, .box [sC (p1.fBase.map Al), sC (p1.fNext.map Al), sC (p1.fHeld.map Bw)])]) (fun j11 h => ?_) (fun v11 h => ?_)
      ·refine Aa Ac rfl (qf CO rfl (ql Bs rfl (qm rfl ?_)))
       obtain ⟨v12, a12, b12, h⟩ := Ak h
       refine qi AN DJ a12 (Af b12) rfl (qk Cz rfl (AY rfl (qm rfl ?_)))
       refine AB (t := 56) rfl (fun c13 => ?_) (fun c13 => ?_)
       ·have h := An c13 h
        refine qn rfl (qn rfl (qn rfl (qn rfl (qn rfl (qn rfl (qn rfl (qp rfl (qm rfl (qn rfl (qn rfl (qn rfl (qn rfl (qn rfl (qn rfl (qp rfl (qm rfl (qn rfl (qn rfl (qn rfl (qn rfl (qn rfl (qn rfl (qn rfl (qp rfl (Ae ?_)))))))))))))))))))))))))
        exact As _ h (sm [] _ _ rfl rfl)
       ·have h := Ao c13 h
        refine qf CO rfl (ql Bs rfl (qm rfl ?_))
        obtain ⟨v14, a14, b14, h⟩ := Ak h
        refine qi AN DJ a14 (Af b14) rfl (qk Cz rfl (qm rfl (Cv rfl (qp rfl (qm rfl ?_)))))
        refine AB (t := 65) rfl (fun c15 => ?_) (fun c15 => ?_)
        ·have h := An c15 h
         refine qn rfl (qn rfl (qn rfl (qn rfl (qn rfl (qn rfl (qp rfl (qm rfl (qn rfl (qn rfl (qn rfl (qn rfl (qn rfl (qn rfl (qn rfl (qp rfl (Ae ?_))))))))))))))))
         exact As _ h (sm [] _ _ rfl rfl)
        ·have h := Ao c15 h
         refine qf BK rfl (ql Bs rfl (qm rfl ?_))
         obtain ⟨v16, a16, b16, h⟩ := Ak h
         refine qi AN DJ a16 (Af b16) rfl (qk Cz rfl (AY rfl (qp rfl (qm rfl ?_))))
         refine AB (t := 73) rfl (fun c17 => ?_) (fun c17 => ?_)
         ·have h := An c17 h
          refine qn rfl (qn rfl (qn rfl (qn rfl (qn rfl (qn rfl (qn rfl (qp rfl (Ae ?_))))))))
          exact As _ h (sm [] _ _ rfl rfl)
         ·have h := Ao c17 h
          refine qf BK rfl (ql Bs rfl (qm rfl ?_))
          obtain ⟨v18, a18, b18, h⟩ := Ak h
          refine qi AN DJ a18 (Af b18) rfl (qk Cz rfl (qm rfl (Cv rfl (qp rfl (Ae ?_)))))
          exact As _ h (sm [] _ _ rfl rfl)
      ·refine Ap rfl (fun c19 => ?_) (fun c19 => ?_)
       ·have h := An c19 h
        refine Ab (Aa Ac rfl (qa rfl (Ae ?_)))
        obtain rfl := sj h
        refine Am (sm [] [(4, iD 7)] [] rfl rfl) (AA ?_)
        exact ⟨⟨[_], ⟨.tmp _ _ rfl, tv⟩, rfl⟩, tv⟩
       ·have h := Ao c19 h
        refine Aq (Ab (Aa Ac rfl (qf CO rfl (ql Bs rfl (qm rfl ?_)))))
        obtain ⟨v20, a20, b20, h⟩ := Ak h
        refine qi AN DJ a20 (Af b20) rfl (qk Cz rfl (qf BK rfl (ql Bs rfl (qm rfl ?_))))
        obtain ⟨v21, a21, b21, h⟩ := Ak h
        refine qi AN DJ a21 (Af b21) rfl (qk Cz rfl (BQ rfl (AC (by kernel_rfl) ?_)))
        refine Ap rfl (fun c22 => ?_) (fun c22 => ?_)
        ·have h := An c22 h
         refine Ab (Aa Ac rfl (qa rfl (Ae ?_)))
         obtain rfl := sj h
         refine Am (sm [] [(4, iD 1)] [] rfl rfl) (AA ?_)
         exact ⟨⟨[_], ⟨.tmp _ _ rfl, tv⟩, rfl⟩, tv⟩
        ·have h := Ao c22 h
         refine Aq (Aa Ac rfl (AP rfl (qm rfl (Ae ?_))))
         exact As _ h (sm [] _ _ rfl rfl)
     ·have h := Ao c9 h
      refine AQ ?_
      exact As _ h (sm [] _ _ rfl rfl)
    ·refine Am hs (Ab (Ab (Aa Ac rfl (qf CI rfl (ql GQ rfl (AR D6 rfl (qm rfl (Ae ?_))))))))
     refine AE (L := DO N p0 p1) h (fun v23 => mk [(2, oD (.ptr 2 0)), (3, oD (.ptr 3 0)), (95, pD (.sl (p0.fTables.map Ar))), (96, iD ((p0.fTables.length : Int))), (97, iD v23)] [(2, .box [sC (p0.fVersions.map Al), sC (p0.fNow.map Al), sC (p0.fTarget.map Al), sC (p0.fTables.map Ar)]), (3, .box [sC (p1.fBase.map Al), sC (p1.fNext.map Al), sC (p1.fHeld.map Bw)])]) (fun v24 => mk [] []) (fun _ _ => rfl) (sm [] _ _ rfl rfl) (fun j23 n23 v23 h => ?_) (fun v24 s h hs => ?_)
     ·unfold DO at h
      refine Ab (Aa Ac rfl (AY rfl (Ae (Ab ?_))))
      refine Ap rfl (fun c25 => ?_) (fun c25 => ?_)
      ·have h := An c25 h
       refine Aq (Ab (AJ (Ab (Aa Ac rfl (qm rfl ?_)))))
       obtain ⟨v26, a26, b26, h⟩ := Ak h
       refine qi D6 EB a26 (Af b26) rfl (qK Iy EB rfl (qz NA rfl (qa rfl (qs EB rfl (Ae (Ab (Aa Ac rfl (qa rfl (qa rfl (Ae ?_))))))))))
       refine AL h (fun v27 => mk [(2, oD (.ptr 2 0)), (3, oD (.ptr 3 0)), (8, iD v23), (10, pD (.val (.int .u8 v27.1))), (11, pD (.val (.int .u8 v27.2))), (95, pD (.sl (p0.fTables.map Ar))), (96, iD ((p0.fTables.length : Int))), (97, iD v23)] [(2, .box [sC (p0.fVersions.map Al), sC (p0.fNow.map Al), sC (p0.fTarget.map Al), sC (p0.fTables.map Ar)]), (3, .box [sC (p1.fBase.map Al), sC (p1.fNext.map Al), sC (p1.fHeld.map Bw)])]) (fun j27 h => ?_) (fun v27 h => ?_)
       ·refine Ab (Aa Ac rfl (qL Iy EB rfl ?_))
        obtain ⟨v28, a28, h⟩ := bind_some h
        refine AG [] (JN N v26 v28 a28) WC rfl (Ae ?_)
        refine Ap rfl (fun c29 => ?_) (fun c29 => ?_)
        ·have h := An c29 h
         refine Aa Ac rfl (qL A4 Az rfl (qf DZ rfl (ql Cz rfl ?_)))
         obtain ⟨v30, a30, h⟩ := bind_some h
         refine AG [] (Jt N p1 v26.fFrom v30 a30) TH rfl (qf Cq rfl (ql Bs rfl (qf DZ rfl (ql Cz rfl ?_))))
         obtain ⟨v31, a31, b31, h⟩ := Ak h
         refine qi AN DJ a31 (Af b31) rfl (qk Cz rfl ?_)
         obtain ⟨c32, h⟩ := Ba h
         refine Ir rfl c32 (Bm rfl (qa rfl (qa rfl (AC (by kernel_rfl) ?_))))
         exact As _ h (sm [] _ _ rfl rfl)
        ·have h := Ao c29 h
         refine Aq ?_
         exact As _ h (sm [] _ _ rfl rfl)
       ·refine AL h (fun v33 => mk [(2, oD (.ptr 2 0)), (3, oD (.ptr 3 0)), (95, pD (.sl (p0.fTables.map Ar))), (96, iD ((p0.fTables.length : Int))), (97, iD v23), (133, bD v33)] [(2, .box [sC (p0.fVersions.map Al), sC (p0.fNow.map Al), sC (p0.fTarget.map Al), sC (p0.fTables.map Ar)]), (3, .box [sC (p1.fBase.map Al), sC (p1.fNext.map Al), sC (p1.fHeld.map Bw)])]) (fun j33 h => ?_) (fun v33 h => ?_)
        ·refine Aa Ac rfl (qm rfl (qf CM rfl (ql G5 rfl (qm rfl ?_))))
         obtain ⟨v34, a34, b34, h⟩ := Ak h
         refine qi Dj FW a34 (Af b34) rfl (qk JZ rfl (IN rfl (BP rfl (qm rfl ?_))))
         refine AB (t := 124) rfl (fun c35 => ?_) (fun c35 => ?_)
         ·have h := An c35 h
          refine qn rfl (qn rfl (qn rfl (qn rfl (qn rfl (qn rfl (qn rfl (qn rfl (qp rfl (Ae ?_)))))))))
          exact As _ h (sm [] _ _ rfl rfl)
         ·have h := Ao c35 h
          refine qf CM rfl (ql G5 rfl (qm rfl ?_))
          obtain ⟨v36, a36, b36, h⟩ := Ak h
          refine qi Dj FW a36 (Af b36) rfl (qk JZ rfl (qm rfl (IN rfl (BP rfl (qp rfl (Ae ?_))))))
          exact As _ h (sm [] _ _ rfl rfl)
        ·refine Ap rfl (fun c37 => ?_) (fun c37 => ?_)
         ·have h := An c37 h
          refine Ab (Aa Ac rfl (qa rfl (Ae ?_)))
          obtain rfl := sj h
          refine Am (sm [] [(4, iD 1)] [] rfl rfl) (AA ?_)
          exact ⟨⟨[_], ⟨.tmp _ _ rfl, tv⟩, rfl⟩, tv⟩
         ·have h := Ao c37 h
          refine Aq (Aa Ac rfl (AP rfl (qm rfl (Ae ?_))))
          exact As _ h (sm [] _ _ rfl rfl)
      ·have h := Ao c25 h
       refine AQ ?_
       exact As _ h (sm [] _ _ rfl rfl)
     ·refine Am hs (Ab (Aa Ac rfl (qa rfl (Ae ?_))))
      obtain rfl := sj h
      refine Am (sm [] [(4, iD 0)] [] rfl rfl) (AA ?_)
      exact ⟨⟨[_], ⟨.tmp _ _ rfl, tv⟩, rfl⟩, tv⟩
theorem Ei (N : Nat) (p0 : List Int) (r : (List Int)) (h : Bu N p0 = some r) : AD Tryz.prog 67 [pD (.sl (p0.map Bw))] [(1, r.map Bw)] (oD (.own 0)) := by
 unfold Bu at h
 refine Au (n := 8) (rs := [.tmp 2]) Tryz.func67 rfl rfl rfl (A5 rfl) (A5 rfl) rfl fun w0 S0 => ?_
 refine Ab (Aa Ac rfl (qa rfl (Ae (Ab (Ab (Aa Ac rfl (qm rfl ?_)))))))
 refine Sn (.p rfl) rfl Dj ?_
 refine Ae ?_
 refine Sg rfl (fun c2 => ?_) ?_
 ·have c2 := List.map_eq_nil_iff.1 c2
  rw [c2] at h
  have h : (some (([] : List Int))) = some r := h
  refine Ab (Aa Ac rfl (qa rfl (Ae ?_)))
  obtain rfl := sj h
  refine Am ((BB 2 2001 1 rfl rfl rfl).trans (sm [(1000, 2001)] [(2, oD (.own 1000))] [(1000, .vec 1 ((([] : List Int)).map Bw))] rfl rfl)) (AA ?_)
  exact ⟨⟨[_], ⟨.tmp _ _ rfl, tv⟩, rfl⟩, ⟨rfl, tv⟩⟩
 ·refine Aq (Ab (Aa Ac rfl (EX Dj FW Pq rfl (qm rfl ?_))))
  obtain ⟨c1, h⟩ := Ba h
  refine Kd (f := Bw) Dj Dj FW R3 Pq (fun _ => rfl) c1 rfl (qa rfl (Ae ?_))
  obtain rfl := sj h
  refine Am (sm [(1000, 7)] [(2, oD (.own 1000))] [(1000, .vec 1 (((([] : List Int)) ++ p0).map Bw))] rfl rfl) (AA ?_)
  exact ⟨⟨[_], ⟨.tmp _ _ rfl, tv⟩, rfl⟩, ⟨rfl, tv⟩⟩
theorem PD (N : Nat) (p0 : Aj) (p1 : Ag) (r : (List Ag) × Int) (h : GT N p0 p1 = some r) : AD Tryz.prog 99 [.e (.agg [sC (p0.fVersions.map Al), sC (p0.fNow.map Al), sC (p0.fTarget.map Al), sC (p0.fTables.map Ar)]), .e (.agg [sC (p1.fBase.map Al), sC (p1.fNext.map Al), sC (p1.fHeld.map Bw)])] [(3, r.1.map Ai)] (.tup [.one (.own 0), .one (iC r.2)]) := by
 unfold GT at h
 refine Au (n := 75) (rs := [.tmp 4, .tmp 5]) Tryz.func99 rfl rfl rfl (A5 rfl) (A5 rfl) rfl fun w0 S0 => ?_
 refine Ab (Aa Ac rfl (qb rfl (qb rfl (qa rfl (qa rfl (Ae (Ab (Ab (Aa Ac rfl (qL Di Da rfl (qL A4 Az rfl ?_)))))))))))
 obtain ⟨v1, a1, h⟩ := bind_some h
 refine AG [] (H8 N p0 p1 v1 a1) Ub rfl (qa rfl (Ae (Ab (Aa Ac rfl (qm rfl (BP rfl (Ae ?_)))))))
 refine Ap rfl (fun c2 => ?_) (fun c2 => ?_)
 ·have h := An c2 h
  refine Ab (Aa Ac rfl (qm rfl (qa rfl (qa rfl (Ae ?_)))))
  obtain rfl := sj h
  refine Am ((BB 4 2001 3 rfl rfl rfl).trans (sm [(1000, 2001)] [(4, oD (.own 1000)), (5, iD v1)] [(1000, .vec 3 ((([] : List Ag)).map Ai))] rfl rfl)) (AA ?_)
  exact ⟨⟨[_, _], ⟨.tmp _ _ rfl, ⟨.tmp _ _ rfl, tv⟩⟩, rfl⟩, ⟨rfl, tv⟩⟩
 ·have h := Ao c2 h
  refine Aq (Ab (Aa Ac rfl (qa rfl (Ae (Ab (Ab (Aa Ac rfl (qf BK rfl (ql Bs rfl (AR AN rfl (qm rfl (Ae ?_))))))))))))
  refine AE (L := DP N p1) h (fun v3 => mk [(3, oD (.ptr 3 0)), (7, oD (.own 2002)), (22, pD (.sl (p1.fNext.map Al))), (23, iD ((p1.fNext.length : Int))), (24, iD v3.2)] [(3, .box [sC (p1.fBase.map Al), sC (p1.fNext.map Al), sC (p1.fHeld.map Bw)]), (2002, .vec 1 (v3.1.map Al))]) (fun v4 => mk [(3, oD (.ptr 3 0)), (7, oD (.own 2003))] [(3, .box [sC (p1.fBase.map Al), sC (p1.fNext.map Al), sC (p1.fHeld.map Bw)]), (2003, .vec 1 (v4.map Al))]) (fun _ _ => rfl) ((BB 7 2005 1 rfl rfl rfl).trans (sm [(2002, 2005)] _ _ rfl rfl)) (fun j3 n3 v3 h => ?_) (fun v4 s h hs => ?_)
  ·unfold DP at h
   refine Ab (Aa Ac rfl (AY rfl (Ae (Ab ?_))))
   refine Ap rfl (fun c5 => ?_) (fun c5 => ?_)
   ·have h := An c5 h
    refine Aq ?_
    refine AL h (fun v6 => mk [(3, oD (.ptr 3 0)), (7, oD (.own 2004)), (22, pD (.sl (p1.fNext.map Al))), (23, iD ((p1.fNext.length : Int))), (24, iD v3.2)] [(3, .box [sC (p1.fBase.map Al), sC (p1.fNext.map Al), sC (p1.fHeld.map Bw)]), (2004, .vec 1 (v6.map Al))]) (fun j6 h => ?_) (fun v6 h => ?_)
    ·refine AJ (Ab (Aa Ac rfl (qm rfl ?_)))
     obtain ⟨v7, a7, b7, h⟩ := Ak h
     refine qi AN DJ a7 (Af b7) rfl (qk Cz rfl (qa rfl (qa rfl (Ae (Ab (Aa Ac rfl (qm rfl (Cv rfl (Ae ?_)))))))))
     refine Ap rfl (fun c8 => ?_) (fun c8 => ?_)
     ·have h := An c8 h
      refine Aa Ac rfl (qm rfl (qm rfl (EX AN DJ Mt rfl ?_)))
      obtain ⟨c9, h⟩ := Ba h
      refine Fb (f := Al) AN AN DJ Qf Mt c9 rfl (qa rfl (Ae ?_))
      exact As _ h (sm [(2004, 34)] _ _ rfl rfl)
     ·have h := Ao c8 h
      refine Aq ?_
      exact As _ h (sm [(2004, 2002)] _ _ rfl rfl)
    ·refine Aa Ac rfl (AP rfl (qm rfl (Ae ?_)))
     exact As _ h (sm [(2002, 2004)] _ _ rfl rfl)
   ·have h := Ao c5 h
    refine AQ ?_
    exact As _ h (sm [(2003, 2002)] _ _ rfl rfl)
  ·refine Am hs (Ab (Aa Ac rfl (qa rfl (Ae (Ab (Ab (Aa Ac rfl (qm rfl (EP AN rfl ?_)))))))))
   obtain ⟨c10, h⟩ := Ba h
   refine Ir rfl c10 (qm rfl (Ae ?_))
   refine AE (L := C5 N p1 v4) h (fun v11 => mk [(3, oD (.ptr 3 0)), (7, oD (.own 2006)), (10, oD (.own 2007)), (38, iD ((CF .i64 1 ((v4.length : Int))))), (39, iD v11.2)] [(3, .box [sC (p1.fBase.map Al), sC (p1.fNext.map Al), sC (p1.fHeld.map Bw)]), (2006, .vec 1 (v4.map Al)), (2007, .vec 3 (v11.1.map Ai))]) (fun v12 => mk [(10, oD (.own 2008))] [(2008, .vec 3 (v12.map Ai))]) (fun _ _ => rfl) ((BB 10 2027 3 rfl rfl rfl).trans (sm [(2006, 2003), (2007, 2027)] _ _ rfl rfl)) (fun j11 n11 v11 h => ?_) (fun v12 s h hs => ?_)
   ·unfold C5 at h
    refine Ab (Aa Ac rfl (AY rfl (Ae (Ab ?_))))
    refine Ap rfl (fun c13 => ?_) (fun c13 => ?_)
    ·have h := An c13 h
     refine Aq (Ab (AJ (Ab (Aa Ac rfl (qm rfl (qa rfl (Ae (Ab (Aa Ac rfl (qf CO rfl (ql Bs rfl ?_)))))))))))
     obtain ⟨v14, a14, h⟩ := bind_some h
     refine AG [2009] (CV N p1.fBase v14 a14) RD rfl (qf BK rfl (ql Bs rfl ?_))
     obtain ⟨v15, a15, h⟩ := bind_some h
     refine AG [2010] (CV N p1.fNext v15 a15) RD rfl (qf CM rfl (ql G5 rfl ?_))
     obtain ⟨v16, a16, h⟩ := bind_some h
     refine AG [2011] (Ei N p1.fHeld v16 a16) WP rfl (Br Cs Gt rfl (qz Cs rfl (qs Az rfl (AC (by kernel_rfl) (Ab (Ab (Aa Ac rfl (qm rfl (EP AN rfl (qm rfl (Ae ?_)))))))))))
     refine AE (L := C2 N v4 v11) h (fun v17 => mk [(3, oD (.ptr 3 0)), (7, oD (.own 2015)), (10, oD (.own 2016)), (11, iD v11.2), (12, oD (.ptr 12 0)), (38, iD ((CF .i64 1 ((v4.length : Int))))), (39, iD v11.2), (52, oD (.own 2015)), (53, iD ((v4.length : Int))), (54, iD v17.2)] [(3, .box [sC (p1.fBase.map Al), sC (p1.fNext.map Al), sC (p1.fHeld.map Bw)]), (12, .box [.own 2012, .own 2013, .own 2014]), (2012, .vec 1 (v14.map Al)), (2013, .vec 1 (v17.1.map Al)), (2014, .vec 1 (v16.map Bw)), (2015, .vec 1 (v4.map Al)), (2016, .vec 3 (v11.1.map Ai))]) (fun v18 => mk [(3, oD (.ptr 3 0)), (7, oD (.own 2020)), (10, oD (.own 2021)), (12, oD (.ptr 12 0)), (38, iD ((CF .i64 1 ((v4.length : Int))))), (39, iD v11.2)] [(3, .box [sC (p1.fBase.map Al), sC (p1.fNext.map Al), sC (p1.fHeld.map Bw)]), (12, .box [.own 2017, .own 2018, .own 2019]), (2017, .vec 1 (v14.map Al)), (2018, .vec 1 (v18.map Al)), (2019, .vec 1 (v16.map Bw)), (2020, .vec 1 (v4.map Al)), (2021, .vec 3 (v11.1.map Ai))]) (fun _ _ => rfl) (sm [(2012, 2009), (2013, 2010), (2014, 2011), (2015, 2006), (2016, 2007)] _ _ rfl rfl) (fun j17 n17 v17 h => ?_) (fun v18 s h hs => ?_)
     ·unfold C2 at h
      refine Ab (Aa Ac rfl (AY rfl (Ae (Ab ?_))))
      refine Ap rfl (fun c19 => ?_) (fun c19 => ?_)
      ·have h := An c19 h
       refine Aq ?_
       refine AL h (fun v20 => mk [(3, oD (.ptr 3 0)), (7, oD (.own 2025)), (10, oD (.own 2026)), (11, iD v11.2), (12, oD (.ptr 12 0)), (38, iD ((CF .i64 1 ((v4.length : Int))))), (39, iD v11.2), (52, oD (.own 2025)), (53, iD ((v4.length : Int))), (54, iD v17.2)] [(3, .box [sC (p1.fBase.map Al), sC (p1.fNext.map Al), sC (p1.fHeld.map Bw)]), (12, .box [.own 2022, .own 2023, .own 2024]), (2022, .vec 1 (v14.map Al)), (2023, .vec 1 (v20.map Al)), (2024, .vec 1 (v16.map Bw)), (2025, .vec 1 (v4.map Al)), (2026, .vec 3 (v11.1.map Ai))]) (fun j20 h => ?_) (fun v20 h => ?_)
       ·refine AJ (Ab (Aa Ac rfl (qm rfl ?_)))
        obtain ⟨v21, a21, b21, h⟩ := Ak h
        refine qI AN DJ a21 (Af b21) rfl (qj Cz (Af b21) rfl (qa rfl (qa rfl (Ae (Ab (Aa Ac rfl (qm rfl (qm rfl ?_))))))))
        obtain ⟨c22, h⟩ := Ba h
        refine HN rfl c22 (K8 rfl (BQ rfl (Ae ?_)))
        refine Ap rfl (fun c23 => ?_) (fun c23 => ?_)
        ·have h := An c23 h
         refine Aa Ac rfl (qf BK rfl (ql Bs rfl (qm rfl ?_)))
         obtain ⟨v24, a24, b24, h⟩ := Ak h
         refine qI AN DJ a24 (Af b24) rfl ?_
         refine AX rfl rfl rfl rfl (Af b24) rfl DJ rfl (A5 rfl) (AW Al v17.1 _ ((-1))) ?_
         refine Ae ?_
         exact As _ h (sm [(2022, 2012), (2023, 2013), (2024, 2014), (2025, 2015), (2026, 2016)] _ _ rfl rfl)
        ·have h := Ao c23 h
         refine Aq ?_
         exact As _ h (sm [(2022, 2012), (2023, 2013), (2024, 2014), (2025, 2015), (2026, 2016)] _ _ rfl rfl)
       ·refine Aa Ac rfl (AP rfl (qm rfl (Ae ?_)))
        exact As _ h (sm [(2012, 2022), (2013, 2023), (2014, 2024), (2015, 2025), (2016, 2026)] _ _ rfl rfl)
      ·have h := Ao c19 h
       refine AQ ?_
       exact As _ h (sm [(2017, 2012), (2018, 2013), (2019, 2014), (2020, 2015), (2021, 2016)] _ _ rfl rfl)
     ·refine Am hs (Aa Ac rfl (qm rfl (qL A4 Az rfl (EM (BR 2017 _ _ rfl rfl) (EM (BR 2018 _ _ rfl rfl) (EM (BR 2019 _ _ rfl rfl) (EX A0 Az Cs rfl ?_)))))))
      obtain ⟨c25, h⟩ := Ba h
      refine Fb (f := Ai) A0 A0 Az SD Cs c25 rfl (qa rfl (Ae (Aa Ac rfl (AP rfl (qm rfl (Ae ?_))))))
      exact As _ h (sm [(2006, 2020), (2007, 72)] _ _ rfl rfl)
    ·have h := Ao c13 h
     refine AQ ?_
     exact As _ h (sm [(2008, 2007)] _ _ rfl rfl)
   ·refine Am hs (Ab (Aa Ac rfl (qm rfl (qa rfl (qa rfl (Ae ?_))))))
    obtain rfl := sj h
    refine Am (sm [(1000, 2008)] [(4, oD (.own 1000)), (5, iD 0)] [(1000, .vec 3 (v12.map Ai))] rfl rfl) (AA ?_)
    exact ⟨⟨[_, _], ⟨.tmp _ _ rfl, ⟨.tmp _ _ rfl, tv⟩⟩, rfl⟩, ⟨rfl, tv⟩⟩
theorem MY (N : Nat) (p0 : Aj) (p1 : Ag) (r : (List Ah)) (h : Fy N p0 p1 = some r) : AD Tryz.prog 100 [.e (.agg [sC (p0.fVersions.map Al), sC (p0.fNow.map Al), sC (p0.fTarget.map Al), sC (p0.fTables.map Ar)]), .e (.agg [sC (p1.fBase.map Al), sC (p1.fNext.map Al), sC (p1.fHeld.map Bw)])] [(3, r.map Ad)] (oD (.own 0)) := by
 unfold Fy at h
 refine Au (n := 98) (rs := [.tmp 4]) Tryz.func100 rfl rfl rfl (A5 rfl) (A5 rfl) rfl fun w0 S0 => ?_
 refine Ab (Aa Ac rfl (qb rfl (qb rfl (qa rfl (Ae (Ab (Aa Ac rfl (qa rfl (Ae (Ab (Ab (Aa Ac rfl (qf CI rfl (ql GQ rfl (AR D6 rfl (qm rfl (Ae ?_)))))))))))))))))
 refine AE (L := Du N p0 p1) h (fun v1 => mk [(3, oD (.ptr 3 0)), (5, oD (.own 2001)), (15, pD (.sl (p0.fTables.map Ar))), (16, iD ((p0.fTables.length : Int))), (17, iD v1.2)] [(3, .box [sC (p1.fBase.map Al), sC (p1.fNext.map Al), sC (p1.fHeld.map Bw)]), (2001, .vec 3 (v1.1.map Ad))]) (fun v2 => mk [(5, oD (.own 2002))] [(2002, .vec 3 (v2.map Ad))]) (fun _ _ => rfl) ((BB 5 2013 3 rfl rfl rfl).trans (sm [(2001, 2013)] _ _ rfl rfl)) (fun j1 n1 v1 h => ?_) (fun v2 s h hs => ?_)
 ·unfold Du at h
  refine Ab (Aa Ac rfl (AY rfl (Ae (Ab ?_))))
  refine Ap rfl (fun c3 => ?_) (fun c3 => ?_)
  ·have h := An c3 h
   refine Aq (Ab (AJ (Ab (Aa Ac rfl (qm rfl ?_)))))
   obtain ⟨v4, a4, b4, h⟩ := Ak h
   refine qi D6 EB a4 (Af b4) rfl (qK Iy EB rfl (qz NA rfl (qa rfl (qs EB rfl (Ae (Ab (Aa Ac rfl (qL A4 Az rfl (qf DZ rfl (ql Cz rfl ?_))))))))))
   obtain ⟨v5, a5, h⟩ := bind_some h
   refine AG [] (Jt N p1 v4.fFrom v5 a5) TH rfl (qL A4 Az rfl (qf Jj rfl (ql Cz rfl ?_)))
   obtain ⟨v6, a6, h⟩ := bind_some h
   refine AG [] (Jt N p1 v4.fTo v6 a6) TH rfl (qa rfl (qa rfl (AC (by kernel_rfl) ?_)))
   refine AL h (fun v7 => mk [(3, oD (.ptr 3 0)), (5, oD (.own 2003)), (6, iD v1.2), (7, oD (.ptr 7 0)), (8, pD (.val (.int .u8 v7))), (9, pD (.val (.int .u8 v6))), (15, pD (.sl (p0.fTables.map Ar))), (16, iD ((p0.fTables.length : Int))), (17, iD v1.2)] [(3, .box [sC (p1.fBase.map Al), sC (p1.fNext.map Al), sC (p1.fHeld.map Bw)]), (7, .box [iC v4.fKind, iC v4.fFrom, iC v4.fTo, .pure (.val (.bool v4.fAware)), sC (v4.fOK.map (Fe eB)), sC (v4.fRewrite.map (Fe eB))]), (2003, .vec 3 (v1.1.map Ad))]) (fun j7 h => ?_) (fun v7 h => ?_)
   ·refine Ab (Aa Ac rfl (qL Iy EB rfl ?_))
    obtain ⟨v8, a8, h⟩ := bind_some h
    refine AG [] (JN N v4 v8 a8) WC rfl (Ae ?_)
    refine Ap rfl (fun c9 => ?_) (fun c9 => ?_)
    ·have h := An c9 h
     refine Aa Ac rfl (qf CM rfl (ql G5 rfl (qm rfl ?_)))
     obtain ⟨v10, a10, b10, h⟩ := Ak h
     refine qi Dj FW a10 (Af b10) rfl (qk JZ rfl (qa rfl (Ae ?_)))
     exact As _ h (sm [(2003, 2001)] _ _ rfl rfl)
    ·have h := Ao c9 h
     refine Aq ?_
     exact As _ h (sm [(2003, 2001)] _ _ rfl rfl)
   ·refine Ab (Aa Ac rfl (qf IB rfl (ql IP rfl (AR F1 rfl (qm rfl (Ae ?_))))))
    refine AE (L := Cu N v1 v4 v6 v7) h (fun v11 => mk [(3, oD (.ptr 3 0)), (5, oD (.own 2004)), (6, iD v1.2), (7, oD (.ptr 7 0)), (8, pD (.val (.int .u8 v7))), (9, pD (.val (.int .u8 v6))), (15, pD (.sl (p0.fTables.map Ar))), (16, iD ((p0.fTables.length : Int))), (17, iD v1.2), (39, iD ((v4.fOK.length : Int))), (40, iD v11.2)] [(3, .box [sC (p1.fBase.map Al), sC (p1.fNext.map Al), sC (p1.fHeld.map Bw)]), (7, .box [iC v4.fKind, iC v4.fFrom, iC v4.fTo, .pure (.val (.bool v4.fAware)), sC (v4.fOK.map (Fe eB)), sC (v4.fRewrite.map (Fe eB))]), (2004, .vec 3 (v11.1.map Ad))]) (fun v12 => mk [(3, oD (.ptr 3 0)), (5, oD (.own 2005)), (15, pD (.sl (p0.fTables.map Ar))), (16, iD ((p0.fTables.length : Int))), (17, iD v1.2)] [(3, .box [sC (p1.fBase.map Al), sC (p1.fNext.map Al), sC (p1.fHeld.map Bw)]), (2005, .vec 3 (v12.map Ad))]) (fun _ _ => rfl) (sm [(2004, 2003)] _ _ rfl rfl) (fun j11 n11 v11 h => ?_) (fun v12 s h hs => ?_)
    ·unfold Cu at h
     refine Ab (Aa Ac rfl (AY rfl (Ae (Ab ?_))))
     refine Ap rfl (fun c13 => ?_) (fun c13 => ?_)
     ·have h := An c13 h
      refine Aq ?_
      refine AL h (fun v14 => mk [(3, oD (.ptr 3 0)), (5, oD (.own 2006)), (6, iD v1.2), (7, oD (.ptr 7 0)), (8, pD (.val (.int .u8 v7))), (9, pD (.val (.int .u8 v6))), (15, pD (.sl (p0.fTables.map Ar))), (16, iD ((p0.fTables.length : Int))), (17, iD v1.2), (39, iD ((v4.fOK.length : Int))), (40, iD v11.2)] [(3, .box [sC (p1.fBase.map Al), sC (p1.fNext.map Al), sC (p1.fHeld.map Bw)]), (7, .box [iC v4.fKind, iC v4.fFrom, iC v4.fTo, .pure (.val (.bool v4.fAware)), sC (v4.fOK.map (Fe eB)), sC (v4.fRewrite.map (Fe eB))]), (2006, .vec 3 (v14.map Ad))]) (fun j14 h => ?_) (fun v14 h => ?_)
      ·refine AJ (Ab (Aa Ac rfl (qm rfl (qa rfl (Ae (Ab (Ab (Aa Ac rfl (qm rfl (qm rfl ?_))))))))))
       obtain ⟨c15, h⟩ := Ba h
       refine HN rfl c15 (K8 rfl (BQ rfl (Ae ?_)))
       refine Ap rfl (fun c16 => ?_) (fun c16 => ?_)
       ·have h := An c16 h
        refine AQ ?_
        exact As _ h (sm [(2006, 2004)] _ _ rfl rfl)
       ·have h := Ao c16 h
        refine Aq (Ab (Aa Ac rfl (qa rfl (Ae (Ab (Ab (Aa Ac rfl (qf IB rfl (ql IP rfl (qm rfl ?_))))))))))
        obtain ⟨v17, a17, b17, h⟩ := Ak h
        refine qi F1 MZ a17 (Af b17) rfl (qk Ns rfl (AR Ji rfl (qm rfl (Ae ?_))))
        refine AE (L := Cc N v1 v4 v6 v11 v17) h (fun v18 => mk [(3, oD (.ptr 3 0)), (5, oD (.own 2007)), (6, iD v1.2), (7, oD (.ptr 7 0)), (8, pD (.val (.int .u8 v7))), (9, pD (.val (.int .u8 v6))), (10, iD v11.2), (11, bD v18.2.1), (15, pD (.sl (p0.fTables.map Ar))), (16, iD ((p0.fTables.length : Int))), (17, iD v1.2), (39, iD ((v4.fOK.length : Int))), (40, iD v11.2), (52, pD (.sl (v17.map eB))), (53, iD ((v17.length : Int))), (54, iD v18.2.2)] [(3, .box [sC (p1.fBase.map Al), sC (p1.fNext.map Al), sC (p1.fHeld.map Bw)]), (7, .box [iC v4.fKind, iC v4.fFrom, iC v4.fTo, .pure (.val (.bool v4.fAware)), sC (v4.fOK.map (Fe eB)), sC (v4.fRewrite.map (Fe eB))]), (2007, .vec 3 (v18.1.map Ad))]) (fun v19 => mk [(3, oD (.ptr 3 0)), (5, oD (.own 2008)), (6, iD v1.2), (7, oD (.ptr 7 0)), (8, pD (.val (.int .u8 v7))), (9, pD (.val (.int .u8 v6))), (10, iD v11.2), (11, bD v19.2), (15, pD (.sl (p0.fTables.map Ar))), (16, iD ((p0.fTables.length : Int))), (17, iD v1.2), (39, iD ((v4.fOK.length : Int))), (40, iD v11.2)] [(3, .box [sC (p1.fBase.map Al), sC (p1.fNext.map Al), sC (p1.fHeld.map Bw)]), (7, .box [iC v4.fKind, iC v4.fFrom, iC v4.fTo, .pure (.val (.bool v4.fAware)), sC (v4.fOK.map (Fe eB)), sC (v4.fRewrite.map (Fe eB))]), (2008, .vec 3 (v19.1.map Ad))]) (fun _ _ => rfl) (sm [(2007, 2004)] _ _ rfl rfl) (fun j18 n18 v18 h => ?_) (fun v19 s h hs => ?_)
        ·unfold Cc at h
         refine Ab (Aa Ac rfl (AY rfl (Ae (Ab ?_))))
         refine Ap rfl (fun c20 => ?_) (fun c20 => ?_)
         ·have h := An c20 h
          refine Aq ?_
          refine AL h (fun v21 => mk [(3, oD (.ptr 3 0)), (5, oD (.own 2009)), (6, iD v1.2), (7, oD (.ptr 7 0)), (8, pD (.val (.int .u8 v7))), (9, pD (.val (.int .u8 v6))), (10, iD v11.2), (11, bD v21.2), (15, pD (.sl (p0.fTables.map Ar))), (16, iD ((p0.fTables.length : Int))), (17, iD v1.2), (39, iD ((v4.fOK.length : Int))), (40, iD v11.2), (52, pD (.sl (v17.map eB))), (53, iD ((v17.length : Int))), (54, iD v18.2.2)] [(3, .box [sC (p1.fBase.map Al), sC (p1.fNext.map Al), sC (p1.fHeld.map Bw)]), (7, .box [iC v4.fKind, iC v4.fFrom, iC v4.fTo, .pure (.val (.bool v4.fAware)), sC (v4.fOK.map (Fe eB)), sC (v4.fRewrite.map (Fe eB))]), (2009, .vec 3 (v21.1.map Ad))]) (fun j21 h => ?_) (fun v21 h => ?_)
          ·refine AJ (Ab (Aa Ac rfl (qm rfl ?_)))
           obtain ⟨v22, a22, b22, h⟩ := Ak h
           refine qi Ji VM a22 (Af b22) rfl (qk SI rfl (qa rfl (qa rfl (Ae (Ab (Ab (Aa Ac rfl (qm rfl (qm rfl ?_)))))))))
           obtain ⟨c23, h⟩ := Ba h
           refine HN rfl c23 (K8 rfl (BQ rfl (Ae ?_)))
           refine Ap rfl (fun c24 => ?_) (fun c24 => ?_)
           ·have h := An c24 h
            refine AQ ?_
            exact As _ h (sm [(2009, 2007)] _ _ rfl rfl)
           ·have h := Ao c24 h
            refine Aq ?_
            refine AL h (fun v25 => mk [(3, oD (.ptr 3 0)), (5, oD (.own 2010)), (6, iD v1.2), (7, oD (.ptr 7 0)), (8, pD (.val (.int .u8 v7))), (9, pD (.val (.int .u8 v6))), (10, iD v11.2), (11, bD v25), (12, iD v18.2.2), (13, bD v22), (15, pD (.sl (p0.fTables.map Ar))), (16, iD ((p0.fTables.length : Int))), (17, iD v1.2), (39, iD ((v4.fOK.length : Int))), (40, iD v11.2), (52, pD (.sl (v17.map eB))), (53, iD ((v17.length : Int))), (54, iD v18.2.2)] [(3, .box [sC (p1.fBase.map Al), sC (p1.fNext.map Al), sC (p1.fHeld.map Bw)]), (7, .box [iC v4.fKind, iC v4.fFrom, iC v4.fTo, .pure (.val (.bool v4.fAware)), sC (v4.fOK.map (Fe eB)), sC (v4.fRewrite.map (Fe eB))]), (2010, .vec 3 (v18.1.map Ad))]) (fun j25 h => ?_) (fun v25 h => ?_)
            ·refine Aa Ac rfl (qm rfl (qm rfl ?_))
             refine AB (t := 65) rfl (fun c26 => ?_) (fun c26 => ?_)
             ·have h := An c26 h
              refine qn rfl (qp rfl (qa rfl (Ae ?_)))
              exact As _ h (sm [(2010, 2007)] _ _ rfl rfl)
             ·have h := Ao c26 h
              refine qm rfl (qp rfl (qa rfl (Ae ?_)))
              exact As _ h (sm [(2010, 2007)] _ _ rfl rfl)
            ·refine AL h (fun v27 => mk [(3, oD (.ptr 3 0)), (5, oD (.own 2011)), (6, iD v1.2), (7, oD (.ptr 7 0)), (8, pD (.val (.int .u8 v7))), (9, pD (.val (.int .u8 v6))), (10, iD v11.2), (11, bD v25), (12, iD v18.2.2), (15, pD (.sl (p0.fTables.map Ar))), (16, iD ((p0.fTables.length : Int))), (17, iD v1.2), (39, iD ((v4.fOK.length : Int))), (40, iD v11.2), (52, pD (.sl (v17.map eB))), (53, iD ((v17.length : Int))), (54, iD v18.2.2), (74, bD v27)] [(3, .box [sC (p1.fBase.map Al), sC (p1.fNext.map Al), sC (p1.fHeld.map Bw)]), (7, .box [iC v4.fKind, iC v4.fFrom, iC v4.fTo, .pure (.val (.bool v4.fAware)), sC (v4.fOK.map (Fe eB)), sC (v4.fRewrite.map (Fe eB))]), (2011, .vec 3 (v18.1.map Ad))]) (fun j27 h => ?_) (fun v27 h => ?_)
             ·refine Aa Ac rfl (qm rfl (BS rfl (qm rfl ?_)))
              refine AB (t := 70) rfl (fun c28 => ?_) (fun c28 => ?_)
              ·have h := An c28 h
               refine qf KT rfl (ql SI rfl (BS rfl (qp rfl (Ae ?_))))
               exact As _ h (sm [(2011, 2010)] _ _ rfl rfl)
              ·have h := Ao c28 h
               refine qn rfl (qn rfl (qn rfl (qp rfl (Ae ?_))))
               exact As _ h (sm [(2011, 2010)] _ _ rfl rfl)
             ·refine Ap rfl (fun c29 => ?_) (fun c29 => ?_)
              ·have h := An c29 h
               refine Aa Ac rfl (qm rfl (qm rfl (qm rfl (qm rfl (Br HW PQ rfl (EX A8 AU HW rfl ?_))))))
               obtain ⟨c30, h⟩ := Ba h
               refine Fb (f := Ad) A8 A8 AU Qn HW c30 rfl (qa rfl (Ae ?_))
               exact As _ h (sm [(2009, 81)] _ _ rfl rfl)
              ·have h := Ao c29 h
               refine Aq ?_
               exact As _ h (sm [(2009, 2011)] _ _ rfl rfl)
          ·refine Aa Ac rfl (AP rfl (qm rfl (Ae ?_)))
           exact As _ h (sm [(2007, 2009)] _ _ rfl rfl)
         ·have h := Ao c20 h
          refine AQ ?_
          exact As _ h (sm [(2008, 2007)] _ _ rfl rfl)
        ·refine Am hs ?_
         refine AL h (fun v31 => mk [(3, oD (.ptr 3 0)), (5, oD (.own 2012)), (6, iD v1.2), (7, oD (.ptr 7 0)), (8, pD (.val (.int .u8 v7))), (9, pD (.val (.int .u8 v6))), (10, iD v11.2), (15, pD (.sl (p0.fTables.map Ar))), (16, iD ((p0.fTables.length : Int))), (17, iD v1.2), (39, iD ((v4.fOK.length : Int))), (40, iD v11.2), (88, bD v31)] [(3, .box [sC (p1.fBase.map Al), sC (p1.fNext.map Al), sC (p1.fHeld.map Bw)]), (7, .box [iC v4.fKind, iC v4.fFrom, iC v4.fTo, .pure (.val (.bool v4.fAware)), sC (v4.fOK.map (Fe eB)), sC (v4.fRewrite.map (Fe eB))]), (2012, .vec 3 (v19.1.map Ad))]) (fun j31 h => ?_) (fun v31 h => ?_)
         ·refine Aa Ac rfl (qf KT rfl (ql SI rfl (qm rfl ?_)))
          refine AB (t := 85) rfl (fun c32 => ?_) (fun c32 => ?_)
          ·have h := An c32 h
           refine qm rfl (BS rfl (qp rfl (Ae ?_)))
           exact As _ h (sm [(2012, 2008)] _ _ rfl rfl)
          ·have h := Ao c32 h
           refine qn rfl (qn rfl (qp rfl (Ae ?_)))
           exact As _ h (sm [(2012, 2008)] _ _ rfl rfl)
         ·refine Ap rfl (fun c33 => ?_) (fun c33 => ?_)
          ·have h := An c33 h
           refine Aa Ac rfl (qm rfl (qm rfl (qm rfl (Br HW PQ rfl (EX A8 AU HW rfl ?_)))))
           obtain ⟨c34, h⟩ := Ba h
           refine Fb (f := Ad) A8 A8 AU Qn HW c34 rfl (qa rfl (Ae ?_))
           exact As _ h (sm [(2006, 94)] _ _ rfl rfl)
          ·have h := Ao c33 h
           refine Aq ?_
           exact As _ h (sm [(2006, 2012)] _ _ rfl rfl)
      ·refine Aa Ac rfl (AP rfl (qm rfl (Ae ?_)))
       exact As _ h (sm [(2004, 2006)] _ _ rfl rfl)
     ·have h := Ao c13 h
      refine AQ ?_
      exact As _ h (sm [(2005, 2004)] _ _ rfl rfl)
    ·refine Am hs (Aa Ac rfl (AP rfl (qm rfl (Ae ?_))))
     exact As _ h (sm [(2001, 2005)] _ _ rfl rfl)
  ·have h := Ao c3 h
   refine AQ ?_
   exact As _ h (sm [(2002, 2001)] _ _ rfl rfl)
 ·refine Am hs (Ab (Aa Ac rfl (qm rfl (qa rfl (Ae ?_)))))
  obtain rfl := sj h
  refine Am (sm [(1000, 2002)] [(4, oD (.own 1000))] [(1000, .vec 3 (v2.map Ad))] rfl rfl) (AA ?_)
  exact ⟨⟨[_], ⟨.tmp _ _ rfl, tv⟩, rfl⟩, ⟨rfl, tv⟩⟩
theorem MR (N : Nat) (p0 : Aj) (p1 : Ag) (r : Ag × Ah × Int) (h : GE N p0 p1 = some r) : AD Tryz.prog 55 [.e (.agg [sC (p0.fVersions.map Al), sC (p0.fNow.map Al), sC (p0.fTarget.map Al), sC (p0.fTables.map Ar)]), .e (.agg [sC (p1.fBase.map Al), sC (p1.fNext.map Al), sC (p1.fHeld.map Bw)])] [] (.tup [.agg [sC (r.1.fBase.map Al), sC (r.1.fNext.map Al), sC (r.1.fHeld.map Bw)], .agg [iC r.2.1.fTable, iC r.2.1.fWriter, iC r.2.1.fReader], .one (iC r.2.2)]) := by
 unfold GE at h
 refine Au (n := 42) (rs := [.cell 4 46, .cell 5 66, .tmp 6]) Tryz.func55 rfl rfl rfl (A5 rfl) (A5 rfl) rfl fun w0 S0 => ?_
 refine Ab (Aa Ac rfl (qb rfl (qb rfl (qz Cs rfl (qz HW rfl (qa rfl (Ae (Ab (Aa Ac rfl (qL Di Da rfl (qL A4 Az rfl ?_)))))))))))
 obtain ⟨v1, a1, h⟩ := bind_some h
 refine AG [2001] (PD N p0 p1 v1 a1) Zr rfl (qm rfl (qx rfl (qx rfl (qa rfl (qa rfl (Ae (Ab (Ab (Aa Ac rfl (qm rfl (BP rfl (Ae ?_))))))))))))
 refine Ap rfl (fun c2 => ?_) (fun c2 => ?_)
 ·have h := An c2 h
  refine Ab (Aa Ac rfl (Br Cs Gt rfl (Br HW PQ rfl (qm rfl (qs Az rfl (qs AU rfl (qa rfl (Ae ?_))))))))
  obtain rfl := sj h
  refine Am ((HT 4 _ rfl).trans (sm [] [(4, oD (.ptr 4 0)), (5, oD (.ptr 5 0)), (6, iD v1.2)] [(4, .box [sC ((([] : List Int)).map Al), sC ((([] : List Int)).map Al), sC ((([] : List Int)).map Bw)]), (5, .box [iC 0, iC 0, iC 0])] rfl rfl)) (AA ?_)
  exact ⟨⟨[_, _, _], ⟨.cellN _ _ _ _ _ _ _ rfl rfl A4 Az rfl rfl (Iq rfl), ⟨.cellN _ _ _ _ _ _ _ rfl rfl CP AU rfl rfl (Iq rfl), ⟨.tmp _ _ rfl, tv⟩⟩⟩, rfl⟩, tv⟩
 ·have h := Ao c2 h
  refine Aq (Ab (Ab (Aa Ac rfl (qm rfl (EP A0 rfl (qm rfl (Ae ?_)))))))
  refine AE (L := EH N p0 v1) h (fun v3 => mk [(2, oD (.ptr 2 0)), (4, oD (.ptr 4 0)), (5, oD (.ptr 5 0)), (23, oD (.own 2002)), (24, iD ((v1.1.length : Int))), (25, iD v3)] [(2, .box [sC (p0.fVersions.map Al), sC (p0.fNow.map Al), sC (p0.fTarget.map Al), sC (p0.fTables.map Ar)]), (4, .box [.pure (.nil0), .pure (.nil0), .pure (.nil0)]), (5, .box [iC 0, iC 0, iC 0]), (2002, .vec 3 (v1.1.map Ai))]) (fun v4 => mk [(4, oD (.ptr 4 0)), (5, oD (.ptr 5 0))] [(4, .box [.pure (.nil0), .pure (.nil0), .pure (.nil0)]), (5, .box [iC 0, iC 0, iC 0])]) (fun _ _ => rfl) (sm [(2002, 2001)] _ _ rfl rfl) (fun j3 n3 v3 h => ?_) (fun v4 s h hs => ?_)
  ·unfold EH at h
   refine Ab (Aa Ac rfl (AY rfl (Ae (Ab ?_))))
   refine Ap rfl (fun c5 => ?_) (fun c5 => ?_)
   ·have h := An c5 h
    refine Aq (Ab (AJ (Ab (Aa Ac rfl ?_))))
    obtain ⟨v6, a6, b6, h⟩ := Ak h
    refine qI A0 Az a6 (Af b6) rfl (qJ A4 Az (Af b6) rfl (qz Cs rfl (qs Az rfl (Ae (Ab (Aa Ac rfl (qL Di Da rfl (qL A4 Az rfl ?_))))))))
    obtain ⟨v7, a7, h⟩ := bind_some h
    refine AG [2003] (MY N p0 v6 v7 a7) YL rfl (qa rfl (Ae (Ab (Aa Ac rfl (qm rfl (EP A8 rfl (DC rfl (Ae ?_))))))))
    refine Ap rfl (fun c8 => ?_) (fun c8 => ?_)
    ·have h := An c8 h
     refine Ab (Aa Ac rfl (qL A4 Az rfl (qm rfl ?_)))
     obtain ⟨v9, a9, b9, h⟩ := Ak h
     refine qI A8 AU a9 (Af b9) rfl (qJ CP AU (Af b9) rfl (qs Az rfl (qs AU rfl (qa rfl (AC (by kernel_rfl) ?_)))))
     obtain rfl := sj h
     refine Am (sm [] [(4, oD (.ptr 4 0)), (5, oD (.ptr 5 0)), (6, iD 0)] [(4, .box [sC (v6.fBase.map Al), sC (v6.fNext.map Al), sC (v6.fHeld.map Bw)]), (5, .box [iC v9.fTable, iC v9.fWriter, iC v9.fReader])] rfl rfl) (AA ?_)
     exact ⟨⟨[_, _, _], ⟨.cellN _ _ _ _ _ _ _ rfl rfl A4 Az rfl rfl (Iq rfl), ⟨.cellN _ _ _ _ _ _ _ rfl rfl CP AU rfl rfl (Iq rfl), ⟨.tmp _ _ rfl, tv⟩⟩⟩, rfl⟩, tv⟩
    ·have h := Ao c8 h
     refine Aq (Aa Ac rfl (AP rfl (qm rfl (Ae ?_))))
     exact As _ h (sm [] _ _ rfl rfl)
   ·have h := Ao c5 h
    refine AQ ?_
    exact As _ h (sm [] _ _ rfl rfl)
  ·refine Am hs (Ab (Aa Ac rfl (Br Cs Gt rfl (Br HW PQ rfl (qs Az rfl (qs AU rfl (qa rfl (Ae ?_))))))))
   obtain rfl := sj h
   refine Am ((HT 4 _ rfl).trans (sm [] [(4, oD (.ptr 4 0)), (5, oD (.ptr 5 0)), (6, iD 15)] [(4, .box [sC ((([] : List Int)).map Al), sC ((([] : List Int)).map Al), sC ((([] : List Int)).map Bw)]), (5, .box [iC 0, iC 0, iC 0])] rfl rfl)) (AA ?_)
   exact ⟨⟨[_, _, _], ⟨.cellN _ _ _ _ _ _ _ rfl rfl A4 Az rfl rfl (Iq rfl), ⟨.cellN _ _ _ _ _ _ _ rfl rfl CP AU rfl rfl (Iq rfl), ⟨.tmp _ _ rfl, tv⟩⟩⟩, rfl⟩, tv⟩
theorem HD (N : Nat) (p0 : Aj) (p1 : Ag) (r : Bool × Int) (h : Fo N p0 p1 = some r) : AD Tryz.prog 45 [.e (.agg [sC (p0.fVersions.map Al), sC (p0.fNow.map Al), sC (p0.fTarget.map Al), sC (p0.fTables.map Ar)]), .e (.agg [sC (p1.fBase.map Al), sC (p1.fNext.map Al), sC (p1.fHeld.map Bw)])] [] (.tup [.one (.pure (.val (.bool r.1))), .one (iC r.2)]) := by
 unfold Fo at h
 refine Au (n := 22) (rs := [.tmp 4, .tmp 5]) Tryz.func45 rfl rfl rfl (A5 rfl) (A5 rfl) rfl fun w0 S0 => ?_
 refine Ab (Aa Ac rfl (qb rfl (qb rfl (qa rfl (qa rfl (Ae (Ab (Aa Ac rfl (qL Di Da rfl (qL A4 Az rfl ?_))))))))))
 obtain ⟨v1, a1, h⟩ := bind_some h
 refine AG [] (MR N p0 p1 v1 a1) XX rfl (qm rfl (qx rfl (qx rfl (qx rfl (qz Cs rfl (qz HW rfl (qs Az rfl (qs AU rfl (qa rfl (Ae (Ab (Aa Ac rfl (qm rfl (Ae (AJ (Ab (Aa Ac rfl (BQ rfl (qa rfl (Ae ?_))))))))))))))))))))
 refine Ap rfl (fun c2 => ?_) (fun c2 => ?_)
 ·have h := An c2 h
  refine Ab (Aa Ac rfl (qa rfl (qa rfl (Ae ?_))))
  obtain rfl := sj h
  refine Am (sm [] [(4, bD false), (5, iD 0)] [] rfl rfl) (AA ?_)
  exact ⟨⟨[_, _], ⟨.tmp _ _ rfl, ⟨.tmp _ _ rfl, tv⟩⟩, rfl⟩, tv⟩
 ·have h := Ao c2 h
  refine Ab (Aa Ac rfl (BQ rfl (qa rfl (Ae ?_))))
  refine Ap rfl (fun c3 => ?_) (fun c3 => ?_)
  ·have h := An c3 h
   refine Ab (Aa Ac rfl (qa rfl (qa rfl (Ae ?_))))
   obtain rfl := sj h
   refine Am (sm [] [(4, bD true), (5, iD 0)] [] rfl rfl) (AA ?_)
   exact ⟨⟨[_, _], ⟨.tmp _ _ rfl, ⟨.tmp _ _ rfl, tv⟩⟩, rfl⟩, tv⟩
  ·have h := Ao c3 h
   refine Ab (Aa Ac rfl (qm rfl (qa rfl (qa rfl (Ae ?_)))))
   obtain rfl := sj h
   refine Am (sm [] [(4, bD false), (5, iD v1.2.2)] [] rfl rfl) (AA ?_)
   exact ⟨⟨[_, _], ⟨.tmp _ _ rfl, ⟨.tmp _ _ rfl, tv⟩⟩, rfl⟩, tv⟩
theorem Ov (N : Nat) (p0 : Aj) (r : Ag × Bool × Int) (h : Gn N p0 = some r) : AD Tryz.prog 83 [.e (.agg [sC (p0.fVersions.map Al), sC (p0.fNow.map Al), sC (p0.fTarget.map Al), sC (p0.fTables.map Ar)])] [(1, r.1.fBase.map Al), (1, r.1.fNext.map Al), (1, r.1.fHeld.map Bw)] (.tup [.agg [.own 0, .own 1, .own 2], .one (.pure (.val (.bool r.2.1))), .one (iC r.2.2)]) := by
 unfold Gn at h
 refine Au (n := 26) (rs := [.cell 2 46, .tmp 3, .tmp 4]) Tryz.func83 rfl rfl rfl (A5 rfl) (A5 rfl) rfl fun w0 S0 => ?_
 refine Ab (Aa Ac rfl (qb rfl (qz Cs rfl (qa rfl (qa rfl (Ae (Ab (Aa Ac rfl (qL Di Da rfl ?_)))))))))
 obtain ⟨v1, a1, h⟩ := bind_some h
 refine AG [2001, 2002, 2003] (MG N p0 v1 a1) Yy rfl (qm rfl (qx rfl (qx rfl (qz Cs rfl (qs Az rfl (qa rfl (Ae (Ab (Ab (Aa Ac rfl (qm rfl (BP rfl (Ae ?_)))))))))))))
 refine Ap rfl (fun c2 => ?_) (fun c2 => ?_)
 ·have h := An c2 h
  refine Ab (Aa Ac rfl (Br Cs Gt rfl (qm rfl (qs Az rfl (qa rfl (qa rfl (Ae ?_)))))))
  obtain rfl := sj h
  refine Am ((AO 2 0 2004 1 _ rfl rfl rfl rfl).trans ((AO 2 1 2005 1 _ rfl rfl rfl rfl).trans ((AO 2 2 2006 1 _ rfl rfl rfl rfl).trans (sm [(1000, 2004), (1001, 2005), (1002, 2006)] [(2, oD (.ptr 2 0)), (3, bD false), (4, iD v1.2)] [(2, .box [.own 1000, .own 1001, .own 1002]), (1000, .vec 1 ((([] : List Int)).map Al)), (1001, .vec 1 ((([] : List Int)).map Al)), (1002, .vec 1 ((([] : List Int)).map Bw))] rfl rfl)))) (AA ?_)
  exact ⟨⟨[_, _, _], ⟨.cellN _ _ _ _ _ _ _ rfl rfl A4 Az rfl rfl (Iq rfl), ⟨.tmp _ _ rfl, ⟨.tmp _ _ rfl, tv⟩⟩⟩, rfl⟩, ⟨rfl, rfl, rfl, tv⟩⟩
 ·have h := Ao c2 h
  refine Aq (Ab (Aa Ac rfl (qL Di Da rfl (qL A4 Az rfl ?_))))
  obtain ⟨v3, a3, h⟩ := bind_some h
  refine DI [] [2001, 2002, 2003] (HD N p0 v1.1 v3 a3) TN Cr rfl (qm rfl (qx rfl (qx rfl (qa rfl (qa rfl (Ae (Ab (Aa Ac rfl (qL A4 Az rfl (qm rfl (qm rfl (qs Az rfl (qa rfl (qa rfl (Ae ?_)))))))))))))))
  obtain rfl := sj h
  refine Am (sm [(1000, 2001), (1001, 2002), (1002, 2003)] [(2, oD (.ptr 2 0)), (3, bD v3.1), (4, iD v3.2)] [(2, .box [.own 1000, .own 1001, .own 1002]), (1000, .vec 1 (v1.1.fBase.map Al)), (1001, .vec 1 (v1.1.fNext.map Al)), (1002, .vec 1 (v1.1.fHeld.map Bw))] rfl rfl) (AA ?_)
  exact ⟨⟨[_, _, _], ⟨.cellN _ _ _ _ _ _ _ rfl rfl A4 Az rfl rfl (Iq rfl), ⟨.tmp _ _ rfl, ⟨.tmp _ _ rfl, tv⟩⟩⟩, rfl⟩, ⟨rfl, rfl, rfl, tv⟩⟩
theorem Ku (N : Nat) (p0 : Ag) (r : ByteArray) (h : HB N p0 = some r) : AD Tryz.prog 84 [.e (.agg [sC (p0.fBase.map Al), sC (p0.fNext.map Al), sC (p0.fHeld.map Bw)])] [] (pD (.val (.string r))) := by
 unfold HB at h
 refine Au (n := 44) (rs := [.tmp 2]) Tryz.func84 rfl rfl rfl (A5 rfl) (A5 rfl) rfl fun w0 S0 => ?_
 refine Ab (Aa Ac rfl (qb rfl (qa rfl (Ae (Ab (Aa Ac rfl (qa rfl (Ae (Ab (Ab (Aa Ac rfl (qf CO rfl (ql Bs rfl (AR AN rfl (qm rfl (Ae ?_))))))))))))))))
 refine AE (L := G9 N p0) h (fun v1 => mk [(1, oD (.ptr 1 0)), (3, oD (.own 2001)), (9, iD ((p0.fBase.length : Int))), (10, iD v1.2)] [(1, .box [sC (p0.fBase.map Al), sC (p0.fNext.map Al), sC (p0.fHeld.map Bw)]), (2001, .vec 1 (v1.1.map Bw))]) (fun v2 => mk [(1, oD (.ptr 1 0)), (3, oD (.own 2002))] [(1, .box [sC (p0.fBase.map Al), sC (p0.fNext.map Al), sC (p0.fHeld.map Bw)]), (2002, .vec 1 (v2.map Bw))]) (fun _ _ => rfl) ((BB 3 2003 1 rfl rfl rfl).trans (sm [(2001, 2003)] _ _ rfl rfl)) (fun j1 n1 v1 h => ?_) (fun v2 s h hs => ?_)
 ·unfold G9 at h
  refine Ab (Aa Ac rfl (AY rfl (Ae (Ab ?_))))
  refine Ap rfl (fun c3 => ?_) (fun c3 => ?_)
  ·have h := An c3 h
   refine Aq (Ab (AJ (Ab (Aa Ac rfl (qm rfl (qa rfl (Ae (Aa Ac rfl (qm rfl (qf CO rfl (ql Bs rfl (qm rfl ?_))))))))))))
   obtain ⟨v4, a4, b4, h⟩ := Ak h
   refine qi AN DJ a4 (Af b4) rfl (qk Cz rfl (HI UW YW rfl (qf BK rfl (ql Bs rfl (qm rfl ?_)))))
   obtain ⟨v5, a5, b5, h⟩ := Ak h
   refine qi AN DJ a5 (Af b5) rfl (qk Cz rfl (AP rfl (HI UW YW rfl (EX O6 YV Y0 rfl ?_))))
   obtain ⟨c6, h⟩ := Ba h
   refine Fb (f := Bw) O6 O6 YV Xq Y0 c6 rfl (qa rfl (AC (by kernel_rfl) (Aa Ac rfl (AP rfl (qm rfl (Ae ?_))))))
   exact As _ h (sm [(2001, 28)] _ _ rfl rfl)
  ·have h := Ao c3 h
   refine AQ ?_
   exact As _ h (sm [(2002, 2001)] _ _ rfl rfl)
 ·refine Am hs (Ab (Ab (Aa Ac rfl (qf CM rfl (ql G5 rfl (AR Dj rfl (qm rfl (Ae ?_))))))))
  refine AE (L := Hb N p0) h (fun v7 => mk [(3, oD (.own 2004)), (31, pD (.sl (p0.fHeld.map Bw))), (32, iD ((p0.fHeld.length : Int))), (33, iD v7.2)] [(2004, .vec 1 (v7.1.map Bw))]) (fun v8 => mk [(3, oD (.own 2005))] [(2005, .vec 1 (v8.map Bw))]) (fun _ _ => rfl) (sm [(2004, 2002)] _ _ rfl rfl) (fun j7 n7 v7 h => ?_) (fun v8 s h hs => ?_)
  ·unfold Hb at h
   refine Ab (Aa Ac rfl (AY rfl (Ae (Ab ?_))))
   refine Ap rfl (fun c9 => ?_) (fun c9 => ?_)
   ·have h := An c9 h
    refine Aq (Ab (AJ (Ab (Aa Ac rfl ?_))))
    obtain ⟨v10, a10, b10, h⟩ := Ak h
    refine qi Dj FW a10 (Af b10) rfl (qk JZ rfl (qa rfl (Ae (Aa Ac rfl (qm rfl (qm rfl (EX O6 YV Y0 rfl ?_)))))))
    obtain ⟨c11, h⟩ := Ba h
    refine Fb (f := Bw) O6 O6 YV Xq Y0 c11 rfl (qa rfl (Ae (Aa Ac rfl (AP rfl (qm rfl (Ae ?_))))))
    exact As _ h (sm [(2004, 40)] _ _ rfl rfl)
   ·have h := Ao c9 h
    refine AQ ?_
    exact As _ h (sm [(2005, 2004)] _ _ rfl rfl)
  ·refine Am hs (Ab (Aa Ac rfl (qm rfl ?_)))
   refine Ui v8 (.p rfl) rfl (Tq Bw _ _ _) ⟨rfl, tv⟩ rfl XH Vw ?_
   refine qa rfl (Ae ?_)
   obtain rfl := sj h
   refine Am (sm [] [(2, pD (.val (.string ((Jg v8)))))] [] rfl rfl) (AA ?_)
   exact ⟨⟨[_], ⟨.tmp _ _ rfl, tv⟩, rfl⟩, tv⟩
theorem RH (N : Nat) (p0 : Aj) (r : (List Aw)) (h : H5 N p0 = some r) : AD Tryz.prog 95 [.e (.agg [sC (p0.fVersions.map Al), sC (p0.fNow.map Al), sC (p0.fTarget.map Al), sC (p0.fTables.map Ar)])] [(3, r.map A2)] (oD (.own 0)) := by
 unfold H5 at h
 refine Au (n := 54) (rs := [.tmp 2]) Tryz.func95 rfl rfl rfl (A5 rfl) (A5 rfl) rfl fun w0 S0 => ?_
 refine Ab (Aa Ac rfl (qb rfl (qa rfl (Ae (Ab (Aa Ac rfl (qa rfl (Ae (Ab (Ab (Aa Ac rfl (qf Cq rfl (ql Bs rfl (AR AN rfl (qm rfl (Ae ?_))))))))))))))))
 refine AE (L := De N p0) h (fun v1 => mk [(1, oD (.ptr 1 0)), (3, oD (.own 2001)), (10, pD (.sl (p0.fVersions.map Al))), (11, iD ((p0.fVersions.length : Int))), (12, iD v1.2)] [(1, .box [sC (p0.fVersions.map Al), sC (p0.fNow.map Al), sC (p0.fTarget.map Al), sC (p0.fTables.map Ar)]), (2001, .vec 3 (v1.1.map A2))]) (fun v2 => mk [(1, oD (.ptr 1 0)), (3, oD (.own 2002))] [(1, .box [sC (p0.fVersions.map Al), sC (p0.fNow.map Al), sC (p0.fTarget.map Al), sC (p0.fTables.map Ar)]), (2002, .vec 3 (v2.map A2))]) (fun _ _ => rfl) ((BB 3 2005 3 rfl rfl rfl).trans (sm [(2001, 2005)] _ _ rfl rfl)) (fun j1 n1 v1 h => ?_) (fun v2 s h hs => ?_)
 ·unfold De at h
  refine Ab (Aa Ac rfl (AY rfl (Ae (Ab ?_))))
  refine Ap rfl (fun c3 => ?_) (fun c3 => ?_)
  ·have h := An c3 h
   refine Aq (Ab (AJ (Ab (Aa Ac rfl (qm rfl ?_)))))
   obtain ⟨v4, a4, b4, h⟩ := Ak h
   refine qi AN DJ a4 (Af b4) rfl (qk Cz rfl (qa rfl (qa rfl (Ae (Ab (Aa Ac rfl (qm rfl (qm rfl (Ae ?_)))))))))
   refine AE (L := En N v1 v4) h (fun v5 => mk [(1, oD (.ptr 1 0)), (3, oD (.own 2003)), (4, iD v1.2), (10, pD (.sl (p0.fVersions.map Al))), (11, iD ((p0.fVersions.length : Int))), (12, iD v1.2), (17, iD v4), (18, iD v5.2)] [(1, .box [sC (p0.fVersions.map Al), sC (p0.fNow.map Al), sC (p0.fTarget.map Al), sC (p0.fTables.map Ar)]), (2003, .vec 3 (v5.1.map A2))]) (fun v6 => mk [(1, oD (.ptr 1 0)), (3, oD (.own 2004)), (10, pD (.sl (p0.fVersions.map Al))), (11, iD ((p0.fVersions.length : Int))), (12, iD v1.2)] [(1, .box [sC (p0.fVersions.map Al), sC (p0.fNow.map Al), sC (p0.fTarget.map Al), sC (p0.fTables.map Ar)]), (2004, .vec 3 (v6.map A2))]) (fun _ _ => rfl) (sm [(2003, 2001)] _ _ rfl rfl) (fun j5 n5 v5 h => ?_) (fun v6 s h hs => ?_)
   ·unfold En at h
    refine Ab (Aa Ac rfl (AY rfl (Ae (Ab ?_))))
    refine Ap rfl (fun c7 => ?_) (fun c7 => ?_)
    ·have h := An c7 h
     refine Aq (Ab (AJ (Ab (Aa Ac rfl (qm rfl (qa rfl (Ae (Aa Ac rfl (qm rfl (qm rfl (qm rfl (Br Jq UE rfl (EX EU Es Jq rfl ?_)))))))))))))
     obtain ⟨c8, h⟩ := Ba h
     refine Fb (f := A2) EU EU Es Qb Jq c8 rfl (qa rfl (Ae (Aa Ac rfl (AP rfl (qm rfl (Ae ?_))))))
     exact As _ h (sm [(2003, 26)] _ _ rfl rfl)
    ·have h := Ao c7 h
     refine AQ ?_
     exact As _ h (sm [(2004, 2003)] _ _ rfl rfl)
   ·refine Am hs (Aa Ac rfl (AP rfl (qm rfl (Ae ?_))))
    exact As _ h (sm [(2001, 2004)] _ _ rfl rfl)
  ·have h := Ao c3 h
   refine AQ ?_
   exact As _ h (sm [(2002, 2001)] _ _ rfl rfl)
 ·refine Am hs (Ab (Ab (Aa Ac rfl (qf Cq rfl (ql Bs rfl (AR AN rfl (qm rfl (Ae ?_))))))))
  refine AE (L := CA N p0) h (fun v9 => mk [(1, oD (.ptr 1 0)), (3, oD (.own 2006)), (31, iD ((p0.fVersions.length : Int))), (32, iD v9.2)] [(1, .box [sC (p0.fVersions.map Al), sC (p0.fNow.map Al), sC (p0.fTarget.map Al), sC (p0.fTables.map Ar)]), (2006, .vec 3 (v9.1.map A2))]) (fun v10 => mk [(1, oD (.ptr 1 0)), (3, oD (.own 2007))] [(1, .box [sC (p0.fVersions.map Al), sC (p0.fNow.map Al), sC (p0.fTarget.map Al), sC (p0.fTables.map Ar)]), (2007, .vec 3 (v10.map A2))]) (fun _ _ => rfl) (sm [(2006, 2002)] _ _ rfl rfl) (fun j9 n9 v9 h => ?_) (fun v10 s h hs => ?_)
  ·unfold CA at h
   refine Ab (Aa Ac rfl (AY rfl (Ae (Ab ?_))))
   refine Ap rfl (fun c11 => ?_) (fun c11 => ?_)
   ·have h := An c11 h
    refine Aq (Ab (AJ (Ab (Aa Ac rfl (qm rfl (qa rfl (Ae (Aa Ac rfl (qm rfl (qm rfl (Br Jq UE rfl (EX EU Es Jq rfl ?_))))))))))))
    obtain ⟨c12, h⟩ := Ba h
    refine Fb (f := A2) EU EU Es Qb Jq c12 rfl (qa rfl (Ae (Aa Ac rfl (AP rfl (qm rfl (Ae ?_))))))
    exact As _ h (sm [(2006, 39)] _ _ rfl rfl)
   ·have h := Ao c11 h
    refine AQ ?_
    exact As _ h (sm [(2007, 2006)] _ _ rfl rfl)
  ·refine Am hs (Ab (Ab (Aa Ac rfl (qf CI rfl (ql GQ rfl (AR D6 rfl (qm rfl (Ae ?_))))))))
   refine AE (L := BL N p0) h (fun v13 => mk [(3, oD (.own 2008)), (43, iD ((p0.fTables.length : Int))), (44, iD v13.2)] [(2008, .vec 3 (v13.1.map A2))]) (fun v14 => mk [(3, oD (.own 2009))] [(2009, .vec 3 (v14.map A2))]) (fun _ _ => rfl) (sm [(2008, 2007)] _ _ rfl rfl) (fun j13 n13 v13 h => ?_) (fun v14 s h hs => ?_)
   ·unfold BL at h
    refine Ab (Aa Ac rfl (AY rfl (Ae (Ab ?_))))
    refine Ap rfl (fun c15 => ?_) (fun c15 => ?_)
    ·have h := An c15 h
     refine Aq (Ab (AJ (Ab (Aa Ac rfl (qm rfl (qa rfl (Ae (Aa Ac rfl (qm rfl (qm rfl (Br Jq UE rfl (EX EU Es Jq rfl ?_))))))))))))
     obtain ⟨c16, h⟩ := Ba h
     refine Fb (f := A2) EU EU Es Qb Jq c16 rfl (qa rfl (Ae (Aa Ac rfl (AP rfl (qm rfl (Ae ?_))))))
     exact As _ h (sm [(2008, 51)] _ _ rfl rfl)
    ·have h := Ao c15 h
     refine AQ ?_
     exact As _ h (sm [(2009, 2008)] _ _ rfl rfl)
   ·refine Am hs (Ab (Aa Ac rfl (qm rfl (qa rfl (Ae ?_)))))
    obtain rfl := sj h
    refine Am (sm [(1000, 2009)] [(2, oD (.own 1000))] [(1000, .vec 3 (v14.map A2))] rfl rfl) (AA ?_)
    exact ⟨⟨[_], ⟨.tmp _ _ rfl, tv⟩, rfl⟩, ⟨rfl, tv⟩⟩
theorem OD (N : Nat) (p0 : Ag) (r : Ag) (h : Gy N p0 = some r) : AD Tryz.prog 123 [.e (.agg [sC (p0.fBase.map Al), sC (p0.fNext.map Al), sC (p0.fHeld.map Bw)])] [(1, r.fBase.map Al), (1, r.fNext.map Al), (1, r.fHeld.map Bw)] (.e (.agg [.own 0, .own 1, .own 2])) := by
 unfold Gy at h
 refine Au (n := 13) (rs := [.cell 2 46]) Tryz.func123 rfl rfl rfl (A5 rfl) (A5 rfl) rfl fun w0 S0 => ?_
 refine Ab (Aa Ac rfl (qb rfl (qz Cs rfl (Ae (Ab (Aa Ac rfl (qf CO rfl (ql Bs rfl ?_))))))))
 obtain ⟨v1, a1, h⟩ := bind_some h
 refine AG [2001] (CV N p0.fBase v1 a1) RD rfl (qf BK rfl (ql Bs rfl ?_))
 obtain ⟨v2, a2, h⟩ := bind_some h
 refine AG [2002] (CV N p0.fNext v2 a2) RD rfl (qf CM rfl (ql G5 rfl ?_))
 obtain ⟨v3, a3, h⟩ := bind_some h
 refine AG [2003] (Ei N p0.fHeld v3 a3) WP rfl (Br Cs Gt rfl (qs Az rfl (AC (by kernel_rfl) ?_)))
 obtain rfl := sj h
 refine Am (sm [(1000, 2001), (1001, 2002), (1002, 2003)] [(2, oD (.ptr 2 0))] [(2, .box [.own 1000, .own 1001, .own 1002]), (1000, .vec 1 (v1.map Al)), (1001, .vec 1 (v2.map Al)), (1002, .vec 1 (v3.map Bw))] rfl rfl) (AA ?_)
 exact ⟨⟨[_], ⟨.cellN _ _ _ _ _ _ _ rfl rfl A4 Az rfl rfl (Iq rfl), tv⟩, rfl⟩, ⟨rfl, rfl, rfl, tv⟩⟩
theorem K6 (N : Nat) (p0 : AV) (r : Bool) (h : Fz N p0 = some r) : AD Tryz.prog 156 [.e (.agg [iC p0.fKind, iC p0.fFrom, iC p0.fTo, .pure (.val (.bool p0.fAware)), sC (p0.fOK.map (Fe eB)), sC (p0.fRewrite.map (Fe eB))])] [] (bD r) := by
 unfold Fz at h
 refine Au (n := 11) (rs := [.tmp 2]) Tryz.func156 rfl rfl rfl (A5 rfl) (A5 rfl) rfl fun w0 S0 => ?_
 refine Ab (Aa Ac rfl (qb rfl (qa rfl (Ae ?_))))
 refine AL h (fun v1 => mk [(2, bD v1)] []) (fun j1 h => ?_) (fun v1 h => ?_)
 ·refine Aa Ac rfl (qf GG rfl (ql Cz rfl (BQ rfl (qm rfl ?_))))
  refine AB (t := 6) rfl (fun c2 => ?_) (fun c2 => ?_)
  ·have h := An c2 h
   refine qn rfl (qn rfl (qn rfl (qp rfl (qa rfl (Ae ?_)))))
   exact As _ h (sm [] _ _ rfl rfl)
  ·have h := Ao c2 h
   refine qf GG rfl (ql Cz rfl (BQ rfl (qp rfl (qa rfl (Ae ?_)))))
   exact As _ h (sm [] _ _ rfl rfl)
 ·obtain rfl := sj h
  refine Am (sm [] [(2, bD v1)] [] rfl rfl) (AA ?_)
  exact ⟨⟨[_], ⟨.tmp _ _ rfl, tv⟩, rfl⟩, tv⟩
theorem Pr (N : Nat) (p0 : Aj) (p1 : Ag) (p2 : Aw) (r : Bool × (List Int) × (List Int)) (h : H2 N p0 p1 p2 = some r) : Bh Tryz.prog 124 [.e (.agg [sC (p0.fVersions.map Al), sC (p0.fNow.map Al), sC (p0.fTarget.map Al), sC (p0.fTables.map Ar)]), oD (.ptr 90000 0), .e (.agg [iC p2.fKind, iC p2.fIndex, iC p2.fVersion])] [(.box [.own 90001, .own 90002, .own 90003], .box [.own 90001, .own 90002, .own 90003]), (.vec 1 (p1.fBase.map Al), .vec 1 (p1.fBase.map Al)), (.vec 1 (p1.fNext.map Al), .vec 1 (r.2.1.map Al)), (.vec 1 (p1.fHeld.map Bw), .vec 1 (r.2.2.map Bw))] [] (bD r.1) := by
 unfold H2 at h
 refine A9 (n := 70) (rs := [.tmp 6]) Tryz.func124 rfl rfl rfl (A5 rfl) (A5 rfl) rfl rfl (A5 rfl) rfl (A5 rfl) fun w0 S0 GL => ?_
 refine Am (sm [] [(0, .e (.agg [sC (p0.fVersions.map Al), sC (p0.fNow.map Al), sC (p0.fTarget.map Al), sC (p0.fTables.map Ar)])), (1, oD (.ptr 90000 0)), (2, .e (.agg [iC p2.fKind, iC p2.fIndex, iC p2.fVersion]))] [(90000, .box [.own 90001, .own 90002, .own 90003]), (90001, .vec 1 (p1.fBase.map Al)), (90002, .vec 1 (p1.fNext.map Al)), (90003, .vec 1 (p1.fHeld.map Bw))] rfl rfl) (Ab (Aa Ac rfl (qb rfl (qb rfl (qa rfl (Ae (Ab ?_)))))))
 refine AL h (fun v1 => mk [(1, oD (.ptr 90000 0)), (3, oD (.ptr 3 0)), (5, oD (.ptr 5 0)), (30, bD v1)] [(3, .box [sC (p0.fVersions.map Al), sC (p0.fNow.map Al), sC (p0.fTarget.map Al), sC (p0.fTables.map Ar)]), (5, .box [iC p2.fKind, iC p2.fIndex, iC p2.fVersion]), (90000, .box [.own 90001, .own 90002, .own 90003]), (90001, .vec 1 (p1.fBase.map Al)), (90002, .vec 1 (p1.fNext.map Al)), (90003, .vec 1 (p1.fHeld.map Bw))]) (fun j1 h => ?_) (fun v1 h => ?_)
 ·refine Aa Ac rfl (qm rfl (Nv rfl (qf BK rfl (ql Bs rfl (qf E6 rfl (ql Cz rfl ?_))))))
  obtain ⟨v2, a2, b2, h⟩ := Ak h
  refine qI AN DJ a2 (Af b2) rfl (qj Cz (Af b2) rfl (Cv rfl (qm rfl ?_)))
  refine AB (t := 18) rfl (fun c3 => ?_) (fun c3 => ?_)
  ·have h := An c3 h
   refine qn rfl (qn rfl (qn rfl (qn rfl (qn rfl (qn rfl (qn rfl (qn rfl (qn rfl (qn rfl (qn rfl (qp rfl (AC (by kernel_rfl) ?_))))))))))))
   exact As _ h (sm [] _ _ rfl rfl)
  ·have h := Ao c3 h
   refine qm rfl (Nv rfl (qf CO rfl (ql Bs rfl (qf E6 rfl (ql Cz rfl ?_)))))
   obtain ⟨v4, a4, b4, h⟩ := Ak h
   refine qI AN DJ a4 (Af b4) rfl (qj Cz (Af b4) rfl (qf Ha rfl (ql Cz rfl (BQ rfl (qp rfl (AC (by kernel_rfl) ?_))))))
   exact As _ h (sm [] _ _ rfl rfl)
 ·refine Ap rfl (fun c5 => ?_) (fun c5 => ?_)
  ·have h := An c5 h
   refine Ab (Aa Ac rfl (qa rfl (Ae ?_)))
   obtain rfl := sj h
   refine Am (sm [] [(6, bD false)] [(90000, .box [.own 90001, .own 90002, .own 90003]), (90001, .vec 1 (p1.fBase.map Al)), (90002, .vec 1 (p1.fNext.map Al)), (90003, .vec 1 (p1.fHeld.map Bw))] rfl rfl) (AA ?_)
   exact ⟨⟨[_], ⟨.tmp _ _ rfl, tv⟩, rfl⟩, ⟨rfl, rfl, rfl, rfl, tv⟩, tv⟩
  ·have h := Ao c5 h
   refine Aq (Ab (Aa Ac rfl (qm rfl (Nv rfl (qf BK rfl (ql Bs rfl (qf E6 rfl (ql Cz rfl (qf Ha rfl (ql Cz rfl ?_))))))))))
   obtain ⟨v6, a6, b6, h⟩ := Ak h
   refine qI AN DJ a6 (Af b6) rfl ?_
   refine AX rfl rfl rfl rfl (Af b6) rfl DJ rfl (A5 rfl) (AW Al p1.fNext _ p2.fVersion) ?_
   refine AC (by kernel_rfl) (Ab (Ab (Aa Ac rfl (qf CI rfl (ql GQ rfl (AR D6 rfl (qm rfl (Ae ?_))))))))
   refine AE (L := DS N p0 p2) h (fun v7 => mk [(1, oD (.ptr 90000 0)), (5, oD (.ptr 5 0)), (41, pD (.sl (p0.fTables.map Ar))), (42, iD ((p0.fTables.length : Int))), (43, iD v7.2)] [(5, .box [iC p2.fKind, iC p2.fIndex, iC p2.fVersion]), (90000, .box [.own 90001, .own 90002, .own 90003]), (90001, .vec 1 (p1.fBase.map Al)), (90002, .vec 1 ((p1.fNext.set ((p2.fIndex).toNat) p2.fVersion).map Al)), (90003, .vec 1 (v7.1.map Bw))]) (fun v8 => mk [] [(90000, .box [.own 90001, .own 90002, .own 90003]), (90001, .vec 1 (p1.fBase.map Al)), (90002, .vec 1 ((p1.fNext.set ((p2.fIndex).toNat) p2.fVersion).map Al)), (90003, .vec 1 (v8.map Bw))]) (fun _ _ => rfl) (sm [] _ _ rfl rfl) (fun j7 n7 v7 h => ?_) (fun v8 s h hs => ?_)
   ·unfold DS at h
    refine Ab (Aa Ac rfl (AY rfl (Ae (Ab ?_))))
    refine Ap rfl (fun c9 => ?_) (fun c9 => ?_)
    ·have h := An c9 h
     refine Aq ?_
     refine AL h (fun v10 => mk [(1, oD (.ptr 90000 0)), (5, oD (.ptr 5 0)), (41, pD (.sl (p0.fTables.map Ar))), (42, iD ((p0.fTables.length : Int))), (43, iD v7.2)] [(5, .box [iC p2.fKind, iC p2.fIndex, iC p2.fVersion]), (90000, .box [.own 90001, .own 90002, .own 90003]), (90001, .vec 1 (p1.fBase.map Al)), (90002, .vec 1 ((p1.fNext.set ((p2.fIndex).toNat) p2.fVersion).map Al)), (90003, .vec 1 (v10.map Bw))]) (fun j10 h => ?_) (fun v10 h => ?_)
     ·refine AJ (Ab (Aa Ac rfl (qm rfl ?_)))
      obtain ⟨v11, a11, b11, h⟩ := Ak h
      refine qi D6 EB a11 (Af b11) rfl (qK Iy EB rfl (qz NA rfl (qa rfl (qs EB rfl (Ae ?_)))))
      refine AL h (fun v12 => mk [(1, oD (.ptr 90000 0)), (5, oD (.ptr 5 0)), (7, iD v7.2), (41, pD (.sl (p0.fTables.map Ar))), (42, iD ((p0.fTables.length : Int))), (43, iD v7.2), (56, bD v12)] [(5, .box [iC p2.fKind, iC p2.fIndex, iC p2.fVersion]), (90000, .box [.own 90001, .own 90002, .own 90003]), (90001, .vec 1 (p1.fBase.map Al)), (90002, .vec 1 ((p1.fNext.set ((p2.fIndex).toNat) p2.fVersion).map Al)), (90003, .vec 1 (v7.1.map Bw))]) (fun j12 h => ?_) (fun v12 h => ?_)
      ·refine Aa Ac rfl (qf DZ rfl (ql Cz rfl (qf E6 rfl (ql Cz rfl (BQ rfl (qm rfl ?_))))))
       refine AB (t := 53) rfl (fun c13 => ?_) (fun c13 => ?_)
       ·have h := An c13 h
        refine qL Iy EB rfl ?_
        obtain ⟨v14, a14, h⟩ := bind_some h
        refine AG [] (K6 N v11 v14 a14) V6 rfl (qp rfl (Ae ?_))
        exact As _ h (sm [] _ _ rfl rfl)
       ·have h := Ao c13 h
        refine qn rfl (qn rfl (qp rfl (Ae ?_)))
        exact As _ h (sm [] _ _ rfl rfl)
      ·refine Ap rfl (fun c15 => ?_) (fun c15 => ?_)
       ·have h := An c15 h
        refine Aa Ac rfl (qm rfl (Nv rfl (qf CM rfl (ql G5 rfl (qm rfl ?_)))))
        obtain ⟨v16, a16, b16, h⟩ := Ak h
        refine qI Dj FW a16 (Af b16) rfl (qj JZ (Af b16) rfl (qf Ha rfl (ql Cz rfl ?_)))
        obtain ⟨c17, h⟩ := Ba h
        refine Ir rfl c17 (Ug rfl ?_)
        obtain ⟨v18, a18, b18, h⟩ := Ak h
        refine qI Dj FW a18 (Af b18) rfl ?_
        refine AX rfl rfl rfl rfl (Af b18) rfl FW rfl (A5 rfl) (AW Bw v7.1 _ ((Oi .u8 v16 ((CF .u8 1 p2.fVersion))))) ?_
        refine AC (by kernel_rfl) ?_
        exact As _ h (sm [] _ _ rfl rfl)
       ·have h := Ao c15 h
        refine Aq ?_
        exact As _ h (sm [] _ _ rfl rfl)
     ·refine Aa Ac rfl (AP rfl (qm rfl (Ae ?_)))
      exact As _ h (sm [] _ _ rfl rfl)
    ·have h := Ao c9 h
     refine AQ ?_
     exact As _ h (sm [] _ _ rfl rfl)
   ·refine Am hs (Ab (Aa Ac rfl (qa rfl (Ae ?_))))
    obtain rfl := sj h
    refine Am (sm [] [(6, bD true)] [(90000, .box [.own 90001, .own 90002, .own 90003]), (90001, .vec 1 (p1.fBase.map Al)), (90002, .vec 1 ((p1.fNext.set ((p2.fIndex).toNat) p2.fVersion).map Al)), (90003, .vec 1 (v8.map Bw))] rfl rfl) (AA ?_)
    exact ⟨⟨[_], ⟨.tmp _ _ rfl, tv⟩, rfl⟩, ⟨rfl, rfl, rfl, rfl, tv⟩, tv⟩
theorem Ny (N : Nat) (p0 : Ag) (p1 : Int) (r : Int) (h : F0 N p0 p1 = some r) : AD Tryz.prog 157 [.e (.agg [sC (p0.fBase.map Al), sC (p0.fNext.map Al), sC (p0.fHeld.map Bw)]), iD p1] [] (pD (.val (.int .u8 r))) := by
 unfold F0 at h
 refine Au (n := 27) (rs := [.tmp 4]) Tryz.func157 rfl rfl rfl (A5 rfl) (A5 rfl) rfl fun w0 S0 => ?_
 refine Ab (Aa Ac rfl (qb rfl (qa rfl (Ae (Ab (Aa Ac rfl (qf CO rfl (ql Bs rfl (qm rfl ?_)))))))))
 obtain ⟨v1, a1, b1, h⟩ := Ak h
 refine qi AN DJ a1 (Af b1) rfl (qk Cz rfl ?_)
 obtain ⟨c2, h⟩ := Ba h
 refine Ir rfl c2 (qa rfl (Ae ?_))
 refine AL h (fun v3 => mk [(5, pD (.val (.int .u8 v3)))] []) (fun j3 h => ?_) (fun v3 h => ?_)
 ·refine Ab (Aa Ac rfl (qf BK rfl (ql Bs rfl (qm rfl ?_))))
  obtain ⟨v4, a4, b4, h⟩ := Ak h
  refine qi AN DJ a4 (Af b4) rfl (qk Cz rfl (Cv rfl (Ae ?_)))
  refine Ap rfl (fun c5 => ?_) (fun c5 => ?_)
  ·have h := An c5 h
   refine Aa Ac rfl (qm rfl (qf BK rfl (ql Bs rfl (qm rfl ?_))))
   obtain ⟨v6, a6, b6, h⟩ := Ak h
   refine qi AN DJ a6 (Af b6) rfl (qk Cz rfl ?_)
   obtain ⟨c7, h⟩ := Ba h
   refine Ir rfl c7 (Ug rfl (qa rfl (Ae ?_)))
   exact As _ h (sm [] _ _ rfl rfl)
  ·have h := Ao c5 h
   refine Aq ?_
   exact As _ h (sm [] _ _ rfl rfl)
 ·refine Ab (Aa Ac rfl (qm rfl (qa rfl (Ae ?_))))
  obtain rfl := sj h
  refine Am (sm [] [(4, pD (.val (.int .u8 v3)))] [] rfl rfl) (AA ?_)
  exact ⟨⟨[_], ⟨.tmp _ _ rfl, tv⟩, rfl⟩, tv⟩
theorem I3 (N : Nat) (p0 : Int) (r : Int) (h : C3 N p0 = some r) : AD Tryz.prog 169 [pD (.val (.int .u8 p0))] [] (iD r) := by
 unfold C3 at h
 refine Au (n := 6) (rs := [.tmp 2]) Tryz.func169 rfl rfl rfl (A5 rfl) (A5 rfl) rfl fun w0 S0 => ?_
 refine Ab (Aa Ac rfl (qa rfl (Ae (Ab (Aa Ac rfl (qm rfl ?_))))))
 obtain ⟨v1, a1, h⟩ := bind_some h
 refine Mp (.p rfl) rfl rfl Vw a1 ?_
 refine HI ZI Wp rfl (qa rfl (Ae ?_))
 obtain rfl := sj h
 refine Am (sm [] [(2, iD ((wI .i64 v1)))] [] rfl rfl) (AA ?_)
 exact ⟨⟨[_], ⟨.tmp _ _ rfl, tv⟩, rfl⟩, tv⟩
theorem L4 (N : Nat) (p0 : AV) (p1 : Int) (p2 : Int) (r : Bool) (h : FF N p0 p1 p2 = some r) : AD Tryz.prog 158 [.e (.agg [iC p0.fKind, iC p0.fFrom, iC p0.fTo, .pure (.val (.bool p0.fAware)), sC (p0.fOK.map (Fe eB)), sC (p0.fRewrite.map (Fe eB))]), pD (.val (.int .u8 p1)), iD p2] [] (bD r) := by
 unfold FF at h
 refine Au (n := 25) (rs := [.tmp 6]) Tryz.func158 rfl rfl rfl (A5 rfl) (A5 rfl) rfl fun w0 S0 => ?_
 refine Ab (Aa Ac rfl (qb rfl (qa rfl (Ae (Ab (Ab (Aa Ac rfl (qm rfl (qa rfl (Ae ?_))))))))))
 refine AE (L := Dy N p0 p2) h (fun v1 => mk [(2, iD p2), (3, oD (.ptr 3 0)), (7, pD (.val (.int .u8 v1)))] [(3, .box [iC p0.fKind, iC p0.fFrom, iC p0.fTo, .pure (.val (.bool p0.fAware)), sC (p0.fOK.map (Fe eB)), sC (p0.fRewrite.map (Fe eB))])]) (fun v2 => mk [] []) (fun _ _ => rfl) (sm [] _ _ rfl rfl) (fun j1 n1 v1 h => ?_) (fun v2 s h hs => ?_)
 ·unfold Dy at h
  refine Ab (Ab (Aa Ac rfl (qm rfl (BP rfl (Ae ?_)))))
  refine Ap rfl (fun c3 => ?_) (fun c3 => ?_)
  ·have h := An c3 h
   refine Aq (Ab (AJ (Ab (Aa Ac rfl (qf Ge rfl (ql IP rfl (qm rfl ?_)))))))
   obtain ⟨v4, a4, h⟩ := bind_some h
   refine AG [] (I3 N v1 v4 a4) Xj rfl ?_
   obtain ⟨v5, a5, b5, h⟩ := Ak h
   refine qi F1 MZ a5 (Af b5) rfl (qk Ns rfl (qm rfl ?_))
   obtain ⟨v6, a6, b6, h⟩ := Ak h
   refine qi Ji VM a6 (Af b6) rfl (qk SI rfl (BS rfl (AC (by kernel_rfl) ?_)))
   refine Ap rfl (fun c7 => ?_) (fun c7 => ?_)
   ·have h := An c7 h
    refine Ab (Aa Ac rfl (qa rfl (Ae ?_)))
    obtain rfl := sj h
    refine Am (sm [] [(6, bD false)] [] rfl rfl) (AA ?_)
    exact ⟨⟨[_], ⟨.tmp _ _ rfl, tv⟩, rfl⟩, tv⟩
   ·have h := Ao c7 h
    refine Aq (Aa Ac rfl (qm rfl (qm rfl (Bm rfl (K8 rfl (qa rfl (Ae ?_)))))))
    exact As _ h (sm [] _ _ rfl rfl)
  ·have h := Ao c3 h
   refine AQ ?_
   exact As _ h (sm [] _ _ rfl rfl)
 ·refine Am hs (Ab (Aa Ac rfl (qa rfl (Ae ?_))))
  obtain rfl := sj h
  refine Am (sm [] [(6, bD true)] [] rfl rfl) (AA ?_)
  exact ⟨⟨[_], ⟨.tmp _ _ rfl, tv⟩, rfl⟩, tv⟩
end Go.Lift
