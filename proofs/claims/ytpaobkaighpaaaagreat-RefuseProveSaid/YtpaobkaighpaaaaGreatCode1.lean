/- Lemmas for RefuseProveSaid, which YtpaobkaighpaaaaGreatFinR3 proves. -/
import Derived.Test.YtpaobkaighpaaaaGreatTypes
import Derived.Test.YtpaobkaighpaaaaGreatProg
import Derived.KernelRfl
namespace Go.Lift
open IntKind renaming wrap → wI
def Es (_ : Nat) (p0 : List Int) (p1 : Int) : Option Int :=
 AW ((decide (p1 < (p0.length : Int))))
  ((Bg p0 p1).bind fun v2 =>
  some ((wI .i64 v2)))
  (some 0)
def Bq (_ : Nat) (p0 : AQ) : Option Bool :=
 Bh (fun (v1 : Bool) =>
  some v1)
 fun j1 =>
 AW ((p0.fg == 3))
  (j1 true)
  (j1 (p0.fg == 4))
def CC (N : Nat) (p1 : Int) (p2 : Int) (p3 : Bool) (v1 : (List (List Bool)) × Int) (j4 : ((List Bool)) → Option ((List (List Bool)))) : Nat → ((List Bool) × Int) → Option ((List (List Bool)))
 | 0, _ => none
 | n4 + 1, v4 =>
  AW ((decide (v4.2 < p1)))
   (Bh (fun (v7 : (List Bool)) =>
    CC N p1 p2 p3 v1 j4 n4 (v7, (wI .i64 (v4.2 + 1))))
   fun j7 =>
   AW p3
    (AW ((v1.2 == v4.2))
     ((EB (v4.1.length + (([true] : List Bool)).length ≤ Eg)).bind fun _ =>
     j7 (v4.1 ++ (([true] : List Bool))))
     ((EB (0 ≤ (wI .i64 ((wI .i64 (3 * v1.2)) + v4.2)))).bind fun _ =>
     (EB (v4.1.length + (([((Int.tmod ((Eh .u16 p2 ((wI .i64 ((wI .i64 (3 * v1.2)) + v4.2))))) 2) == 0)] : List Bool)).length ≤ Eg)).bind fun _ =>
     j7 (v4.1 ++ (([((Int.tmod ((Eh .u16 p2 ((wI .i64 ((wI .i64 (3 * v1.2)) + v4.2))))) 2) == 0)] : List Bool)))))
    ((EB (0 ≤ (wI .i64 ((wI .i64 (3 * v1.2)) + v4.2)))).bind fun _ =>
    (EB (v4.1.length + (([((Int.tmod ((Eh .u16 p2 ((wI .i64 ((wI .i64 (3 * v1.2)) + v4.2))))) 2) == 0)] : List Bool)).length ≤ Eg)).bind fun _ =>
    j7 (v4.1 ++ (([((Int.tmod ((Eh .u16 p2 ((wI .i64 ((wI .i64 (3 * v1.2)) + v4.2))))) 2) == 0)] : List Bool)))))
   (j4 v4.1)
def CB (N : Nat) (p0 : Int) (p1 : Int) (p2 : Int) (p3 : Bool) (j1 : ((List (List Bool))) → Option ((List (List Bool)))) : Nat → ((List (List Bool)) × Int) → Option ((List (List Bool)))
 | 0, _ => none
 | n1 + 1, v1 =>
  AW ((decide (v1.2 < p0)))
   (CC N p1 p2 p3 v1 (fun (v5 : (List Bool)) =>
    (EB (v1.1.length + (([v5] : List (List Bool))).length ≤ Eg)).bind fun _ =>
    CB N p0 p1 p2 p3 j1 n1 (v1.1 ++ (([v5] : List (List Bool))), (wI .i64 (v1.2 + 1)))) N (([] : List Bool), 0))
   (j1 v1.1)
def Et (N : Nat) (p0 : Int) (p1 : Int) (p2 : Int) (p3 : Bool) : Option ((List (List Bool))) :=
 CB N p0 p1 p2 p3 (fun (v2 : (List (List Bool))) =>
  some v2) N (([] : List (List Bool)), 0)
def C4 (N : Nat) (p0 : B5) (j4 : ((List Int) × (List Int) × (List Int)) → Option (Ah × Bool)) : Nat → ((List Int) × (List Int) × (List Int) × Int) → Option (Ah × Bool)
 | 0, _ => none
 | n4 + 1, v4 =>
  AW ((decide (v4.2.2.2 < (p0.fb.length : Int))))
   ((Bg p0.fb v4.2.2.2).bind fun v7 =>
   (EB (v4.1.length + (([(wI .i64 (1 + (wI .i64 ((Int.tmod v7 3)))))] : List Int)).length ≤ Eg)).bind fun _ =>
   (Es N p0.ff v4.2.2.2).bind fun v9 =>
   (EB ((wI .i64 (1 + (wI .i64 ((Int.tmod v7 3))))) ≠ 0)).bind fun _ =>
   (EB (v4.2.1.length + (([(Int.tmod v9 ((wI .i64 (1 + (wI .i64 ((Int.tmod v7 3)))))))] : List Int)).length ≤ Eg)).bind fun _ =>
   (Es N p0.fh v4.2.2.2).bind fun v12 =>
   (EB ((wI .i64 (1 + (wI .i64 ((Int.tmod v7 3))))) ≠ 0)).bind fun _ =>
   (EB (v4.2.2.1.length + (([(Int.tmod v12 ((wI .i64 (1 + (wI .i64 ((Int.tmod v7 3)))))))] : List Int)).length ≤ Eg)).bind fun _ =>
   C4 N p0 j4 n4 (v4.1 ++ (([(wI .i64 (1 + (wI .i64 ((Int.tmod v7 3)))))] : List Int)), v4.2.1 ++ (([(Int.tmod v9 ((wI .i64 (1 + (wI .i64 ((Int.tmod v7 3)))))))] : List Int)), v4.2.2.1 ++ (([(Int.tmod v12 ((wI .i64 (1 + (wI .i64 ((Int.tmod v7 3)))))))] : List Int)), (wI .i64 (v4.2.2.2 + 1))))
   (j4 (v4.1, v4.2.1, v4.2.2.1))
def BQ (N : Nat) (p0 : B5) (v5 : (List Int) × (List Int) × (List Int)) (j15 : ((List AQ)) → Option (Ah × Bool)) : Nat → ((List AQ) × Int) → Option (Ah × Bool)
 | 0, _ => none
 | n15 + 1, v15 =>
  Bh (fun (v17 : Bool) =>
   AW v17
    ((Bg p0.fv v15.2).bind fun v20 =>
    (EB ((v5.1.length : Int) ≠ 0)).bind fun _ =>
    (EB ((v5.1.length : Int) ≠ 0)).bind fun _ =>
    Bh (fun (v23 : Bool) =>
     (Bg v5.1 ((Int.tmod ((wI .i64 v20.fi)) ((v5.1.length : Int))))).bind fun v26 =>
     (Bg v5.1 ((Int.tmod ((wI .i64 v20.fk)) ((v5.1.length : Int))))).bind fun v27 =>
     (Et N v26 v27 v20.fA false).bind fun v28 =>
     Bh (fun (v29 : (List (List Bool))) =>
      (EB (v15.1.length + (([(AQ.mk ((wI .i64 (1 + (wI .i64 ((Int.tmod v20.fg 4)))))) ((Int.tmod ((wI .i64 v20.fi)) ((v5.1.length : Int)))) ((Int.tmod ((wI .i64 v20.fk)) ((v5.1.length : Int)))) v23 v28 v29)] : List AQ)).length ≤ Eg)).bind fun _ =>
      BQ N p0 v5 j15 n15 (v15.1 ++ (([(AQ.mk ((wI .i64 (1 + (wI .i64 ((Int.tmod v20.fg 4)))))) ((Int.tmod ((wI .i64 v20.fi)) ((v5.1.length : Int)))) ((Int.tmod ((wI .i64 v20.fk)) ((v5.1.length : Int)))) v23 v28 v29)] : List AQ)), (wI .i64 (v15.2 + 1))))
     fun j29 =>
     AW (((wI .i64 (1 + (wI .i64 ((Int.tmod v20.fg 4))))) == 4))
      ((Bg v5.1 ((Int.tmod ((wI .i64 v20.fi)) ((v5.1.length : Int))))).bind fun v31 =>
      (Bg v5.1 ((Int.tmod ((wI .i64 v20.fi)) ((v5.1.length : Int))))).bind fun v32 =>
      (Et N v31 v32 v20.fB true).bind fun v33 =>
      j29 v33)
      (j29 ([] : List (List Bool))))
    fun j23 =>
    AW v20.fp
     ((Bq N ((AQ.mk ((wI .i64 (1 + (wI .i64 ((Int.tmod v20.fg 4)))))) ((Int.tmod ((wI .i64 v20.fi)) ((v5.1.length : Int)))) ((Int.tmod ((wI .i64 v20.fk)) ((v5.1.length : Int)))) false (([] : List (List Bool))) (([] : List (List Bool)))))).bind fun v25 =>
     j23 (!v25))
     (j23 false))
    (j15 v15.1))
  fun j17 =>
  AW ((decide (v15.2 < (p0.fv.length : Int))))
   (j17 (decide (0 < (v5.1.length : Int))))
   (j17 false)
def FH (N : Nat) (p0 : B5) : Option (Ah × Bool) :=
 Bh (fun (v1 : Bool) =>
  AW v1
   (some ((Ah.mk (([] : List Int)) (([] : List Int)) (([] : List Int)) (([] : List AQ))), false))
   (C4 N p0 (fun (v5 : (List Int) × (List Int) × (List Int)) =>
    BQ N p0 v5 (fun (v16 : (List AQ)) =>
     some ((Ah.mk v5.1 v5.2.1 v5.2.2 v16), true)) N (([] : List AQ), 0)) N (([] : List Int), ([] : List Int), ([] : List Int), 0)))
 fun j1 =>
 AW ((decide (3 < (p0.fb.length : Int))))
  (j1 true)
  (j1 (decide (4 < (p0.fv.length : Int))))
def CN (N : Nat) (p0 : List (List Bool)) (p1 : Int) (p2 : Int) (j2 : Unit → Option Bool) : Nat → Int → Option Bool
 | 0, _ => none
 | n2 + 1, v2 =>
  AW ((decide (v2 < p1)))
   ((Bg p0 v2).bind fun v5 =>
   AW (((v5.length : Int) != p2))
    (some false)
    (CN N p0 p1 p2 j2 n2 (wI .i64 (v2 + 1))))
   (j2 ())
def DR (N : Nat) (p0 : List (List Bool)) (p1 : Int) (p2 : Int) : Option Bool :=
 AW (((p0.length : Int) != p1))
  (some false)
  (CN N p0 p1 p2 (fun (_ : Unit) =>
   some true) N 0)
def Ci (N : Nat) (p1 : AQ) (j22 : Unit → Option Int) : Nat → Int → Option Int
 | 0, _ => none
 | n22 + 1, v22 =>
  AW ((decide (v22 < (p1.fm.length : Int))))
   ((Bg p1.fm v22).bind fun v25 =>
   (Bg v25 v22).bind fun v26 =>
   AW ((!v26))
    (some 1)
    (Ci N p1 j22 n22 (wI .i64 (v22 + 1))))
   (j22 ())
def EZ (N : Nat) (p0 : Ah) (p1 : AQ) : Option Int :=
 Bh (fun (v1 : Bool) =>
  AW v1
   (some 1)
   (Bh (fun (v7 : Bool) =>
    AW v7
     (some 4)
     ((Bg p0.fb p1.fi).bind fun v12 =>
     (Bg p0.fb p1.fk).bind fun v13 =>
     (DR N p1.fq v12 v13).bind fun v14 =>
     AW ((!v14))
      (some 6)
      (AW ((p1.fg != 4))
       (AW (((p1.fm.length : Int) != 0))
        (some 6)
        (some 0))
       ((Bg p0.fb p1.fi).bind fun v18 =>
       (Bg p0.fb p1.fi).bind fun v19 =>
       (DR N p1.fm v18 v19).bind fun v20 =>
       AW ((!v20))
        (some 6)
        (Ci N p1 (fun (_ : Unit) =>
         some 0) N 0)))))
   fun j7 =>
   AW ((decide (p1.fi < 0)))
    (j7 true)
    (AW ((decide ((p0.fb.length : Int) ≤ p1.fi)))
     (j7 true)
     (AW ((decide (p1.fk < 0)))
      (j7 true)
      (j7 (decide ((p0.fb.length : Int) ≤ p1.fk)))))))
 fun j1 =>
 AW ((decide (p1.fg < 1)))
  (j1 true)
  (AW ((decide (4 < p1.fg)))
   (j1 true)
   (AW p1.fp
    ((Bq N p1).bind fun v5 =>
    j1 v5)
    (j1 false)))
def By (N : Nat) (p0 : Ah) (j7 : Unit → Option Int) : Nat → Int → Option Int
 | 0, _ => none
 | n7 + 1, v7 =>
  AW ((decide (v7 < (p0.fb.length : Int))))
   ((Bg p0.fb v7).bind fun v10 =>
   Bh (fun (v11 : Bool) =>
    AW v11
     (some 7)
     (By N p0 j7 n7 (wI .i64 (v7 + 1))))
   fun j11 =>
   AW ((decide (v10 < 1)))
    (j11 true)
    (AW ((decide (6 < v10)))
     (j11 true)
     ((Bg p0.ff v7).bind fun v14 =>
     AW ((decide (v14 < 0)))
      (j11 true)
      ((Bg p0.ff v7).bind fun v16 =>
      AW ((decide (v10 ≤ v16)))
       (j11 true)
       ((Bg p0.fh v7).bind fun v18 =>
       AW ((decide (v18 < 0)))
        (j11 true)
        ((Bg p0.fh v7).bind fun v20 =>
        j11 (decide (v10 ≤ v20))))))))
   (j7 ())
def Bt (N : Nat) (p0 : Ah) (j22 : Unit → Option Int) : Nat → Int → Option Int
 | 0, _ => none
 | n22 + 1, v22 =>
  AW ((decide (v22 < (p0.fc.length : Int))))
   ((Bg p0.fc v22).bind fun v25 =>
   (EZ N p0 v25).bind fun v26 =>
   AW ((v26 != 0))
    (some v26)
    (Bt N p0 j22 n22 (wI .i64 (v22 + 1))))
   (j22 ())
def CP (N : Nat) (p0 : Ah) : Option Int :=
 Bh (fun (v1 : Bool) =>
  AW v1
   (some 3)
   (Bh (fun (v4 : Bool) =>
    AW v4
     (some 6)
     (By N p0 (fun (_ : Unit) =>
      Bt N p0 (fun (_ : Unit) =>
       some 0) N 0) N 0))
   fun j4 =>
   AW (((p0.ff.length : Int) != (p0.fb.length : Int)))
    (j4 true)
    (j4 ((p0.fh.length : Int) != (p0.fb.length : Int)))))
 fun j1 =>
 AW ((decide (6 < (p0.fb.length : Int))))
  (j1 true)
  (j1 (decide (12 < (p0.fc.length : Int))))
def Ct (N : Nat) (p0 : Ah) (j3 : ((List Int) × (List Int)) → Option (Af × Int)) : Nat → ((List Int) × (List Int) × Int) → Option (Af × Int)
 | 0, _ => none
 | n3 + 1, v3 =>
  AW ((decide (v3.2.2 < (p0.fb.length : Int))))
   ((Bg p0.ff v3.2.2).bind fun v6 =>
   (EB (v3.1.length + (([v6] : List Int)).length ≤ Eg)).bind fun _ =>
   (EB (v3.2.1.length + (([(-1)] : List Int)).length ≤ Eg)).bind fun _ =>
   Ct N p0 j3 n3 (v3.1 ++ (([v6] : List Int)), v3.2.1 ++ (([(-1)] : List Int)), (wI .i64 (v3.2.2 + 1))))
   (j3 (v3.1, v3.2.1))
def Bv (N : Nat) (p0 : Ah) (j9 : ((List Int)) → Option (Af × Int)) : Nat → ((List Int) × Int) → Option (Af × Int)
 | 0, _ => none
 | n9 + 1, v9 =>
  AW ((decide (v9.2 < (p0.fc.length : Int))))
   (Bh (fun (v12 : Int) =>
    (EB (v9.1.length + (([v12] : List Int)).length ≤ Eg)).bind fun _ =>
    Bv N p0 j9 n9 (v9.1 ++ (([v12] : List Int)), (wI .i64 (v9.2 + 1))))
   fun j12 =>
   (Bg p0.fc v9.2).bind fun v13 =>
   (Bq N v13).bind fun v14 =>
   AW v14
    ((Bg p0.fc v9.2).bind fun v16 =>
    (Bg p0.ff v16.fi).bind fun v17 =>
    (EB (0 ≤ v17)).bind fun _ =>
    j12 (CJ .u8 1 v17))
    (j12 0))
   (j9 v9.1)
def EQ (N : Nat) (p0 : Ah) : Option (Af × Int) :=
 (CP N p0).bind fun v1 =>
 AW ((v1 != 0))
  (some ((Af.mk (([] : List Int)) (([] : List Int)) (([] : List Int))), v1))
  (Ct N p0 (fun (v4 : (List Int) × (List Int)) =>
   Bv N p0 (fun (v10 : (List Int)) =>
    some ((Af.mk v4.1 v4.2 v10), 0)) N (([] : List Int), 0)) N (([] : List Int), ([] : List Int), 0))
def EC (_ : Nat) (p0 : Af) : Option Af :=
 (EB ((([] : List Int)).length + p0.fd.length ≤ Eg)).bind fun _ =>
 (EB ((([] : List Int)).length + p0.fa.length ≤ Eg)).bind fun _ =>
 (EB ((([] : List Int)).length + p0.fe.length ≤ Eg)).bind fun _ =>
 some ((Af.mk ((([] : List Int)) ++ p0.fd) ((([] : List Int)) ++ p0.fa) ((([] : List Int)) ++ p0.fe)))
def CT (N : Nat) (p0 : Af) (j1 : Int → Option ((List Af))) : Nat → (Int × Int) → Option ((List Af))
 | 0, _ => none
 | n1 + 1, v1 =>
  AW ((decide (v1.2 < (p0.fa.length : Int))))
   (Bh (fun (v4 : Int) =>
    CT N p0 j1 n1 (v4, (wI .i64 (v1.2 + 1))))
   fun j4 =>
   (Bg p0.fa v1.2).bind fun v5 =>
   AW ((decide (0 ≤ v5)))
    (j4 (wI .i64 (v1.1 + 1)))
    (j4 v1.1))
   (j1 v1.1)
def Cd (N : Nat) (p0 : Af) (v7 : (List Af) × Int) (j12 : ((List Int)) → Option ((List Af))) : Nat → ((List Int) × Int × Int) → Option ((List Af))
 | 0, _ => none
 | n12 + 1, v12 =>
  AW ((decide (v12.2.2 < (p0.fa.length : Int))))
   (Bh (fun (v15 : (List Int) × Int) =>
    Cd N p0 v7 j12 n12 (v15.1, v15.2, (wI .i64 (v12.2.2 + 1))))
   fun j15 =>
   (Bg p0.fa v12.2.2).bind fun v16 =>
   AW ((decide (v16 < 0)))
    (j15 (v12.1, v12.2.1))
    (Bh (fun (v18 : (List Int)) =>
     j15 (v18, (wI .i64 (v12.2.1 + 1))))
    fun j18 =>
    (EB (0 ≤ v12.2.1)).bind fun _ =>
    AW (((Int.tmod ((Eh .i64 v7.2 v12.2.1)) 2) == 1))
     ((Bg v12.1 v12.2.2).bind fun _ =>
     j18 (v12.1.set ((v12.2.2).toNat) ((-1))))
     (j18 v12.1)))
   (j12 v12.1)
def BP (N : Nat) (p0 : Af) (v2 : Int) (j7 : ((List Af)) → Option ((List Af))) : Nat → ((List Af) × Int) → Option ((List Af))
 | 0, _ => none
 | n7 + 1, v7 =>
  (EB (0 ≤ v2)).bind fun _ =>
  AW ((decide (v7.2 < (CJ .i64 1 v2))))
   ((EC N p0).bind fun v11 =>
   Cd N p0 v7 (fun (v13 : (List Int)) =>
    (EB (v7.1.length + (([(Af.mk v11.fd v13 v11.fe)] : List Af)).length ≤ Eg)).bind fun _ =>
    BP N p0 v2 j7 n7 (v7.1 ++ (([(Af.mk v11.fd v13 v11.fe)] : List Af)), (wI .i64 (v7.2 + 1)))) N (v11.fa, 0, 0))
   (j7 v7.1)
def EI (N : Nat) (p0 : Af) : Option ((List Af)) :=
 CT N p0 (fun (v2 : Int) =>
  BP N p0 v2 (fun (v8 : (List Af)) =>
   some v8) N (([] : List Af), 0)) N (0, 0)
def Cc (_ : Nat) (p0 : Af) (p1 : Int) : Option Int :=
 (Bg p0.fd p1).bind fun v1 =>
 (EB (0 ≤ v1)).bind fun _ =>
 Bh (fun (v3 : Int) =>
  some v3)
 fun j3 =>
 (Bg p0.fa p1).bind fun v4 =>
 AW ((decide (0 ≤ v4)))
  ((Bg p0.fa p1).bind fun v6 =>
  (EB (0 ≤ v6)).bind fun _ =>
  j3 (Pa .u8 ((CJ .u8 1 v1)) ((CJ .u8 1 v6))))
  (j3 (CJ .u8 1 v1))
def CL (_ : Nat) (p0 : Int) (p1 : Int) : Option Bool :=
 (EB (0 ≤ p1)).bind fun _ =>
 some (((Gf .u8 ((Eh .u8 p0 p1)) 1) == 1))
def BC (N : Nat) (p0 : Ah) (p1 : Af) (v1 : (List Al) × Int) (v4 : AQ) (v10 : (List Al) × Int) (j17 : ((List Al) × Bool) → Option ((List Al))) : Nat → ((List Al) × Bool × Int) → Option ((List Al))
 | 0, _ => none
 | n17 + 1, v17 =>
  (Bg p0.fb v4.fk).bind fun v19 =>
  AW ((decide (v17.2.2 < v19)))
   (Bh (fun (v21 : (List Al) × Bool) =>
    BC N p0 p1 v1 v4 v10 j17 n17 (v21.1, v21.2, (wI .i64 (v17.2.2 + 1))))
   fun j21 =>
   (Cc N p1 v4.fk).bind fun v22 =>
   (CL N v22 v17.2.2).bind fun v23 =>
   AW ((!v23))
    (j21 (v17.1, v17.2.1))
    (Bh (fun (v25 : Bool) =>
     Bh (fun (v29 : Bool) =>
      AW v29
       ((EB (v17.1.length + (([(Al.mk v1.2 v10.2 v17.2.2)] : List Al)).length ≤ Eg)).bind fun _ =>
       j21 (v17.1 ++ (([(Al.mk v1.2 v10.2 v17.2.2)] : List Al)), v25))
       (j21 (v17.1, v25)))
     fun j29 =>
     AW ((!v4.fp))
      ((Bg v4.fq v10.2).bind fun v31 =>
      (Bg v31 v17.2.2).bind fun v32 =>
      j29 (!v32))
      (j29 false))
    fun j25 =>
    AW v17.2.1
     (j25 true)
     ((Bg v4.fq v10.2).bind fun v27 =>
     (Bg v27 v17.2.2).bind fun v28 =>
     j25 v28)))
   (j17 (v17.1, v17.2.1))
def BY (N : Nat) (p0 : Ah) (p1 : Af) (v1 : (List Al) × Int) (v4 : AQ) (v6 : Int) (j10 : ((List Al)) → Option ((List Al))) : Nat → ((List Al) × Int) → Option ((List Al))
 | 0, _ => none
 | n10 + 1, v10 =>
  (Bg p0.fb v4.fi).bind fun v12 =>
  AW ((decide (v10.2 < v12)))
   (Bh (fun (v14 : (List Al)) =>
    BY N p0 p1 v1 v4 v6 j10 n10 (v14, (wI .i64 (v10.2 + 1))))
   fun j14 =>
   (CL N v6 v10.2).bind fun v15 =>
   AW ((!v15))
    (j14 v10.1)
    (BC N p0 p1 v1 v4 v10 (fun (v18 : (List Al) × Bool) =>
     Bh (fun (v35 : Bool) =>
      AW v35
       ((EB (v18.1.length + (([(Al.mk v1.2 v10.2 ((-1)))] : List Al)).length ≤ Eg)).bind fun _ =>
       j14 (v18.1 ++ (([(Al.mk v1.2 v10.2 ((-1)))] : List Al))))
       (j14 v18.1))
     fun j35 =>
     AW v4.fp
      (j35 (!v18.2))
      (j35 false)) N (v10.1, false, 0)))
   (j10 v10.1)
def CW (N : Nat) (p0 : Ah) (p1 : Af) (j1 : ((List Al)) → Option ((List Al))) : Nat → ((List Al) × Int) → Option ((List Al))
 | 0, _ => none
 | n1 + 1, v1 =>
  AW ((decide (v1.2 < (p0.fc.length : Int))))
   ((Bg p0.fc v1.2).bind fun v4 =>
   (Cc N p1 v4.fi).bind fun v5 =>
   Bh (fun (v6 : Int) =>
    BY N p0 p1 v1 v4 v6 (fun (v11 : (List Al)) =>
     CW N p0 p1 j1 n1 (v11, (wI .i64 (v1.2 + 1)))) N (v1.1, 0))
   fun j6 =>
   (Bq N v4).bind fun v7 =>
   AW v7
    ((Bg p1.fe v1.2).bind fun v9 =>
    j6 v9)
    (j6 v5))
   (j1 v1.1)
def E0 (N : Nat) (p0 : Ah) (p1 : Af) : Option ((List Al)) :=
 CW N p0 p1 (fun (v2 : (List Al)) =>
  some v2) N (([] : List Al), 0)
def ED (N : Nat) (p0 : Ah) (p1 : Af) : Option Bool :=
 (E0 N p0 p1).bind fun v1 =>
 some (((v1.length : Int) == 0))
def Cn (N : Nat) (p0 : Ah) (v1 : (List Af)) (j2 : Unit → Option Bool) : Nat → Int → Option Bool
 | 0, _ => none
 | n2 + 1, v2 =>
  AW ((decide (v2 < (v1.length : Int))))
   ((Bg v1 v2).bind fun v5 =>
   (ED N p0 v5).bind fun v6 =>
   AW ((!v6))
    (some false)
    (Cn N p0 v1 j2 n2 (wI .i64 (v2 + 1))))
   (j2 ())
def Dt (N : Nat) (p0 : Ah) (p1 : Af) : Option Bool :=
 (EI N p1).bind fun v1 =>
 Cn N p0 v1 (fun (_ : Unit) =>
  some true) N 0
def Cu (N : Nat) (p0 : Ah) (p1 : Af) (j7 : Unit → Option Int) : Nat → Int → Option Int
 | 0, _ => none
 | n7 + 1, v7 =>
  AW ((decide (v7 < (p0.fb.length : Int))))
   (Bh (fun (v10 : Bool) =>
    AW v10
     (some 7)
     ((Bg p1.fd v7).bind fun v21 =>
     (Bg p1.fa v7).bind fun v22 =>
     AW ((v21 == v22))
      (some 1)
      (Cu N p0 p1 j7 n7 (wI .i64 (v7 + 1)))))
   fun j10 =>
   (Bg p1.fd v7).bind fun v11 =>
   AW ((decide (v11 < 0)))
    (j10 true)
    ((Bg p1.fd v7).bind fun v13 =>
    (Bg p0.fb v7).bind fun v14 =>
    AW ((decide (v14 ≤ v13)))
     (j10 true)
     ((Bg p1.fa v7).bind fun v16 =>
     AW ((decide (v16 < (-1))))
      (j10 true)
      ((Bg p1.fa v7).bind fun v18 =>
      (Bg p0.fb v7).bind fun v19 =>
      j10 (decide (v19 ≤ v18))))))
   (j7 ())
def Ch (N : Nat) (p0 : Ah) (p1 : Af) (j24 : Unit → Option Int) : Nat → Int → Option Int
 | 0, _ => none
 | n24 + 1, v24 =>
  AW ((decide (v24 < (p0.fc.length : Int))))
   ((Bg p0.fc v24).bind fun v27 =>
   (Bg p0.fb v27.fi).bind fun v28 =>
   (EB (0 ≤ v28)).bind fun _ =>
   Bh (fun (v30 : Bool) =>
    AW v30
     (some 1)
     (Ch N p0 p1 j24 n24 (wI .i64 (v24 + 1))))
   fun j30 =>
   (Bq N v27).bind fun v31 =>
   AW ((!v31))
    ((Bg p1.fe v24).bind fun v33 =>
    AW ((v33 != 0))
     (j30 true)
     ((Bq N v27).bind fun v35 =>
     AW v35
      ((Bg p1.fe v24).bind fun v37 =>
      AW (((DF .u8 v37 ((wI .u8 ((CJ .u8 1 v28) - 1)))) != 0))
       (j30 true)
       ((Cc N p1 v27.fi).bind fun v39 =>
       (Bg p1.fe v24).bind fun v40 =>
       j30 ((DF .u8 v39 v40) != 0)))
      (j30 false)))
    ((Bq N v27).bind fun v41 =>
    AW v41
     ((Bg p1.fe v24).bind fun v43 =>
     AW (((DF .u8 v43 ((wI .u8 ((CJ .u8 1 v28) - 1)))) != 0))
      (j30 true)
      ((Cc N p1 v27.fi).bind fun v45 =>
      (Bg p1.fe v24).bind fun v46 =>
      j30 ((DF .u8 v45 v46) != 0)))
     (j30 false)))
   (j24 ())
def D5 (N : Nat) (p0 : Ah) (p1 : Af) : Option Int :=
 (CP N p0).bind fun v1 =>
 AW ((v1 != 0))
  (some v1)
  (Bh (fun (v3 : Bool) =>
   AW v3
    (some 6)
    (Cu N p0 p1 (fun (_ : Unit) =>
     Ch N p0 p1 (fun (_ : Unit) =>
      some 0) N 0) N 0))
  fun j3 =>
  AW (((p1.fd.length : Int) != (p0.fb.length : Int)))
   (j3 true)
   (AW (((p1.fa.length : Int) != (p0.fb.length : Int)))
    (j3 true)
    (j3 ((p1.fe.length : Int) != (p0.fc.length : Int)))))
def ES (_ : Nat) (p0 : As) : Option Bool :=
 Bh (fun (v1 : Bool) =>
  some v1)
 fun j1 =>
 AW ((decide (1 ≤ p0.fg)))
  (AW ((decide (p0.fg ≤ 4)))
   (AW ((decide (0 ≤ p0.fj)))
    (AW ((decide (0 ≤ p0.fo)))
     (AW ((p0.fg == 1))
      (j1 true)
      (j1 (p0.fo == 0)))
     (j1 false))
    (j1 false))
   (j1 false))
  (j1 false)
def Cg (N : Nat) (p0 : Ah) (p2 : As) (j12 : ((List Int)) → Option (Af × Bool)) : Nat → ((List Int) × Int) → Option (Af × Bool)
 | 0, _ => none
 | n12 + 1, v12 =>
  AW ((decide (v12.2 < (p0.fc.length : Int))))
   (Bh (fun (v15 : (List Int)) =>
    Cg N p0 p2 j12 n12 (v15, (wI .i64 (v12.2 + 1))))
   fun j15 =>
   Bh (fun (v16 : Bool) =>
    AW v16
     ((Bg v12.1 v12.2).bind fun v22 =>
     (EB (0 ≤ p2.fo)).bind fun _ =>
     (Bg v12.1 v12.2).bind fun _ =>
     j15 (v12.1.set ((v12.2).toNat) ((Pa .u8 v22 ((CJ .u8 1 p2.fo))))))
     (j15 v12.1))
   fun j16 =>
   (Bg p0.fc v12.2).bind fun v17 =>
   AW ((v17.fi == p2.fj))
    ((Bg p0.fc v12.2).bind fun v19 =>
    (Bq N v19).bind fun v20 =>
    j16 v20)
    (j16 false))
   (j12 v12.1)
def BZ (N : Nat) (p0 : Ah) (p1 : Af) (p2 : As) (v32 : AQ) (v35 : Int) (j38 : Unit → Option (Af × Bool)) : Nat → Int → Option (Af × Bool)
 | 0, _ => none
 | n38 + 1, v38 =>
  (Bg p0.fb v32.fi).bind fun v40 =>
  AW ((decide (v38 < v40)))
   (Bh (fun (v42 : Bool) =>
    Bh (fun (v47 : Bool) =>
     AW v47
      (some ((Af.mk (([] : List Int)) (([] : List Int)) (([] : List Int))), false))
      (BZ N p0 p1 p2 v32 v35 j38 n38 (wI .i64 (v38 + 1))))
    fun j47 =>
    AW v42
     (AW ((v32.fg == 4))
      ((Bg v32.fm v38).bind fun v50 =>
      (Bg p1.fd v32.fi).bind fun v51 =>
      (Bg v50 v51).bind fun v52 =>
      j47 (!v52))
      (j47 false))
     (j47 false))
   fun j42 =>
   (Bg p1.fe p2.fj).bind fun v43 =>
   (CL N v43 v38).bind fun v44 =>
   AW v44
    ((CL N v35 v38).bind fun v46 =>
    j42 (!v46))
    (j42 false))
   (j38 ())
def C3 (N : Nat) (p0 : Ah) (p1 : Af) (p2 : As) : Option (Af × Bool) :=
 (EB ((([] : List Int)).length + p1.fd.length ≤ Eg)).bind fun _ =>
 (EB ((([] : List Int)).length + p1.fa.length ≤ Eg)).bind fun _ =>
 (EB ((([] : List Int)).length + p1.fe.length ≤ Eg)).bind fun _ =>
 Bh (fun (v4 : (List Int) × (List Int) × (List Int)) =>
  some ((Af.mk v4.1 v4.2.1 v4.2.2), true))
 fun j4 =>
 AW ((p2.fg == 1))
  (Bh (fun (v6 : Bool) =>
   AW v6
    (some ((Af.mk (([] : List Int)) (([] : List Int)) (([] : List Int))), false))
    ((Bg ((([] : List Int)) ++ p1.fa) p2.fj).bind fun _ =>
    Cg N p0 p2 (fun (v13 : (List Int)) =>
     j4 ((([] : List Int)) ++ p1.fd, ((([] : List Int)) ++ p1.fa).set ((p2.fj).toNat) p2.fo, v13)) N ((([] : List Int)) ++ p1.fe, 0)))
  fun j6 =>
  (Bg p1.fa p2.fj).bind fun v7 =>
  AW ((decide (0 ≤ v7)))
   (j6 true)
   ((Bg p1.fd p2.fj).bind fun v9 =>
   j6 (p2.fo == v9)))
  (AW ((p2.fg == 2))
   ((Bg p1.fa p2.fj).bind fun v26 =>
   AW ((decide (v26 < 0)))
    (some ((Af.mk (([] : List Int)) (([] : List Int)) (([] : List Int))), false))
    ((Bg p1.fa p2.fj).bind fun v28 =>
    (Bg ((([] : List Int)) ++ p1.fd) p2.fj).bind fun _ =>
    (Bg ((([] : List Int)) ++ p1.fa) p2.fj).bind fun _ =>
    j4 (((([] : List Int)) ++ p1.fd).set ((p2.fj).toNat) v28, ((([] : List Int)) ++ p1.fa).set ((p2.fj).toNat) ((-1)), (([] : List Int)) ++ p1.fe)))
   (AW ((p2.fg == 3))
    ((Bg p0.fc p2.fj).bind fun v32 =>
    (Bq N v32).bind fun v33 =>
    AW ((!v33))
     (some ((Af.mk (([] : List Int)) (([] : List Int)) (([] : List Int))), false))
     ((Cc N p1 v32.fi).bind fun v35 =>
     (Bg p1.fe p2.fj).bind fun v36 =>
     AW ((v36 == v35))
      (some ((Af.mk (([] : List Int)) (([] : List Int)) (([] : List Int))), false))
      (BZ N p0 p1 p2 v32 v35 (fun (_ : Unit) =>
       (Bg ((([] : List Int)) ++ p1.fe) p2.fj).bind fun _ =>
       j4 ((([] : List Int)) ++ p1.fd, (([] : List Int)) ++ p1.fa, ((([] : List Int)) ++ p1.fe).set ((p2.fj).toNat) v35)) N 0)))
    ((Bg p1.fa p2.fj).bind fun v55 =>
    AW ((decide (v55 < 0)))
     (some ((Af.mk (([] : List Int)) (([] : List Int)) (([] : List Int))), false))
     ((Bg ((([] : List Int)) ++ p1.fa) p2.fj).bind fun _ =>
     j4 ((([] : List Int)) ++ p1.fd, ((([] : List Int)) ++ p1.fa).set ((p2.fj).toNat) ((-1)), (([] : List Int)) ++ p1.fe)))))
def ER (N : Nat) (p0 : Ah) (p1 : Af) (p2 : As) : Option (Af × Int) :=
 (D5 N p0 p1).bind fun v1 =>
 AW ((v1 != 0))
  (some ((Af.mk (([] : List Int)) (([] : List Int)) (([] : List Int))), v1))
  ((ES N p2).bind fun v3 =>
  AW ((!v3))
   (some ((Af.mk (([] : List Int)) (([] : List Int)) (([] : List Int))), 1))
   (Bh (fun (v5 : Bool) =>
    AW v5
     (some ((Af.mk (([] : List Int)) (([] : List Int)) (([] : List Int))), 4))
     (Bh (fun (v11 : Bool) =>
      AW v11
       (some ((Af.mk (([] : List Int)) (([] : List Int)) (([] : List Int))), 4))
       ((C3 N p0 p1 p2).bind fun v15 =>
       AW ((!v15.2))
        (some ((Af.mk (([] : List Int)) (([] : List Int)) (([] : List Int))), 11))
        (some (v15.1, 0))))
     fun j11 =>
     AW ((p2.fg == 1))
      ((Bg p0.fb p2.fj).bind fun v13 =>
      j11 (decide (v13 ≤ p2.fo)))
      (j11 false)))
   fun j5 =>
   AW ((p2.fg == 3))
    (AW ((decide ((p0.fc.length : Int) ≤ p2.fj)))
     (j5 true)
     (AW ((p2.fg != 3))
      (j5 (decide ((p0.fb.length : Int) ≤ p2.fj)))
      (j5 false)))
    (AW ((p2.fg != 3))
     (j5 (decide ((p0.fb.length : Int) ≤ p2.fj)))
     (j5 false))))
def Cr (N : Nat) (p0 : Ah) (p1 : Af) (v1 : (List As) × Int) (v4 : (List As) × Int) (j7 : ((List As)) → Option ((List As))) : Nat → ((List As) × Int) → Option ((List As))
 | 0, _ => none
 | n7 + 1, v7 =>
  AW ((decide (v7.2 < 6)))
   (Bh (fun (v10 : (List As)) =>
    Cr N p0 p1 v1 v4 j7 n7 (v10, (wI .i64 (v7.2 + 1))))
   fun j10 =>
   (ER N p0 p1 ((As.mk v1.2 v4.2 v7.2))).bind fun v11 =>
   AW ((v11.2 == 0))
    ((EB (v7.1.length + (([(As.mk v1.2 v4.2 v7.2)] : List As)).length ≤ Eg)).bind fun _ =>
    j10 (v7.1 ++ (([(As.mk v1.2 v4.2 v7.2)] : List As))))
    (j10 v7.1))
   (j7 v7.1)
def Cq (N : Nat) (p0 : Ah) (p1 : Af) (v1 : (List As) × Int) (j4 : ((List As)) → Option ((List As))) : Nat → ((List As) × Int) → Option ((List As))
 | 0, _ => none
 | n4 + 1, v4 =>
  AW ((decide (v4.2 < (T5 ((p0.fb.length : Int)) ((p0.fc.length : Int))))))
   (Cr N p0 p1 v1 v4 (fun (v8 : (List As)) =>
    Cq N p0 p1 v1 j4 n4 (v8, (wI .i64 (v4.2 + 1)))) N (v4.1, 0))
   (j4 v4.1)
def BN (N : Nat) (p0 : Ah) (p1 : Af) (j1 : ((List As)) → Option ((List As))) : Nat → ((List As) × Int) → Option ((List As))
 | 0, _ => none
 | n1 + 1, v1 =>
  AW ((decide (v1.2 ≤ 3)))
   (Cq N p0 p1 v1 (fun (v5 : (List As)) =>
    BN N p0 p1 j1 n1 (v5, (wI .i64 (v1.2 + 1)))) N (v1.1, 0))
   (j1 v1.1)
def EV (N : Nat) (p0 : Ah) (p1 : Af) : Option ((List As)) :=
 BN N p0 p1 (fun (v2 : (List As)) =>
  some v2) N (([] : List As), 1)
def DG (N : Nat) (p0 : List Int) (p1 : List Int) (j1 : Unit → Option Int) : Nat → Int → Option Int
 | 0, _ => none
 | n1 + 1, v1 =>
  Bh (fun (v3 : Bool) =>
   AW v3
    ((Bg p0 v1).bind fun v6 =>
    (Bg p1 v1).bind fun v7 =>
    AW ((decide (v6 < v7)))
     (some ((-1)))
     ((Bg p0 v1).bind fun v9 =>
     (Bg p1 v1).bind fun v10 =>
     AW ((decide (v10 < v9)))
      (some 1)
      (DG N p0 p1 j1 n1 (wI .i64 (v1 + 1)))))
    (j1 ()))
  fun j3 =>
  AW ((decide (v1 < (p0.length : Int))))
   (j3 (decide (v1 < (p1.length : Int))))
   (j3 false)
def DM (N : Nat) (p0 : List Int) (p1 : List Int) : Option Int :=
 DG N p0 p1 (fun (_ : Unit) =>
  AW ((decide ((p0.length : Int) < (p1.length : Int))))
   (some ((-1)))
   (AW ((decide ((p1.length : Int) < (p0.length : Int))))
    (some 1)
    (some 0))) N 0
def C6 (N : Nat) (p0 : List Int) (j1 : ((List Int)) → Option ((List Int))) : Nat → ((List Int) × Int) → Option ((List Int))
 | 0, _ => none
 | n1 + 1, v1 =>
  AW ((decide (v1.2 < (p0.length : Int))))
   ((Bg p0 v1.2).bind fun v4 =>
   (EB (v1.1.length + (([(wI .i64 v4)] : List Int)).length ≤ Eg)).bind fun _ =>
   C6 N p0 j1 n1 (v1.1 ++ (([(wI .i64 v4)] : List Int)), (wI .i64 (v1.2 + 1))))
   (j1 v1.1)
def DJ (N : Nat) (p0 : List Int) : Option ((List Int)) :=
 C6 N p0 (fun (v2 : (List Int)) =>
  some v2) N (([] : List Int), 0)
def Ca (N : Nat) (p0 : Af) (p1 : Af) : Option Int :=
 (DM N p0.fd p1.fd).bind fun v1 =>
 AW ((v1 != 0))
  (some v1)
  ((DM N p0.fa p1.fa).bind fun v3 =>
  AW ((v3 != 0))
   (some v3)
   ((DJ N p0.fe).bind fun v5 =>
   (DJ N p1.fe).bind fun v6 =>
   (DM N v5 v6).bind fun v7 =>
   some v7))
def Dq (N : Nat) (p0 : List Af) (p1 : Af) (j1 : Int → Option (Int × Bool)) : Nat → Int → Option (Int × Bool)
 | 0, _ => none
 | n1 + 1, v1 =>
  Bh (fun (v3 : Bool) =>
   AW v3
    (Dq N p0 p1 j1 n1 (wI .i64 (v1 + 1)))
    (j1 v1))
  fun j3 =>
  AW ((decide (v1 < (p0.length : Int))))
   ((Bg p0 v1).bind fun v5 =>
   (Ca N v5 p1).bind fun v6 =>
   j3 (decide (v6 < 0)))
   (j3 false)
def ET (N : Nat) (p0 : List Af) (p1 : Af) : Option (Int × Bool) :=
 Dq N p0 p1 (fun (v2 : Int) =>
  Bh (fun (v8 : Bool) =>
   some (v2, v8))
  fun j8 =>
  AW ((decide (v2 < (p0.length : Int))))
   ((Bg p0 v2).bind fun v10 =>
   (Ca N v10 p1).bind fun v11 =>
   j8 (v11 == 0))
   (j8 false)) N 0
def Cj (N : Nat) (p0 : Ah) (p1 : Int) (v4 : (List Af) × (List Af) × Int) (v8 : (List As)) (j9 : ((List Af) × (List Af)) → Option ((List Af) × Bool)) : Nat → ((List Af) × (List Af) × Int) → Option ((List Af) × Bool)
 | 0, _ => none
 | n9 + 1, v9 =>
  AW ((decide (v9.2.2 < (v8.length : Int))))
   (Bh (fun (v12 : (List Af) × (List Af)) =>
    Cj N p0 p1 v4 v8 j9 n9 (v12.1, v12.2, (wI .i64 (v9.2.2 + 1))))
   fun j12 =>
   (Bg v9.1 v4.2.2).bind fun v13 =>
   (Bg v8 v9.2.2).bind fun v14 =>
   (C3 N p0 v13 v14).bind fun v15 =>
   (ET N v9.2.1 v15.1).bind fun v16 =>
   Bh (fun (v17 : Bool) =>
    AW v17
     (j12 (v9.1, v9.2.1))
     ((EB (v9.1.length + (([v15.1] : List Af)).length ≤ Eg)).bind fun _ =>
     (EB ((0 : Int) ≤ v16.1 ∧ 0 ≤ (v16.1).toNat ∧ (v16.1).toNat ≤ v9.2.1.length)).bind fun _ =>
     (EB ((([] : List Af)).length + (((v9.2.1.drop 0).take ((v16.1).toNat - 0))).length ≤ Eg)).bind fun _ =>
     (EB (((([] : List Af)) ++ (((v9.2.1.drop 0).take ((v16.1).toNat - 0)))).length + (([v15.1] : List Af)).length ≤ Eg)).bind fun _ =>
     (EB ((0 : Int) ≤ v16.1 ∧ (v16.1).toNat ≤ v9.2.1.length ∧ v9.2.1.length ≤ v9.2.1.length)).bind fun _ =>
     (EB ((((([] : List Af)) ++ (((v9.2.1.drop 0).take ((v16.1).toNat - 0)))) ++ (([v15.1] : List Af))).length + (((v9.2.1.drop (v16.1).toNat).take (v9.2.1.length - (v16.1).toNat))).length ≤ Eg)).bind fun _ =>
     AW ((decide (p1 < ((v9.1 ++ (([v15.1] : List Af))).length : Int))))
      (some (([] : List Af), false))
      (j12 (v9.1 ++ (([v15.1] : List Af)), (((([] : List Af)) ++ (((v9.2.1.drop 0).take ((v16.1).toNat - 0)))) ++ (([v15.1] : List Af))) ++ (((v9.2.1.drop (v16.1).toNat).take (v9.2.1.length - (v16.1).toNat)))))))
   fun j17 =>
   AW v16.2
    (j17 true)
    ((Dt N p0 v15.1).bind fun v19 =>
    j17 (!v19)))
   (j9 (v9.1, v9.2.1))
def CK (N : Nat) (p0 : Ah) (p1 : Int) (j4 : ((List Af)) → Option ((List Af) × Bool)) : Nat → ((List Af) × (List Af) × Int) → Option ((List Af) × Bool)
 | 0, _ => none
 | n4 + 1, v4 =>
  AW ((decide (v4.2.2 < (v4.1.length : Int))))
   ((Bg v4.1 v4.2.2).bind fun v7 =>
   (EV N p0 v7).bind fun v8 =>
   Cj N p0 p1 v4 v8 (fun (v10 : (List Af) × (List Af)) =>
    CK N p0 p1 j4 n4 (v10.1, v10.2, (wI .i64 (v4.2.2 + 1)))) N (v4.1, v4.2.1, 0))
   (j4 v4.2.1)
def EF (N : Nat) (p0 : Ah) (p1 : Int) : Option ((List Af) × Bool) :=
 (EQ N p0).bind fun v1 =>
 (Dt N p0 v1.1).bind fun v2 =>
 AW ((!v2))
  (some (([] : List Af), true))
  (CK N p0 p1 (fun (v5 : (List Af)) =>
   some (v5, true)) N (([v1.1] : List Af), ([v1.1] : List Af), 0))
def FI (N : Nat) (p0 : B5) : Option (Ah × (List Af) × Bool) :=
 (FH N p0).bind fun v1 =>
 AW ((!v1.2))
  (some (v1.1, ([] : List Af), false))
  ((EF N v1.1 300).bind fun v3 =>
  some (v1.1, v3.1, v3.2))
def Cb (_ : Nat) : Option Ah :=
 some ((Ah.mk (([2] : List Int)) (([0] : List Int)) (([1] : List Int)) (([(AQ.mk 1 0 0 false (([([true, true] : List Bool), ([false, true] : List Bool)] : List (List Bool))) (([] : List (List Bool))))] : List AQ))))
def Ev (_ : Nat) (p0 : Int) (p1 : Int) : Option Bool :=
 Bh (fun (v1 : Bool) =>
  some v1)
 fun j1 =>
 AW ((decide (0 ≤ p0)))
  (j1 (decide (p0 < p1)))
  (j1 false)
def Hf (_ : Nat) (p0 : Int) (p1 : Bool) : Option Bool :=
 Bh (fun (v1 : Bool) =>
  some v1)
 fun j1 =>
 AW ((p0 == 1))
  (j1 true)
  (AW ((p0 == 2))
   (j1 true)
   (AW ((p0 == 3))
    (j1 (!p1))
    (AW ((p0 == 4))
     (j1 (!p1))
     (j1 false))))
def Ek (_ : Nat) (p0 : List Bool) (p1 : Int) : Option Bool :=
 some (((p0.length : Int) != p1))
def BG (N : Nat) (p0 : List (List Bool)) (p1 : (List Bool) → Option Bool) (j1 : Unit → Option Int) : Nat → Int → Option Int
 | 0, _ => none
 | n1 + 1, v1 =>
  AW ((decide (v1 < (p0.length : Int))))
   ((Bg p0 v1).bind fun v4 =>
   (p1 v4).bind fun v5 =>
   AW v5
    (some v1)
    (BG N p0 p1 j1 n1 (wI .i64 (v1 + 1))))
   (j1 ())
def DQ (N : Nat) (p0 : List (List Bool)) (p1 : (List Bool) → Option Bool) : Option Int :=
 BG N p0 p1 (fun (_ : Unit) =>
  some ((-1))) N 0
def Dm (N : Nat) (p0 : List (List Bool)) (p1 : (List Bool) → Option Bool) : Option Bool :=
 (DQ N p0 p1).bind fun v1 =>
 some ((decide (0 ≤ v1)))
def Fz (N : Nat) (p0 : List (List Bool)) (p1 : Int) (p2 : Int) : Option Bool :=
 Bh (fun (v1 : Bool) =>
  some v1)
 fun j1 =>
 AW (((p0.length : Int) == p1))
  ((Dm N p0 ((fun (x : List Bool) => Ek N x p2))).bind fun v3 =>
  j1 (!v3))
  (j1 false)
def Dw (N : Nat) (p1 : AQ) (j19 : Unit → Option Int) : Nat → Int → Option Int
 | 0, _ => none
 | n19 + 1, v19 =>
  AW ((decide (v19 < (p1.fm.length : Int))))
   ((Bg p1.fm v19).bind fun v22 =>
   (Bg v22 v19).bind fun v23 =>
   AW ((!v23))
    (some 1)
    (Dw N p1 j19 n19 (wI .i64 (v19 + 1))))
   (j19 ())
def GM (N : Nat) (p0 : Ah) (p1 : AQ) : Option Int :=
 (Hf N p1.fg p1.fp).bind fun v1 =>
 AW ((!v1))
  (some 1)
  (Bh (fun (v3 : Bool) =>
   AW v3
    (some 4)
    ((Bg p0.fb p1.fi).bind fun v8 =>
    Bh (fun (v9 : Bool) =>
     AW v9
      (some 6)
      (Dw N p1 (fun (_ : Unit) =>
       some 0) N 0))
    fun j9 =>
    (Bg p0.fb p1.fk).bind fun v10 =>
    (Fz N p1.fq v8 v10).bind fun v11 =>
    AW ((!v11))
     (j9 true)
     (AW ((p1.fg == 4))
      ((Fz N p1.fm v8 v8).bind fun v14 =>
      AW ((!v14))
       (j9 true)
       (AW ((!((p1.fg == 4))))
        (j9 (decide (0 < (p1.fm.length : Int))))
        (j9 false)))
      (AW ((!((p1.fg == 4))))
       (j9 (decide (0 < (p1.fm.length : Int))))
       (j9 false)))))
  fun j3 =>
  (Ev N p1.fi ((p0.fb.length : Int))).bind fun v4 =>
  AW ((!v4))
   (j3 true)
   ((Ev N p1.fk ((p0.fb.length : Int))).bind fun v6 =>
   j3 (!v6)))
def Cf (N : Nat) (p0 : Ah) (j7 : Unit → Option Int) : Nat → Int → Option Int
 | 0, _ => none
 | n7 + 1, v7 =>
  AW ((decide (v7 < (p0.fb.length : Int))))
   ((Bg p0.fb v7).bind fun v10 =>
   Bh (fun (v11 : Bool) =>
    AW v11
     (some 7)
     (Cf N p0 j7 n7 (wI .i64 (v7 + 1))))
   fun j11 =>
   AW ((decide (v10 < 1)))
    (j11 true)
    (AW ((decide (6 < v10)))
     (j11 true)
     ((Bg p0.ff v7).bind fun v14 =>
     (Ev N v14 v10).bind fun v15 =>
     AW ((!v15))
      (j11 true)
      ((Bg p0.fh v7).bind fun v17 =>
      (Ev N v17 v10).bind fun v18 =>
      j11 (!v18)))))
   (j7 ())
def B8 (N : Nat) (p0 : Ah) (j20 : Unit → Option Int) : Nat → Int → Option Int
 | 0, _ => none
 | n20 + 1, v20 =>
  AW ((decide (v20 < (p0.fc.length : Int))))
   ((Bg p0.fc v20).bind fun v23 =>
   (GM N p0 v23).bind fun v24 =>
   AW ((v24 != 0))
    (some v24)
    (B8 N p0 j20 n20 (wI .i64 (v20 + 1))))
   (j20 ())
def CS (N : Nat) (p0 : Ah) : Option Int :=
 Bh (fun (v1 : Bool) =>
  AW v1
   (some 3)
   (Bh (fun (v4 : Bool) =>
    AW v4
     (some 6)
     (Cf N p0 (fun (_ : Unit) =>
      B8 N p0 (fun (_ : Unit) =>
       some 0) N 0) N 0))
   fun j4 =>
   AW (((p0.ff.length : Int) != (p0.fb.length : Int)))
    (j4 true)
    (j4 ((p0.fh.length : Int) != (p0.fb.length : Int)))))
 fun j1 =>
 AW ((decide (6 < (p0.fb.length : Int))))
  (j1 true)
  (j1 (decide (12 < (p0.fc.length : Int))))
def Bx (_ : Nat) (p0 : List Int) : Option ((List Int)) :=
 (EB ((([] : List Int)).length + p0.length ≤ Eg)).bind fun _ =>
 some ((([] : List Int)) ++ p0)
def Ht (_ : Nat) (p0 : Int) (p1 : Int) : Option (Int × Int) :=
 some ((wI .u32 ((Eh .u64 ((wI .u64 ((wI .u64 p0) * (wI .u64 p1)))) 32))), (wI .u32 ((wI .u64 ((wI .u64 p0) * (wI .u64 p1))))))
def Hx (_ : Nat) (p0 : Int) (p1 : Int) : Option (Int × Int) :=
 some ((wI .u64 ((wI .u64 ((wI .u64 ((Eh .u64 p0 32) * (Eh .u64 p1 32))) + (Eh .u64 ((wI .u64 ((wI .u64 ((Eh .u64 p0 32) * (Gf .u64 p1 4294967295))) + (Eh .u64 ((wI .u64 ((Gf .u64 p0 4294967295) * (Gf .u64 p1 4294967295)))) 32)))) 32))) + (Eh .u64 ((wI .u64 ((Gf .u64 ((wI .u64 ((wI .u64 ((Eh .u64 p0 32) * (Gf .u64 p1 4294967295))) + (Eh .u64 ((wI .u64 ((Gf .u64 p0 4294967295) * (Gf .u64 p1 4294967295)))) 32)))) 4294967295) + (wI .u64 ((Gf .u64 p0 4294967295) * (Eh .u64 p1 32)))))) 32))), (wI .u64 (p0 * p1)))
def Il (N : Nat) (p0 : Int) (p1 : Int) : Option (Int × Int) :=
 AW false
  ((Ht N ((wI .u32 p0)) ((wI .u32 p1))).bind fun v2 =>
  some ((wI .u64 v2.1), (wI .u64 v2.2)))
  ((Hx N p0 p1).bind fun v3 =>
  some (v3.1, v3.2))
def Ee (N : Nat) (j9 : ((List Int)) → Option ((List Int))) : Nat → ((List Int) × Int) → Option ((List Int))
 | 0, _ => none
 | n9 + 1, v9 =>
  AW ((decide (v9.2 < (v9.1.length : Int))))
   ((EB ((0 : Int) ≤ v9.2 ∧ (v9.2).toNat ≤ v9.1.length ∧ v9.1.length ≤ v9.1.length)).bind fun _ =>
   (EB ((0 : Int) ≤ v9.2 ∧ 0 ≤ (v9.2).toNat ∧ (v9.2).toNat ≤ v9.1.length)).bind fun _ =>
   Ee N j9 n9 (IZ v9.1 ((v9.2).toNat) ((((v9.1.drop 0).take ((v9.2).toNat))).take (Nat.min (((v9.1.drop 0).take ((v9.2).toNat))).length ((v9.1.length - (v9.2).toNat)))), (wI .i64 (v9.2 + (((Nat.min (((v9.1.drop 0).take ((v9.2).toNat))).length ((v9.1.length - (v9.2).toNat))) : Nat) : Int)))))
   (j9 v9.1)
def EP (N : Nat) (p0 : List Int) (p1 : Int) : Option ((List Int)) :=
 Bh (fun (_ : Unit) =>
  (Il N ((wI .u64 ((p0.length : Int)))) ((wI .u64 p1))).bind fun v3 =>
  Bh (fun (_ : Unit) =>
   (EB ((0 : Int) ≤ (wI .i64 v3.2) ∧ (wI .i64 v3.2) ≤ (wI .i64 v3.2) ∧ (wI .i64 v3.2) ≤ (Eg : Int))).bind fun _ =>
   Ee N (fun (v10 : (List Int)) =>
    some v10) N (IZ (List.replicate ((wI .i64 v3.2)).toNat ((0 : Int))) 0 (p0.take (Nat.min p0.length ((List.replicate ((wI .i64 v3.2)).toNat ((0 : Int))).length))), (((Nat.min p0.length ((List.replicate ((wI .i64 v3.2)).toNat ((0 : Int))).length)) : Nat) : Int)))
  fun j4 =>
  Bh (fun (v5 : Bool) =>
   AW v5
    (none)
    (j4 ()))
  fun j5 =>
  AW ((decide (0 < v3.1)))
   (j5 true)
   (j5 (decide (9223372036854775807 < v3.2))))
 fun j1 =>
 AW ((decide (p1 < 0)))
  (none)
  (j1 ())
def FL (_ : Nat) (p0 : AQ) : Option Bool :=
 Bh (fun (v1 : Bool) =>
  some v1)
 fun j1 =>
 AW ((p0.fg == 3))
  (j1 true)
  (j1 (p0.fg == 4))
def Ew (N : Nat) (p0 : Ah) (j6 : ((List Int)) → Option (Af × Int)) : Nat → ((List Int) × Int) → Option (Af × Int)
 | 0, _ => none
 | n6 + 1, v6 =>
  AW ((decide (v6.2 < (p0.fc.length : Int))))
   (Bh (fun (v9 : (List Int)) =>
    Ew N p0 j6 n6 (v9, (wI .i64 (v6.2 + 1))))
   fun j9 =>
   (Bg p0.fc v6.2).bind fun v10 =>
   (FL N v10).bind fun v11 =>
   AW v11
    ((Bg p0.ff v10.fi).bind fun v13 =>
    (EB (0 ≤ v13)).bind fun _ =>
    (Bg v6.1 v6.2).bind fun _ =>
    j9 (v6.1.set ((v6.2).toNat) ((CJ .u8 1 v13))))
    (j9 v6.1))
   (j6 v6.1)
def GZ (N : Nat) (p0 : Ah) : Option (Af × Int) :=
 (CS N p0).bind fun v1 =>
 AW ((v1 != 0))
  (some ((Af.mk (([] : List Int)) (([] : List Int)) (([] : List Int))), v1))
  ((Bx N p0.ff).bind fun v3 =>
  (EP N (([(-1)] : List Int)) ((p0.ff.length : Int))).bind fun v4 =>
  (EB ((0 : Int) ≤ (p0.fc.length : Int) ∧ (p0.fc.length : Int) ≤ (p0.fc.length : Int) ∧ (p0.fc.length : Int) ≤ (Eg : Int))).bind fun _ =>
  Ew N p0 (fun (v7 : (List Int)) =>
   some ((Af.mk v3 v4 v7), 0)) N (List.replicate ((p0.fc.length : Int)).toNat ((0 : Int)), 0))
def Fk (_ : Nat) (p0 : Af) (p1 : Int) : Option Int :=
 (Bg p0.fd p1).bind fun v1 =>
 (EB (0 ≤ v1)).bind fun _ =>
 Bh (fun (v3 : Int) =>
  some v3)
 fun j3 =>
 (Bg p0.fa p1).bind fun v4 =>
 AW ((decide (0 ≤ v4)))
  ((Bg p0.fa p1).bind fun v6 =>
  (EB (0 ≤ v6)).bind fun _ =>
  j3 (Pa .u8 ((CJ .u8 1 v1)) ((CJ .u8 1 v6))))
  (j3 (CJ .u8 1 v1))
def Eu (N : Nat) (p0 : Ah) (p1 : Af) (j7 : Unit → Option Int) : Nat → Int → Option Int
 | 0, _ => none
 | n7 + 1, v7 =>
  AW ((decide (v7 < (p0.fb.length : Int))))
   ((Bg p0.fb v7).bind fun v10 =>
   Bh (fun (v11 : Bool) =>
    AW v11
     (some 7)
     ((Bg p1.fd v7).bind fun v20 =>
     (Bg p1.fa v7).bind fun v21 =>
     AW ((v20 == v21))
      (some 1)
      (Eu N p0 p1 j7 n7 (wI .i64 (v7 + 1)))))
   fun j11 =>
   (Bg p1.fd v7).bind fun v12 =>
   AW ((decide (v12 < 0)))
    (j11 true)
    ((Bg p1.fd v7).bind fun v14 =>
    AW ((decide (v10 ≤ v14)))
     (j11 true)
     ((Bg p1.fa v7).bind fun v16 =>
     AW ((decide (v16 < (-1))))
      (j11 true)
      ((Bg p1.fa v7).bind fun v18 =>
      j11 (decide (v10 ≤ v18))))))
   (j7 ())
def D3 (N : Nat) (p0 : Ah) (p1 : Af) (j23 : Unit → Option Int) : Nat → Int → Option Int
 | 0, _ => none
 | n23 + 1, v23 =>
  AW ((decide (v23 < (p0.fc.length : Int))))
   ((Bg p0.fc v23).bind fun v26 =>
   Bh (fun (v27 : Int × Int) =>
    Bh (fun (v33 : Bool) =>
     AW v33
      (some 1)
      (D3 N p0 p1 j23 n23 (wI .i64 (v23 + 1))))
    fun j33 =>
    (Bg p1.fe v23).bind fun v34 =>
    AW (((DF .u8 v27.1 v34) != 0))
     (j33 true)
     ((Bg p1.fe v23).bind fun v36 =>
     j33 ((DF .u8 v36 v27.2) != 0)))
   fun j27 =>
   (FL N v26).bind fun v28 =>
   AW v28
    ((Fk N p1 v26.fi).bind fun v30 =>
    (Bg p0.fb v26.fi).bind fun v31 =>
    (EB (0 ≤ v31)).bind fun _ =>
    j27 (v30, (wI .u8 ((CJ .u8 1 v31) - 1))))
    (j27 (0, 0)))
   (j23 ())
def Fd (N : Nat) (p0 : Ah) (p1 : Af) : Option Int :=
 (CS N p0).bind fun v1 =>
 AW ((v1 != 0))
  (some v1)
  (Bh (fun (v3 : Bool) =>
   AW v3
    (some 6)
    (Eu N p0 p1 (fun (_ : Unit) =>
     D3 N p0 p1 (fun (_ : Unit) =>
      some 0) N 0) N 0))
  fun j3 =>
  AW (((p1.fd.length : Int) != (p0.fb.length : Int)))
   (j3 true)
   (AW (((p1.fa.length : Int) != (p0.fb.length : Int)))
    (j3 true)
    (j3 ((p1.fe.length : Int) != (p0.fc.length : Int)))))
def BM (_ : Nat) (p0 : List Int) : Option ((List Int)) :=
 (EB ((([] : List Int)).length + p0.length ≤ Eg)).bind fun _ =>
 some ((([] : List Int)) ++ p0)
def Ec (N : Nat) (p1 : Af) (j3 : ((List Int)) → Option ((List Af) × Int)) : Nat → ((List Int) × Int) → Option ((List Af) × Int)
 | 0, _ => none
 | n3 + 1, v3 =>
  AW ((decide (v3.2 < (p1.fa.length : Int))))
   (Bh (fun (v6 : (List Int)) =>
    Ec N p1 j3 n3 (v6, (wI .i64 (v3.2 + 1))))
   fun j6 =>
   (Bg p1.fa v3.2).bind fun v7 =>
   AW ((decide (0 ≤ v7)))
    ((EB (v3.1.length + (([v3.2] : List Int)).length ≤ Eg)).bind fun _ =>
    j6 (v3.1 ++ (([v3.2] : List Int))))
    (j6 v3.1))
   (j3 v3.1)
def Dn (N : Nat) (v4 : (List Int)) (v11 : (List Af) × Int) (j17 : ((List Int)) → Option ((List Af) × Int)) : Nat → ((List Int) × Int) → Option ((List Af) × Int)
 | 0, _ => none
 | n17 + 1, v17 =>
  AW ((decide (v17.2 < (v4.length : Int))))
   (Bh (fun (v20 : (List Int)) =>
    Dn N v4 v11 j17 n17 (v20, (wI .i64 (v17.2 + 1))))
   fun j20 =>
   (Bg v4 v17.2).bind fun v21 =>
   (EB (0 ≤ v17.2)).bind fun _ =>
   AW (((Gf .i64 ((Eh .i64 v11.2 v17.2)) 1) == 1))
    ((Bg v17.1 v21).bind fun _ =>
    j20 (v17.1.set ((v21).toNat) ((-1))))
    (j20 v17.1))
   (j17 v17.1)
def Dk (N : Nat) (p1 : Af) (v4 : (List Int)) (j11 : ((List Af)) → Option ((List Af) × Int)) : Nat → ((List Af) × Int) → Option ((List Af) × Int)
 | 0, _ => none
 | n11 + 1, v11 =>
  AW ((decide (v11.2 < (CJ .i64 1 ((v4.length : Int))))))
   ((Bx N p1.fd).bind fun v14 =>
   (Bx N p1.fa).bind fun v15 =>
   (BM N p1.fe).bind fun v16 =>
   Dn N v4 v11 (fun (v18 : (List Int)) =>
    (EB (v11.1.length + (([(Af.mk v14 v18 v16)] : List Af)).length ≤ Eg)).bind fun _ =>
    Dk N p1 v4 j11 n11 (v11.1 ++ (([(Af.mk v14 v18 v16)] : List Af)), (wI .i64 (v11.2 + 1)))) N (v15, 0))
   (j11 v11.1)
def FO (N : Nat) (p0 : Ah) (p1 : Af) : Option ((List Af) × Int) :=
 (Fd N p0 p1).bind fun v1 =>
 AW ((v1 != 0))
  (some (([] : List Af), v1))
  (Ec N p1 (fun (v4 : (List Int)) =>
   (EB (0 ≤ (v4.length : Int))).bind fun _ =>
   Dk N p1 v4 (fun (v12 : (List Af)) =>
    some (v12, 0)) N (([] : List Af), 0)) N (([] : List Int), 0))
def Ce (N : Nat) (v1 : (List Al) × Int) (v4 : AQ) (v6 : Int) (v11 : (List Al) × Int) (v17 : List Bool) (j18 : ((List Al) × Bool) → Option ((List Al))) : Nat → ((List Al) × Bool × Int) → Option ((List Al))
 | 0, _ => none
 | n18 + 1, v18 =>
  AW ((decide (v18.2.2 < (v17.length : Int))))
   (Bh (fun (v21 : (List Al) × Bool) =>
    Ce N v1 v4 v6 v11 v17 j18 n18 (v21.1, v21.2, (wI .i64 (v18.2.2 + 1))))
   fun j21 =>
   (Bg v17 v18.2.2).bind fun v22 =>
   (EB (0 ≤ v18.2.2)).bind fun _ =>
   AW (((Gf .u8 ((Eh .u8 v6 v18.2.2)) 1) == 0))
    (j21 (v18.1, v18.2.1))
    (Bh (fun (v25 : Bool) =>
     Bh (fun (v27 : Bool) =>
      AW v27
       ((EB (v18.1.length + (([(Al.mk v1.2 v11.2 v18.2.2)] : List Al)).length ≤ Eg)).bind fun _ =>
       j21 (v18.1 ++ (([(Al.mk v1.2 v11.2 v18.2.2)] : List Al)), v25))
       (j21 (v18.1, v25)))
     fun j27 =>
     AW ((!v22))
      (j27 (!v4.fp))
      (j27 false))
    fun j25 =>
    AW v18.2.1
     (j25 true)
     (j25 v22)))
   (j18 (v18.1, v18.2.1))
def CE (N : Nat) (v1 : (List Al) × Int) (v4 : AQ) (v6 : Int) (v7 : Int) (j11 : ((List Al)) → Option ((List Al))) : Nat → ((List Al) × Int) → Option ((List Al))
 | 0, _ => none
 | n11 + 1, v11 =>
  AW ((decide (v11.2 < (v4.fq.length : Int))))
   (Bh (fun (v14 : (List Al)) =>
    CE N v1 v4 v6 v7 j11 n11 (v14, (wI .i64 (v11.2 + 1))))
   fun j14 =>
   (EB (0 ≤ v11.2)).bind fun _ =>
   AW (((Gf .u8 ((Eh .u8 v7 v11.2)) 1) == 0))
    (j14 v11.1)
    ((Bg v4.fq v11.2).bind fun v17 =>
    Ce N v1 v4 v6 v11 v17 (fun (v19 : (List Al) × Bool) =>
     Bh (fun (v31 : Bool) =>
      AW v31
       ((EB (v19.1.length + (([(Al.mk v1.2 v11.2 ((-1)))] : List Al)).length ≤ Eg)).bind fun _ =>
       j14 (v19.1 ++ (([(Al.mk v1.2 v11.2 ((-1)))] : List Al))))
       (j14 v19.1))
     fun j31 =>
     AW v4.fp
      (j31 (!v19.2))
      (j31 false)) N (v11.1, false, 0)))
   (j11 v11.1)
def DN (N : Nat) (p0 : Ah) (p1 : Af) (j1 : ((List Al)) → Option ((List Al))) : Nat → ((List Al) × Int) → Option ((List Al))
 | 0, _ => none
 | n1 + 1, v1 =>
  AW ((decide (v1.2 < (p0.fc.length : Int))))
   ((Bg p0.fc v1.2).bind fun v4 =>
   (Fk N p1 v4.fi).bind fun v5 =>
   (Fk N p1 v4.fk).bind fun v6 =>
   Bh (fun (v7 : Int) =>
    CE N v1 v4 v6 v7 (fun (v12 : (List Al)) =>
     DN N p0 p1 j1 n1 (v12, (wI .i64 (v1.2 + 1)))) N (v1.1, 0))
   fun j7 =>
   (FL N v4).bind fun v8 =>
   AW v8
    ((Bg p1.fe v1.2).bind fun v10 =>
    j7 v10)
    (j7 v5))
   (j1 v1.1)
def FV (N : Nat) (p0 : Ah) (p1 : Af) : Option ((List Al)) :=
 DN N p0 p1 (fun (v2 : (List Al)) =>
  some v2) N (([] : List Al), 0)
def E6 (N : Nat) (p0 : Ah) (v1 : (List Af) × Int) (j3 : Unit → Option (Af × Al × Int)) : Nat → Int → Option (Af × Al × Int)
 | 0, _ => none
 | n3 + 1, v3 =>
  AW ((decide (v3 < (v1.1.length : Int))))
   ((Bg v1.1 v3).bind fun v6 =>
   (FV N p0 v6).bind fun v7 =>
   AW ((decide (0 < (v7.length : Int))))
    ((Bg v7 0).bind fun v9 =>
    some (v6, v9, 0))
    (E6 N p0 v1 j3 n3 (wI .i64 (v3 + 1))))
   (j3 ())
def FB (N : Nat) (p0 : Ah) (p1 : Af) : Option (Af × Al × Int) :=
 (FO N p0 p1).bind fun v1 =>
 AW ((v1.2 != 0))
  (some ((Af.mk (([] : List Int)) (([] : List Int)) (([] : List Int))), (Al.mk 0 0 0), v1.2))
  (E6 N p0 v1 (fun (_ : Unit) =>
   some ((Af.mk (([] : List Int)) (([] : List Int)) (([] : List Int))), (Al.mk 0 0 0), 15)) N 0)
def DW (N : Nat) (p0 : Ah) (p1 : Af) : Option (Bool × Int) :=
 (FB N p0 p1).bind fun v1 =>
 AW ((v1.2.2 == 0))
  (some (false, 0))
  (AW ((v1.2.2 == 15))
   (some (true, 0))
   (some (false, v1.2.2)))
def GK (N : Nat) (p0 : Ah) : Option (Af × Bool × Int) :=
 (GZ N p0).bind fun v1 =>
 AW ((v1.2 != 0))
  (some ((Af.mk (([] : List Int)) (([] : List Int)) (([] : List Int))), false, v1.2))
  ((DW N p0 v1.1).bind fun v3 =>
  some (v1.1, v3.1, v3.2))
def Ex (N : Nat) (p0 : Af) (j1 : ((List Int)) → Option ByteArray) : Nat → ((List Int) × Int) → Option ByteArray
 | 0, _ => none
 | n1 + 1, v1 =>
  AW ((decide (v1.2 < (p0.fd.length : Int))))
   ((Bg p0.fd v1.2).bind fun v4 =>
   (Bg p0.fa v1.2).bind fun v5 =>
   (EB (v1.1.length + (([(wI .u8 v4), (wI .u8 ((wI .i64 (v5 + 1))))] : List Int)).length ≤ Eg)).bind fun _ =>
   Ex N p0 j1 n1 (v1.1 ++ (([(wI .u8 v4), (wI .u8 ((wI .i64 (v5 + 1))))] : List Int)), (wI .i64 (v1.2 + 1))))
   (j1 v1.1)
def DD (N : Nat) (p0 : Af) (j7 : ((List Int)) → Option ByteArray) : Nat → ((List Int) × Int) → Option ByteArray
 | 0, _ => none
 | n7 + 1, v7 =>
  AW ((decide (v7.2 < (p0.fe.length : Int))))
   ((Bg p0.fe v7.2).bind fun v10 =>
   (EB (v7.1.length + (([v10] : List Int)).length ≤ Eg)).bind fun _ =>
   DD N p0 j7 n7 (v7.1 ++ (([v10] : List Int)), (wI .i64 (v7.2 + 1))))
   (j7 v7.1)
def F7 (N : Nat) (p0 : Af) : Option ByteArray :=
 Ex N p0 (fun (v2 : (List Int)) =>
  DD N p0 (fun (v8 : (List Int)) =>
   some ((C0 v8))) N (v2, 0)) N (([] : List Int), 0)
def E1 (N : Nat) (v1 : (List As) × Int) (v4 : Int) (j5 : ((List As)) → Option ((List As))) : Nat → ((List As) × Int) → Option ((List As))
 | 0, _ => none
 | n5 + 1, v5 =>
  AW ((decide (v5.2 < v4)))
   ((EB (v5.1.length + (([(As.mk 1 v1.2 v5.2)] : List As)).length ≤ Eg)).bind fun _ =>
   E1 N v1 v4 j5 n5 (v5.1 ++ (([(As.mk 1 v1.2 v5.2)] : List As)), (wI .i64 (v5.2 + 1))))
   (j5 v5.1)
def DC (N : Nat) (p0 : Ah) (j1 : ((List As)) → Option ((List As))) : Nat → ((List As) × Int) → Option ((List As))
 | 0, _ => none
 | n1 + 1, v1 =>
  AW ((decide (v1.2 < (p0.fb.length : Int))))
   ((Bg p0.fb v1.2).bind fun v4 =>
   E1 N v1 v4 (fun (v6 : (List As)) =>
    DC N p0 j1 n1 (v6, (wI .i64 (v1.2 + 1)))) N (v1.1, 0))
   (j1 v1.1)
def CI (N : Nat) (p0 : Ah) (j9 : ((List As)) → Option ((List As))) : Nat → ((List As) × Int) → Option ((List As))
 | 0, _ => none
 | n9 + 1, v9 =>
  AW ((decide (v9.2 < (p0.fb.length : Int))))
   ((EB (v9.1.length + (([(As.mk 2 v9.2 0)] : List As)).length ≤ Eg)).bind fun _ =>
   CI N p0 j9 n9 (v9.1 ++ (([(As.mk 2 v9.2 0)] : List As)), (wI .i64 (v9.2 + 1))))
   (j9 v9.1)
def BL (N : Nat) (p0 : Ah) (j13 : ((List As)) → Option ((List As))) : Nat → ((List As) × Int) → Option ((List As))
 | 0, _ => none
 | n13 + 1, v13 =>
  AW ((decide (v13.2 < (p0.fc.length : Int))))
   ((EB (v13.1.length + (([(As.mk 3 v13.2 0)] : List As)).length ≤ Eg)).bind fun _ =>
   BL N p0 j13 n13 (v13.1 ++ (([(As.mk 3 v13.2 0)] : List As)), (wI .i64 (v13.2 + 1))))
   (j13 v13.1)
def Iy (N : Nat) (p0 : Ah) : Option ((List As)) :=
 DC N p0 (fun (v2 : (List As)) =>
  CI N p0 (fun (v10 : (List As)) =>
   BL N p0 (fun (v14 : (List As)) =>
    some v14) N (v10, 0)) N (v2, 0)) N (([] : List As), 0)
def GI (N : Nat) (p0 : Af) : Option Af :=
 (Bx N p0.fd).bind fun v1 =>
 (Bx N p0.fa).bind fun v2 =>
 (BM N p0.fe).bind fun v3 =>
 some ((Af.mk v1 v2 v3))
def FX (_ : Nat) (p0 : AQ) : Option Bool :=
 Bh (fun (v1 : Bool) =>
  some v1)
 fun j1 =>
 AW ((p0.fg == 3))
  (j1 true)
  (j1 (p0.fg == 4))
def Ed (N : Nat) (p0 : Ah) (p2 : As) (j7 : ((List Int)) → Option (Bool × (List Int) × (List Int))) : Nat → ((List Int) × Int) → Option (Bool × (List Int) × (List Int))
 | 0, _ => none
 | n7 + 1, v7 =>
  AW ((decide (v7.2 < (p0.fc.length : Int))))
   (Bh (fun (v10 : (List Int)) =>
    Ed N p0 p2 j7 n7 (v10, (wI .i64 (v7.2 + 1))))
   fun j10 =>
   (Bg p0.fc v7.2).bind fun v11 =>
   Bh (fun (v12 : Bool) =>
    AW v12
     ((Bg v7.1 v7.2).bind fun v16 =>
     (EB (0 ≤ p2.fo)).bind fun _ =>
     (Bg v7.1 v7.2).bind fun _ =>
     j10 (v7.1.set ((v7.2).toNat) ((Pa .u8 v16 ((CJ .u8 1 p2.fo))))))
     (j10 v7.1))
   fun j12 =>
   AW ((v11.fi == p2.fj))
    ((FX N v11).bind fun v14 =>
    j12 v14)
    (j12 false))
   (j7 v7.1)
def Is (N : Nat) (p0 : Ah) (p1 : Af) (p2 : As) : Option (Bool × (List Int) × (List Int)) :=
 Bh (fun (v1 : Bool) =>
  AW v1
   (some (false, p1.fa, p1.fe))
   ((Bg p1.fa p2.fj).bind fun _ =>
   Ed N p0 p2 (fun (v8 : (List Int)) =>
    some (true, p1.fa.set ((p2.fj).toNat) p2.fo, v8)) N (p1.fe, 0)))
 fun j1 =>
 (Bg p1.fa p2.fj).bind fun v2 =>
 AW ((decide (0 ≤ v2)))
  (j1 true)
  ((Bg p1.fd p2.fj).bind fun v4 =>
  j1 (v4 == p2.fo))
def Gi (_ : Nat) (p0 : Af) (p1 : Int) : Option Int :=
 (Bg p0.fd p1).bind fun v1 =>
 (EB (0 ≤ v1)).bind fun _ =>
 Bh (fun (v3 : Int) =>
  some v3)
 fun j3 =>
 (Bg p0.fa p1).bind fun v4 =>
 AW ((decide (0 ≤ v4)))
  ((Bg p0.fa p1).bind fun v6 =>
  (EB (0 ≤ v6)).bind fun _ =>
  j3 (Pa .u8 ((CJ .u8 1 v1)) ((CJ .u8 1 v6))))
  (j3 (CJ .u8 1 v1))
def Dl (_ : Nat) (p0 : Int) : Option Int :=
 (Uh ((⟨⟨(List.append (List.append [8, 0, 1, 0, 2, 0, 1, 0, 3, 0, 1, 0, 2, 0, 1, 0, 4, 0, 1, 0, 2, 0, 1, 0, 3, 0, 1, 0, 2, 0, 1, 0, 5, 0, 1, 0, 2, 0, 1, 0, 3, 0, 1, 0, 2, 0, 1, 0, 4, 0, 1, 0, 2, 0, 1, 0, 3, 0, 1, 0, 2, 0, 1, 0] [6, 0, 1, 0, 2, 0, 1, 0, 3, 0, 1, 0, 2, 0, 1, 0, 4, 0, 1, 0, 2, 0, 1, 0, 3, 0, 1, 0, 2, 0, 1, 0, 5, 0, 1, 0, 2, 0, 1, 0, 3, 0, 1, 0, 2, 0, 1, 0, 4, 0, 1, 0, 2, 0, 1, 0, 3, 0, 1, 0, 2, 0, 1, 0]) (List.append [7, 0, 1, 0, 2, 0, 1, 0, 3, 0, 1, 0, 2, 0, 1, 0, 4, 0, 1, 0, 2, 0, 1, 0, 3, 0, 1, 0, 2, 0, 1, 0, 5, 0, 1, 0, 2, 0, 1, 0, 3, 0, 1, 0, 2, 0, 1, 0, 4, 0, 1, 0, 2, 0, 1, 0, 3, 0, 1, 0, 2, 0, 1, 0] [6, 0, 1, 0, 2, 0, 1, 0, 3, 0, 1, 0, 2, 0, 1, 0, 4, 0, 1, 0, 2, 0, 1, 0, 3, 0, 1, 0, 2, 0, 1, 0, 5, 0, 1, 0, 2, 0, 1, 0, 3, 0, 1, 0, 2, 0, 1, 0, 4, 0, 1, 0, 2, 0, 1, 0, 3, 0, 1, 0, 2, 0, 1, 0]))⟩⟩ : ByteArray)) p0).bind fun v1 =>
 some ((wI .i64 v1))
def DS (N : Nat) (p0 : AQ) (p2 : Int) (j1 : Unit → Option Bool) : Nat → Int → Option Bool
 | 0, _ => none
 | n1 + 1, v1 =>
  AW ((v1 != 0))
   ((Dl N v1).bind fun v4 =>
   (Bg p0.fm v4).bind fun v5 =>
   (Bg v5 p2).bind fun v6 =>
   AW ((!v6))
    (some false)
    (DS N p0 p2 j1 n1 (Gf .u8 v1 ((wI .u8 (v1 - 1))))))
   (j1 ())
def Gb (N : Nat) (p0 : AQ) (p1 : Int) (p2 : Int) : Option Bool :=
 DS N p0 p2 (fun (_ : Unit) =>
  some true) N p1
def Hg (N : Nat) (p0 : Ah) (p1 : Af) (p2 : Int) : Option (Bool × (List Int)) :=
 (Bg p0.fc p2).bind fun v1 =>
 (FX N v1).bind fun v2 =>
 AW ((!v2))
  (some (false, p1.fe))
  ((Gi N p1 v1.fi).bind fun v4 =>
  (Bg p1.fe p2).bind fun v5 =>
  Bh (fun (v6 : Bool) =>
   AW v6
    (some (false, p1.fe))
    ((Bg p1.fe p2).bind fun _ =>
    some (true, p1.fe.set ((p2).toNat) v4)))
  fun j6 =>
  (Bg p1.fe p2).bind fun v7 =>
  AW ((v7 == v4))
   (j6 true)
   (AW ((v1.fg == 4))
    ((Bg p1.fd v1.fi).bind fun v10 =>
    (Gb N v1 ((DF .u8 v5 v4)) v10).bind fun v11 =>
    j6 (!v11))
    (j6 false)))
def FM (N : Nat) (p0 : Ah) (p1 : Af) (p2 : As) : Option (Af × Bool) :=
 (GI N p1).bind fun v1 =>
 AW ((p2.fg == 1))
  ((Is N p0 v1 p2).bind fun v3 =>
  some ((Af.mk v1.fd v3.2.1 v3.2.2), v3.1))
  (AW ((p2.fg == 3))
   ((Hg N p0 v1 p2.fj).bind fun v5 =>
   some ((Af.mk v1.fd v1.fa v5.2), v5.1))
   ((Bg v1.fa p2.fj).bind fun v6 =>
   AW ((decide (v6 < 0)))
    (some (v1, false))
    ((Bg v1.fa p2.fj).bind fun _ =>
    Bh (fun (v9 : (List Int)) =>
     some ((Af.mk v9 (v1.fa.set ((p2.fj).toNat) ((-1))) v1.fe), true))
    fun j9 =>
    AW ((p2.fg == 2))
     ((Bg v1.fd p2.fj).bind fun _ =>
     j9 (v1.fd.set ((p2.fj).toNat) v6))
     (j9 v1.fd))))
def DP (N : Nat) (p0 : As) (p1 : List Int) (p2 : List Int) (p3 : List Int) (p4 : List AQ) (p5 : List Int) (p6 : List Int) (p7 : List Int) : Option Bool :=
 (FM N ((Ah.mk p1 p2 p3 p4)) ((Af.mk p5 p6 p7)) p0).bind fun v1 =>
 some ((!v1.2))
def Bl (N : Nat) (p0 : List As) (p1 : As → Option Bool) (j1 : Unit → Option Int) : Nat → Int → Option Int
 | 0, _ => none
 | n1 + 1, v1 =>
  AW ((decide (v1 < (p0.length : Int))))
   ((Bg p0 v1).bind fun v4 =>
   (p1 v4).bind fun v5 =>
   AW v5
    (some v1)
    (Bl N p0 p1 j1 n1 (wI .i64 (v1 + 1))))
   (j1 ())
def B6 (N : Nat) (p0 : List As) (p1 : As → Option Bool) : Option Int :=
 Bl N p0 p1 (fun (_ : Unit) =>
  some ((-1))) N 0
def Bd (N : Nat) (p1 : As → Option Bool) (j3 : ((List As) × Int) → Option (Nat × (List As))) : Nat → ((List As) × Int × Int) → Option (Nat × (List As))
 | 0, _ => none
 | n3 + 1, v3 =>
  AW ((decide (v3.2.2 < (v3.1.length : Int))))
   (Bh (fun (v6 : (List As) × Int) =>
    Bd N p1 j3 n3 (v6.1, v6.2, (wI .i64 (v3.2.2 + 1))))
   fun j6 =>
   (Bg v3.1 v3.2.2).bind fun v7 =>
   (p1 v7).bind fun v8 =>
   AW ((!v8))
    ((Bg v3.1 v3.2.1).bind fun _ =>
    j6 (v3.1.set ((v3.2.1).toNat) v7, (wI .i64 (v3.2.1 + 1))))
    (j6 (v3.1, v3.2.1)))
   (j3 (v3.1, v3.2.1))
def B0 (N : Nat) (p0 : List As) (p1 : As → Option Bool) : Option (Nat × (List As)) :=
 (B6 N p0 p1).bind fun v1 =>
 AW ((v1 == (-1)))
  (some (p0.length, p0))
  (Bd N p1 (fun (v4 : (List As) × Int) =>
   (EB ((0 : Int) ≤ v4.2 ∧ (v4.2).toNat ≤ v4.1.length ∧ v4.1.length ≤ v4.1.length)).bind fun _ =>
   (EB ((0 : Int) ≤ v4.2 ∧ 0 ≤ (v4.2).toNat ∧ (v4.2).toNat ≤ (IZ v4.1 ((v4.2).toNat) (List.replicate ((v4.1.length - (v4.2).toNat)) ((As.mk 0 0 0)))).length)).bind fun _ =>
   some ((v4.2).toNat, IZ v4.1 ((v4.2).toNat) (List.replicate ((v4.1.length - (v4.2).toNat)) ((As.mk 0 0 0))))) N (p0, v1, (wI .i64 (v1 + 1))))
def E7 (N : Nat) (p0 : Ah) (p1 : Af) : Option ((List As) × Int) :=
 (Fd N p0 p1).bind fun v1 =>
 AW ((v1 != 0))
  (some (([] : List As), v1))
  ((Iy N p0).bind fun v3 =>
  (B0 N v3 ((fun (x : As) => DP N x p0.fb p0.ff p0.fh p0.fc p1.fd p1.fa p1.fe))).bind fun v4 =>
  (EB (v4.1 ≤ v4.2.length)).bind fun _ =>
  some (v4.2.take v4.1, 0))
def Ha (_ : Nat) (p0 : As) : Option Bool :=
 Bh (fun (v1 : Bool) =>
  AW v1
   (some false)
   (Bh (fun (v5 : Bool) =>
    some v5)
   fun j5 =>
   AW ((p0.fg == 1))
    (j5 true)
    (j5 (p0.fo == 0))))
 fun j1 =>
 AW ((decide ((UD p0.fj p0.fo) < 0)))
  (j1 true)
  (AW ((decide (p0.fg < 1)))
   (j1 true)
   (j1 (decide (4 < p0.fg))))
def GJ (_ : Nat) (p0 : Ah) (p1 : As) : Option Bool :=
 AW ((p1.fg == 3))
  (some ((decide (p1.fj < (p0.fc.length : Int)))))
  (Bh (fun (v2 : Bool) =>
   some v2)
  fun j2 =>
  AW ((decide (p1.fj < (p0.fb.length : Int))))
   (AW ((p1.fg != 1))
    (j2 true)
    ((Bg p0.fb p1.fj).bind fun v5 =>
    j2 (decide (p1.fo < v5))))
   (j2 false))
def Hc (N : Nat) (p0 : Ah) (p1 : Af) (p2 : As) : Option (Af × Int) :=
 (Ha N p2).bind fun v1 =>
 AW ((!v1))
  (some ((Af.mk (([] : List Int)) (([] : List Int)) (([] : List Int))), 1))
  ((GJ N p0 p2).bind fun v3 =>
  AW ((!v3))
   (some ((Af.mk (([] : List Int)) (([] : List Int)) (([] : List Int))), 4))
   ((FM N p0 p1 p2).bind fun v5 =>
   AW ((!v5.2))
    (some ((Af.mk (([] : List Int)) (([] : List Int)) (([] : List Int))), 11))
    (some (v5.1, 0))))
def FP (N : Nat) (p0 : Ah) (p1 : Af) (p2 : As) : Option (Af × Int) :=
 (Fd N p0 p1).bind fun v1 =>
 AW ((v1 != 0))
  (some ((Af.mk (([] : List Int)) (([] : List Int)) (([] : List Int))), v1))
  ((Hc N p0 p1 p2).bind fun v3 =>
  some (v3.1, v3.2))
def Fh (N : Nat) (p0 : Ah) (p1 : Af) (v1 : (List As) × Int) (j2 : ((List As) × (List Af)) → Option ((List As) × (List Af))) : Nat → ((List As) × (List Af) × Int) → Option ((List As) × (List Af))
 | 0, _ => none
 | n2 + 1, v2 =>
  AW ((decide (v2.2.2 < (v1.1.length : Int))))
   (Bh (fun (v5 : (List As) × (List Af)) =>
    Fh N p0 p1 v1 j2 n2 (v5.1, v5.2, (wI .i64 (v2.2.2 + 1))))
   fun j5 =>
   (Bg v1.1 v2.2.2).bind fun v6 =>
   (FP N p0 p1 v6).bind fun v7 =>
   AW ((v7.2 != 0))
    (j5 (v2.1, v2.2.1))
    ((DW N p0 v7.1).bind fun v9 =>
    AW v9.1
     ((EB (v2.1.length + (([v6] : List As)).length ≤ Eg)).bind fun _ =>
     (EB (v2.2.1.length + (([v7.1] : List Af)).length ≤ Eg)).bind fun _ =>
     j5 (v2.1 ++ (([v6] : List As)), v2.2.1 ++ (([v7.1] : List Af))))
     (j5 (v2.1, v2.2.1))))
   (j2 (v2.1, v2.2.1))
def Hh (N : Nat) (p0 : Ah) (p1 : Af) : Option ((List As) × (List Af)) :=
 (E7 N p0 p1).bind fun v1 =>
 Fh N p0 p1 v1 (fun (v3 : (List As) × (List Af)) =>
  some (v3.1, v3.2)) N (([] : List As), ([] : List Af), 0)
def Hu (_ : Nat) (p0 : Int) : Option Int :=
 Bh (fun (v1 : Int × Int) =>
  Bh (fun (v3 : Int × Int) =>
   (Uh ((⟨⟨(List.append (List.append [0, 1, 2, 2, 3, 3, 3, 3, 4, 4, 4, 4, 4, 4, 4, 4, 5, 5, 5, 5, 5, 5, 5, 5, 5, 5, 5, 5, 5, 5, 5, 5, 6, 6, 6, 6, 6, 6, 6, 6, 6, 6, 6, 6, 6, 6, 6, 6, 6, 6, 6, 6, 6, 6, 6, 6, 6, 6, 6, 6, 6, 6, 6, 6] [7, 7, 7, 7, 7, 7, 7, 7, 7, 7, 7, 7, 7, 7, 7, 7, 7, 7, 7, 7, 7, 7, 7, 7, 7, 7, 7, 7, 7, 7, 7, 7, 7, 7, 7, 7, 7, 7, 7, 7, 7, 7, 7, 7, 7, 7, 7, 7, 7, 7, 7, 7, 7, 7, 7, 7, 7, 7, 7, 7, 7, 7, 7, 7]) (List.append [8, 8, 8, 8, 8, 8, 8, 8, 8, 8, 8, 8, 8, 8, 8, 8, 8, 8, 8, 8, 8, 8, 8, 8, 8, 8, 8, 8, 8, 8, 8, 8, 8, 8, 8, 8, 8, 8, 8, 8, 8, 8, 8, 8, 8, 8, 8, 8, 8, 8, 8, 8, 8, 8, 8, 8, 8, 8, 8, 8, 8, 8, 8, 8] [8, 8, 8, 8, 8, 8, 8, 8, 8, 8, 8, 8, 8, 8, 8, 8, 8, 8, 8, 8, 8, 8, 8, 8, 8, 8, 8, 8, 8, 8, 8, 8, 8, 8, 8, 8, 8, 8, 8, 8, 8, 8, 8, 8, 8, 8, 8, 8, 8, 8, 8, 8, 8, 8, 8, 8, 8, 8, 8, 8, 8, 8, 8, 8]))⟩⟩ : ByteArray)) ((wI .u8 v3.1))).bind fun v5 =>
   some ((wI .i64 (v3.2 + (wI .i64 v5)))))
  fun j3 =>
  AW ((decide (256 ≤ v1.1)))
   (j3 ((Eh .u32 v1.1 8), (wI .i64 (v1.2 + 8))))
   (j3 (v1.1, v1.2)))
 fun j1 =>
 AW ((decide (65536 ≤ p0)))
  (j1 ((Eh .u32 p0 16), 16))
  (j1 (p0, 0))
def Hw (_ : Nat) (p0 : Int) : Option Int :=
 Bh (fun (v1 : Int × Int) =>
  Bh (fun (v3 : Int × Int) =>
   Bh (fun (v5 : Int × Int) =>
    (Uh ((⟨⟨(List.append (List.append [0, 1, 2, 2, 3, 3, 3, 3, 4, 4, 4, 4, 4, 4, 4, 4, 5, 5, 5, 5, 5, 5, 5, 5, 5, 5, 5, 5, 5, 5, 5, 5, 6, 6, 6, 6, 6, 6, 6, 6, 6, 6, 6, 6, 6, 6, 6, 6, 6, 6, 6, 6, 6, 6, 6, 6, 6, 6, 6, 6, 6, 6, 6, 6] [7, 7, 7, 7, 7, 7, 7, 7, 7, 7, 7, 7, 7, 7, 7, 7, 7, 7, 7, 7, 7, 7, 7, 7, 7, 7, 7, 7, 7, 7, 7, 7, 7, 7, 7, 7, 7, 7, 7, 7, 7, 7, 7, 7, 7, 7, 7, 7, 7, 7, 7, 7, 7, 7, 7, 7, 7, 7, 7, 7, 7, 7, 7, 7]) (List.append [8, 8, 8, 8, 8, 8, 8, 8, 8, 8, 8, 8, 8, 8, 8, 8, 8, 8, 8, 8, 8, 8, 8, 8, 8, 8, 8, 8, 8, 8, 8, 8, 8, 8, 8, 8, 8, 8, 8, 8, 8, 8, 8, 8, 8, 8, 8, 8, 8, 8, 8, 8, 8, 8, 8, 8, 8, 8, 8, 8, 8, 8, 8, 8] [8, 8, 8, 8, 8, 8, 8, 8, 8, 8, 8, 8, 8, 8, 8, 8, 8, 8, 8, 8, 8, 8, 8, 8, 8, 8, 8, 8, 8, 8, 8, 8, 8, 8, 8, 8, 8, 8, 8, 8, 8, 8, 8, 8, 8, 8, 8, 8, 8, 8, 8, 8, 8, 8, 8, 8, 8, 8, 8, 8, 8, 8, 8, 8]))⟩⟩ : ByteArray)) ((wI .u8 v5.1))).bind fun v7 =>
    some ((wI .i64 (v5.2 + (wI .i64 v7)))))
   fun j5 =>
   AW ((decide (256 ≤ v3.1)))
    (j5 ((Eh .u64 v3.1 8), (wI .i64 (v3.2 + 8))))
    (j5 (v3.1, v3.2)))
  fun j3 =>
  AW ((decide (65536 ≤ v1.1)))
   (j3 ((Eh .u64 v1.1 16), (wI .i64 (v1.2 + 16))))
   (j3 (v1.1, v1.2)))
 fun j1 =>
 AW ((decide (4294967296 ≤ p0)))
  (j1 ((Eh .u64 p0 32), 32))
  (j1 (p0, 0))
def DH (N : Nat) (p0 : Int) : Option Int :=
 AW false
  ((Hu N ((wI .u32 p0))).bind fun v2 =>
  some v2)
  ((Hw N p0).bind fun v3 =>
  some v3)
variable {α : Type}
def Gs.insertionSort_L4 (N : Nat) (p1 : Int) (p3 : (α × α) → Option Int) (j4 : ((List α)) → Option ((List α))) : Nat → ((List α) × Int) → Option ((List α))
 | 0, _ => none
 | n4 + 1, v4 =>
  Bh (fun (v6 : Bool) =>
   AW v6
    ((Bg v4.1 ((wI .i64 (v4.2 - 1)))).bind fun v12 =>
    (Bg v4.1 v4.2).bind fun v13 =>
    (Bg v4.1 v4.2).bind fun _ =>
    (Bg (v4.1.set ((v4.2).toNat) v12) ((wI .i64 (v4.2 - 1)))).bind fun _ =>
    Gs.insertionSort_L4 N p1 p3 j4 n4 ((v4.1.set ((v4.2).toNat) v12).set (((wI .i64 (v4.2 - 1))).toNat) v13, (wI .i64 (v4.2 - 1))))
    (j4 v4.1))
  fun j6 =>
  AW ((decide (p1 < v4.2)))
   ((Bg v4.1 v4.2).bind fun v8 =>
   (Bg v4.1 ((wI .i64 (v4.2 - 1)))).bind fun v9 =>
   (p3 ((v8, v9))).bind fun v10 =>
   j6 (decide (v10 < 0)))
   (j6 false)
def Gs.insertionSort_L1 (N : Nat) (p1 : Int) (p2 : Int) (p3 : (α × α) → Option Int) (j1 : ((List α)) → Option ((List α))) : Nat → ((List α) × Int) → Option ((List α))
 | 0, _ => none
 | n1 + 1, v1 =>
  AW ((decide (v1.2 < p2)))
   (Gs.insertionSort_L4 N p1 p3 (fun (v5 : (List α)) =>
    Gs.insertionSort_L1 N p1 p2 p3 j1 n1 (v5, (wI .i64 (v1.2 + 1)))) N (v1.1, v1.2))
   (j1 v1.1)
def Gs.insertionSort (N : Nat) (p0 : List α) (p1 : Int) (p2 : Int) (p3 : (α × α) → Option Int) : Option ((List α)) :=
 Gs.insertionSort_L1 N p1 p2 p3 (fun (v2 : (List α)) =>
  some v2) N (p0, (wI .i64 (p1 + 1)))
def Gs.siftDown_L1 (N : Nat) (p2 : Int) (p3 : Int) (p4 : (α × α) → Option Int) (j1 : ((List α)) → Option ((List α))) : Nat → ((List α) × Int) → Option ((List α))
 | 0, _ => none
 | n1 + 1, v1 =>
  AW ((decide (p2 ≤ (wI .i64 ((wI .i64 (2 * v1.2)) + 1)))))
   (j1 v1.1)
   (Bh (fun (v4 : Int) =>
    (Bg v1.1 ((wI .i64 (p3 + v1.2)))).bind fun v11 =>
    (Bg v1.1 ((wI .i64 (p3 + v4)))).bind fun v12 =>
    (p4 ((v11, v12))).bind fun v13 =>
    AW ((!((decide (v13 < 0)))))
     (some v1.1)
     ((Bg v1.1 ((wI .i64 (p3 + v4)))).bind fun v15 =>
     (Bg v1.1 ((wI .i64 (p3 + v1.2)))).bind fun v16 =>
     (Bg v1.1 ((wI .i64 (p3 + v1.2)))).bind fun _ =>
     (Bg (v1.1.set (((wI .i64 (p3 + v1.2))).toNat) v15) ((wI .i64 (p3 + v4)))).bind fun _ =>
     Gs.siftDown_L1 N p2 p3 p4 j1 n1 ((v1.1.set (((wI .i64 (p3 + v1.2))).toNat) v15).set (((wI .i64 (p3 + v4))).toNat) v16, v4)))
   fun j4 =>
   Bh (fun (v5 : Bool) =>
    AW v5
     (j4 (wI .i64 ((wI .i64 ((wI .i64 (2 * v1.2)) + 1)) + 1)))
     (j4 (wI .i64 ((wI .i64 (2 * v1.2)) + 1))))
   fun j5 =>
   AW ((decide ((wI .i64 ((wI .i64 ((wI .i64 (2 * v1.2)) + 1)) + 1)) < p2)))
    ((Bg v1.1 ((wI .i64 (p3 + (wI .i64 ((wI .i64 (2 * v1.2)) + 1)))))).bind fun v7 =>
    (Bg v1.1 ((wI .i64 ((wI .i64 (p3 + (wI .i64 ((wI .i64 (2 * v1.2)) + 1)))) + 1)))).bind fun v8 =>
    (p4 ((v7, v8))).bind fun v9 =>
    j5 (decide (v9 < 0)))
    (j5 false))
def Gs.siftDown (N : Nat) (p0 : List α) (p1 : Int) (p2 : Int) (p3 : Int) (p4 : (α × α) → Option Int) : Option ((List α)) :=
 Gs.siftDown_L1 N p2 p3 p4 (fun (v2 : (List α)) =>
  some v2) N (p0, p1)
def Gs.heapSort_L1 (N : Nat) (p1 : Int) (p2 : Int) (p3 : (α × α) → Option Int) (j1 : ((List α)) → Option ((List α))) : Nat → ((List α) × Int) → Option ((List α))
 | 0, _ => none
 | n1 + 1, v1 =>
  AW ((decide (0 ≤ v1.2)))
   ((Gs.siftDown N v1.1 v1.2 ((wI .i64 (p2 - p1))) p1 p3).bind fun v4 =>
   Gs.heapSort_L1 N p1 p2 p3 j1 n1 (v4, (wI .i64 (v1.2 - 1))))
   (j1 v1.1)
def Gs.heapSort_L5 (N : Nat) (p1 : Int) (p3 : (α × α) → Option Int) (j5 : ((List α)) → Option ((List α))) : Nat → ((List α) × Int) → Option ((List α))
 | 0, _ => none
 | n5 + 1, v5 =>
  AW ((decide (0 ≤ v5.2)))
   ((Bg v5.1 ((wI .i64 (p1 + v5.2)))).bind fun v8 =>
   (Bg v5.1 p1).bind fun v9 =>
   (Bg v5.1 p1).bind fun _ =>
   (Bg (v5.1.set ((p1).toNat) v8) ((wI .i64 (p1 + v5.2)))).bind fun _ =>
   (Gs.siftDown N ((v5.1.set ((p1).toNat) v8).set (((wI .i64 (p1 + v5.2))).toNat) v9) 0 v5.2 p1 p3).bind fun v12 =>
   Gs.heapSort_L5 N p1 p3 j5 n5 (v12, (wI .i64 (v5.2 - 1))))
   (j5 v5.1)
def Gs.heapSort (N : Nat) (p0 : List α) (p1 : Int) (p2 : Int) (p3 : (α × α) → Option Int) : Option ((List α)) :=
 Gs.heapSort_L1 N p1 p2 p3 (fun (v2 : (List α)) =>
  Gs.heapSort_L5 N p1 p3 (fun (v6 : (List α)) =>
   some v6) N (v2, (wI .i64 ((wI .i64 (p2 - p1)) - 1)))) N (p0, (wI .i64 (Int.tdiv ((wI .i64 ((wI .i64 (p2 - p1)) - 1))) 2)))
def DV (N : Nat) (p0 : Int) : Option Int :=
 (DH N ((wI .u64 p0))).bind fun v1 =>
 (EB (0 ≤ v1)).bind fun _ =>
 some ((CJ .u64 1 v1))
def D8 (_ : Nat) (p0 : Int) : Option (Int × Int) :=
 some ((He .u64 ((He .u64 ((He .u64 p0 ((CJ .u64 p0 13)))) ((Eh .u64 ((He .u64 p0 ((CJ .u64 p0 13)))) 7)))) ((CJ .u64 ((He .u64 ((He .u64 p0 ((CJ .u64 p0 13)))) ((Eh .u64 ((He .u64 p0 ((CJ .u64 p0 13)))) 7)))) 17))), (He .u64 ((He .u64 ((He .u64 p0 ((CJ .u64 p0 13)))) ((Eh .u64 ((He .u64 p0 ((CJ .u64 p0 13)))) 7)))) ((CJ .u64 ((He .u64 ((He .u64 p0 ((CJ .u64 p0 13)))) ((Eh .u64 ((He .u64 p0 ((CJ .u64 p0 13)))) 7)))) 17))))
def Gs.breakPatterns_L3 (N : Nat) (p1 : Int) (p2 : Int) (v2 : Int) (j3 : ((List α)) → Option ((List α))) : Nat → ((List α) × Int × Int) → Option ((List α))
 | 0, _ => none
 | n3 + 1, v3 =>
  AW ((decide (v3.2.2 ≤ (wI .i64 ((wI .i64 (p1 + (wI .i64 ((wI .i64 (Int.tdiv ((wI .i64 (p2 - p1))) 4)) * 2)))) + 1)))))
   ((D8 N v3.2.1).bind fun v6 =>
   Bh (fun (v7 : Int) =>
    (Bg v3.1 ((wI .i64 (p1 + v7)))).bind fun v9 =>
    (Bg v3.1 v3.2.2).bind fun v10 =>
    (Bg v3.1 v3.2.2).bind fun _ =>
    (Bg (v3.1.set ((v3.2.2).toNat) v9) ((wI .i64 (p1 + v7)))).bind fun _ =>
    Gs.breakPatterns_L3 N p1 p2 v2 j3 n3 ((v3.1.set ((v3.2.2).toNat) v9).set (((wI .i64 (p1 + v7))).toNat) v10, v6.2, (wI .i64 (v3.2.2 + 1))))
   fun j7 =>
   AW ((decide ((wI .i64 (p2 - p1)) ≤ (wI .i64 ((Gf .u64 v6.1 ((wI .u64 (v2 - 1)))))))))
    (j7 (wI .i64 ((wI .i64 ((Gf .u64 v6.1 ((wI .u64 (v2 - 1)))))) - (wI .i64 (p2 - p1)))))
    (j7 (wI .i64 ((Gf .u64 v6.1 ((wI .u64 (v2 - 1))))))))
   (j3 v3.1)
def Gs.breakPatterns (N : Nat) (p0 : List α) (p1 : Int) (p2 : Int) (_ : (α × α) → Option Int) : Option ((List α)) :=
 AW ((decide (8 ≤ (wI .i64 (p2 - p1)))))
  ((DV N ((wI .i64 (p2 - p1)))).bind fun v2 =>
  Gs.breakPatterns_L3 N p1 p2 v2 (fun (v4 : (List α)) =>
   some v4) N (p0, (wI .u64 ((wI .i64 (p2 - p1)))), (wI .i64 ((wI .i64 (p1 + (wI .i64 ((wI .i64 (Int.tdiv ((wI .i64 (p2 - p1))) 4)) * 2)))) - 1))))
  (some p0)
def Gs.order2 (_ : Nat) (p0 : List α) (p1 : Int) (p2 : Int) (p3 : Int) (p4 : (α × α) → Option Int) : Option (Int × Int × Int) :=
 (Bg p0 p2).bind fun v1 =>
 (Bg p0 p1).bind fun v2 =>
 (p4 ((v1, v2))).bind fun v3 =>
 AW ((decide (v3 < 0)))
  (some (p2, p1, (wI .i64 (p3 + 1))))
  (some (p1, p2, p3))
def Gs.median (N : Nat) (p0 : List α) (p1 : Int) (p2 : Int) (p3 : Int) (p4 : Int) (p5 : (α × α) → Option Int) : Option (Int × Int) :=
 (Gs.order2 N p0 p1 p2 p4 p5).bind fun v1 =>
 (Gs.order2 N p0 v1.2.1 p3 v1.2.2 p5).bind fun v2 =>
 (Gs.order2 N p0 v1.1 v2.1 v2.2.2 p5).bind fun v3 =>
 some (v3.2.1, v3.2.2)
def Gs.medianAdjacent (N : Nat) (p0 : List α) (p1 : Int) (p2 : Int) (p3 : (α × α) → Option Int) : Option (Int × Int) :=
 (Gs.median N p0 ((wI .i64 (p1 - 1))) p1 ((wI .i64 (p1 + 1))) p2 p3).bind fun v1 =>
 some (v1.1, v1.2)
def Gs.choosePivot (N : Nat) (p0 : List α) (p1 : Int) (p2 : Int) (p3 : (α × α) → Option Int) : Option (Int × Int) :=
 Bh (fun (v1 : Int × Int) =>
  AW ((v1.1 == 0))
   (some (v1.2, 1))
   (AW ((v1.1 == 12))
    (some (v1.2, 2))
    (some (v1.2, 0))))
 fun j1 =>
 AW ((decide (8 ≤ (wI .i64 (p2 - p1)))))
  (Bh (fun (v3 : Int × Int × Int × Int) =>
   (Gs.median N p0 v3.2.1 v3.2.2.1 v3.2.2.2 v3.1 p3).bind fun v8 =>
   j1 (v8.2, v8.1))
  fun j3 =>
  AW ((decide (50 ≤ (wI .i64 (p2 - p1)))))
   ((Gs.medianAdjacent N p0 ((wI .i64 (p1 + (wI .i64 ((wI .i64 (Int.tdiv ((wI .i64 (p2 - p1))) 4)) * 1))))) 0 p3).bind fun v5 =>
   (Gs.medianAdjacent N p0 ((wI .i64 (p1 + (wI .i64 ((wI .i64 (Int.tdiv ((wI .i64 (p2 - p1))) 4)) * 2))))) v5.2 p3).bind fun v6 =>
   (Gs.medianAdjacent N p0 ((wI .i64 (p1 + (wI .i64 ((wI .i64 (Int.tdiv ((wI .i64 (p2 - p1))) 4)) * 3))))) v6.2 p3).bind fun v7 =>
   j3 (v7.2, v5.1, v6.1, v7.1))
   (j3 (0, (wI .i64 (p1 + (wI .i64 ((wI .i64 (Int.tdiv ((wI .i64 (p2 - p1))) 4)) * 1)))), (wI .i64 (p1 + (wI .i64 ((wI .i64 (Int.tdiv ((wI .i64 (p2 - p1))) 4)) * 2)))), (wI .i64 (p1 + (wI .i64 ((wI .i64 (Int.tdiv ((wI .i64 (p2 - p1))) 4)) * 3)))))))
  (j1 (0, (wI .i64 (p1 + (wI .i64 ((wI .i64 (Int.tdiv ((wI .i64 (p2 - p1))) 4)) * 2))))))
def Gs.reverseRange_L1 (N : Nat) (j1 : ((List α)) → Option ((List α))) : Nat → ((List α) × Int × Int) → Option ((List α))
 | 0, _ => none
 | n1 + 1, v1 =>
  AW ((decide (v1.2.1 < v1.2.2)))
   ((Bg v1.1 v1.2.2).bind fun v4 =>
   (Bg v1.1 v1.2.1).bind fun v5 =>
   (Bg v1.1 v1.2.1).bind fun _ =>
   (Bg (v1.1.set ((v1.2.1).toNat) v4) v1.2.2).bind fun _ =>
   Gs.reverseRange_L1 N j1 n1 ((v1.1.set ((v1.2.1).toNat) v4).set ((v1.2.2).toNat) v5, (wI .i64 (v1.2.1 + 1)), (wI .i64 (v1.2.2 - 1))))
   (j1 v1.1)
def Gs.reverseRange (N : Nat) (p0 : List α) (p1 : Int) (p2 : Int) (_ : (α × α) → Option Int) : Option ((List α)) :=
 Gs.reverseRange_L1 N (fun (v2 : (List α)) =>
  some v2) N (p0, p1, (wI .i64 (p2 - 1)))
def Gs.partialInsertionSort_L5 (N : Nat) (p2 : Int) (p3 : (α × α) → Option Int) (v1 : (List α) × Int × Int) (j5 : Int → Option (Bool × (List α))) : Nat → Int → Option (Bool × (List α))
 | 0, _ => none
 | n5 + 1, v5 =>
  Bh (fun (v7 : Bool) =>
   AW v7
    (Gs.partialInsertionSort_L5 N p2 p3 v1 j5 n5 (wI .i64 (v5 + 1)))
    (j5 v5))
  fun j7 =>
  AW ((decide (v5 < p2)))
   ((Bg v1.1 v5).bind fun v9 =>
   (Bg v1.1 ((wI .i64 (v5 - 1)))).bind fun v10 =>
   (p3 ((v9, v10))).bind fun v11 =>
   j7 (!((decide (v11 < 0)))))
   (j7 false)
def Gs.partialInsertionSort_L21 (N : Nat) (p3 : (α × α) → Option Int) (j21 : ((List α)) → Option (Bool × (List α))) : Nat → ((List α) × Int) → Option (Bool × (List α))
 | 0, _ => none
 | n21 + 1, v21 =>
  AW ((decide (1 ≤ v21.2)))
   ((Bg v21.1 v21.2).bind fun v24 =>
   (Bg v21.1 ((wI .i64 (v21.2 - 1)))).bind fun v25 =>
   (p3 ((v24, v25))).bind fun v26 =>
   AW ((!((decide (v26 < 0)))))
    (j21 v21.1)
    ((Bg v21.1 ((wI .i64 (v21.2 - 1)))).bind fun v28 =>
    (Bg v21.1 v21.2).bind fun v29 =>
    (Bg v21.1 v21.2).bind fun _ =>
    (Bg (v21.1.set ((v21.2).toNat) v28) ((wI .i64 (v21.2 - 1)))).bind fun _ =>
    Gs.partialInsertionSort_L21 N p3 j21 n21 ((v21.1.set ((v21.2).toNat) v28).set (((wI .i64 (v21.2 - 1))).toNat) v29, (wI .i64 (v21.2 - 1)))))
   (j21 v21.1)
def Gs.partialInsertionSort_L33 (N : Nat) (p2 : Int) (p3 : (α × α) → Option Int) (j33 : ((List α)) → Option (Bool × (List α))) : Nat → ((List α) × Int) → Option (Bool × (List α))
 | 0, _ => none
 | n33 + 1, v33 =>
  AW ((decide (v33.2 < p2)))
   ((Bg v33.1 v33.2).bind fun v36 =>
   (Bg v33.1 ((wI .i64 (v33.2 - 1)))).bind fun v37 =>
   (p3 ((v36, v37))).bind fun v38 =>
   AW ((!((decide (v38 < 0)))))
    (j33 v33.1)
    ((Bg v33.1 ((wI .i64 (v33.2 - 1)))).bind fun v40 =>
    (Bg v33.1 v33.2).bind fun v41 =>
    (Bg v33.1 v33.2).bind fun _ =>
    (Bg (v33.1.set ((v33.2).toNat) v40) ((wI .i64 (v33.2 - 1)))).bind fun _ =>
    Gs.partialInsertionSort_L33 N p2 p3 j33 n33 ((v33.1.set ((v33.2).toNat) v40).set (((wI .i64 (v33.2 - 1))).toNat) v41, (wI .i64 (v33.2 + 1)))))
   (j33 v33.1)
def Gs.partialInsertionSort_L1 (N : Nat) (p1 : Int) (p2 : Int) (p3 : (α × α) → Option Int) (j1 : ((List α)) → Option (Bool × (List α))) : Nat → ((List α) × Int × Int) → Option (Bool × (List α))
 | 0, _ => none
 | n1 + 1, v1 =>
  AW ((decide (v1.2.2 < 5)))
   (Bh (fun (v4 : (List α) × Int) =>
    Gs.partialInsertionSort_L1 N p1 p2 p3 j1 n1 (v4.1, v4.2, (wI .i64 (v1.2.2 + 1))))
   fun j4 =>
   Gs.partialInsertionSort_L5 N p2 p3 v1 (fun (v6 : Int) =>
    AW ((v6 == p2))
     (some (true, v1.1))
     (AW ((decide ((wI .i64 (p2 - p1)) < 50)))
      (some (false, v1.1))
      ((Bg v1.1 ((wI .i64 (v6 - 1)))).bind fun v15 =>
      (Bg v1.1 v6).bind fun v16 =>
      (Bg v1.1 v6).bind fun _ =>
      (Bg (v1.1.set ((v6).toNat) v15) ((wI .i64 (v6 - 1)))).bind fun _ =>
      Bh (fun (v19 : (List α)) =>
       AW ((decide (2 ≤ (wI .i64 (p2 - v6)))))
        (Gs.partialInsertionSort_L33 N p2 p3 (fun (v34 : (List α)) =>
         j4 (v34, v6)) N (v19, (wI .i64 (v6 + 1))))
        (j4 (v19, v6)))
      fun j19 =>
      AW ((decide (2 ≤ (wI .i64 (v6 - p1)))))
       (Gs.partialInsertionSort_L21 N p3 (fun (v22 : (List α)) =>
        j19 v22) N ((v1.1.set ((v6).toNat) v15).set (((wI .i64 (v6 - 1))).toNat) v16, (wI .i64 (v6 - 1))))
       (j19 ((v1.1.set ((v6).toNat) v15).set (((wI .i64 (v6 - 1))).toNat) v16))))) N v1.2.1)
   (j1 v1.1)
def Gs.partialInsertionSort (N : Nat) (p0 : List α) (p1 : Int) (p2 : Int) (p3 : (α × α) → Option Int) : Option (Bool × (List α)) :=
 Gs.partialInsertionSort_L1 N p1 p2 p3 (fun (v2 : (List α)) =>
  some (false, v2)) N (p0, (wI .i64 (p1 + 1)), 0)
def Gs.partitionEqual_L7 (N : Nat) (p1 : Int) (p4 : (α × α) → Option Int) (v5 : (List α) × Int × Int) (j7 : Int → Option (Int × (List α))) : Nat → Int → Option (Int × (List α))
 | 0, _ => none
 | n7 + 1, v7 =>
  Bh (fun (v9 : Bool) =>
   AW v9
    (Gs.partitionEqual_L7 N p1 p4 v5 j7 n7 (wI .i64 (v7 + 1)))
    (j7 v7))
  fun j9 =>
  AW ((decide (v7 ≤ v5.2.2)))
   ((Bg v5.1 p1).bind fun v11 =>
   (Bg v5.1 v7).bind fun v12 =>
   (p4 ((v11, v12))).bind fun v13 =>
   j9 (!((decide (v13 < 0)))))
   (j9 false)
def Gs.partitionEqual_L15 (N : Nat) (p1 : Int) (p4 : (α × α) → Option Int) (v5 : (List α) × Int × Int) (v8 : Int) (j15 : Int → Option (Int × (List α))) : Nat → Int → Option (Int × (List α))
 | 0, _ => none
 | n15 + 1, v15 =>
  Bh (fun (v17 : Bool) =>
   AW v17
    (Gs.partitionEqual_L15 N p1 p4 v5 v8 j15 n15 (wI .i64 (v15 - 1)))
    (j15 v15))
  fun j17 =>
  AW ((decide (v8 ≤ v15)))
   ((Bg v5.1 p1).bind fun v19 =>
   (Bg v5.1 v15).bind fun v20 =>
   (p4 ((v19, v20))).bind fun v21 =>
   j17 (decide (v21 < 0)))
   (j17 false)
def Gs.partitionEqual_L5 (N : Nat) (p1 : Int) (p4 : (α × α) → Option Int) (j5 : ((List α) × Int) → Option (Int × (List α))) : Nat → ((List α) × Int × Int) → Option (Int × (List α))
 | 0, _ => none
 | n5 + 1, v5 =>
  Gs.partitionEqual_L7 N p1 p4 v5 (fun (v8 : Int) =>
   Gs.partitionEqual_L15 N p1 p4 v5 v8 (fun (v16 : Int) =>
    AW ((decide (v16 < v8)))
     (j5 (v5.1, v8))
     ((Bg v5.1 v16).bind fun v24 =>
     (Bg v5.1 v8).bind fun v25 =>
     (Bg v5.1 v8).bind fun _ =>
     (Bg (v5.1.set ((v8).toNat) v24) v16).bind fun _ =>
     Gs.partitionEqual_L5 N p1 p4 j5 n5 ((v5.1.set ((v8).toNat) v24).set ((v16).toNat) v25, (wI .i64 (v8 + 1)), (wI .i64 (v16 - 1))))) N v5.2.2) N v5.2.1
def Gs.partitionEqual (N : Nat) (p0 : List α) (p1 : Int) (p2 : Int) (p3 : Int) (p4 : (α × α) → Option Int) : Option (Int × (List α)) :=
 (Bg p0 p3).bind fun v1 =>
 (Bg p0 p1).bind fun v2 =>
 (Bg p0 p1).bind fun _ =>
 (Bg (p0.set ((p1).toNat) v1) p3).bind fun _ =>
 Gs.partitionEqual_L5 N p1 p4 (fun (v6 : (List α) × Int) =>
  some (v6.2, v6.1)) N ((p0.set ((p1).toNat) v1).set ((p3).toNat) v2, (wI .i64 (p1 + 1)), (wI .i64 (p2 - 1)))
def Gs.partition_L5 (N : Nat) (p0 : List α) (p1 : Int) (p2 : Int) (p3 : Int) (p4 : (α × α) → Option Int) (v1 : α) (v2 : α) (j5 : Int → Option (Int × Bool × (List α))) : Nat → Int → Option (Int × Bool × (List α))
 | 0, _ => none
 | n5 + 1, v5 =>
  Bh (fun (v7 : Bool) =>
   AW v7
    (Gs.partition_L5 N p0 p1 p2 p3 p4 v1 v2 j5 n5 (wI .i64 (v5 + 1)))
    (j5 v5))
  fun j7 =>
  AW ((decide (v5 ≤ (wI .i64 (p2 - 1)))))
   ((Bg ((p0.set ((p1).toNat) v1).set ((p3).toNat) v2) v5).bind fun v9 =>
   (Bg ((p0.set ((p1).toNat) v1).set ((p3).toNat) v2) p1).bind fun v10 =>
   (p4 ((v9, v10))).bind fun v11 =>
   j7 (decide (v11 < 0)))
   (j7 false)
def Gs.partition_L13 (N : Nat) (p0 : List α) (p1 : Int) (p3 : Int) (p4 : (α × α) → Option Int) (v1 : α) (v2 : α) (v6 : Int) (j13 : Int → Option (Int × Bool × (List α))) : Nat → Int → Option (Int × Bool × (List α))
 | 0, _ => none
 | n13 + 1, v13 =>
  Bh (fun (v15 : Bool) =>
   AW v15
    (Gs.partition_L13 N p0 p1 p3 p4 v1 v2 v6 j13 n13 (wI .i64 (v13 - 1)))
    (j13 v13))
  fun j15 =>
  AW ((decide (v6 ≤ v13)))
   ((Bg ((p0.set ((p1).toNat) v1).set ((p3).toNat) v2) v13).bind fun v17 =>
   (Bg ((p0.set ((p1).toNat) v1).set ((p3).toNat) v2) p1).bind fun v18 =>
   (p4 ((v17, v18))).bind fun v19 =>
   j15 (!((decide (v19 < 0)))))
   (j15 false)
def Gs.partition_L32 (N : Nat) (p1 : Int) (p4 : (α × α) → Option Int) (v30 : (List α) × Int × Int) (j32 : Int → Option (Int × Bool × (List α))) : Nat → Int → Option (Int × Bool × (List α))
 | 0, _ => none
 | n32 + 1, v32 =>
  Bh (fun (v34 : Bool) =>
   AW v34
    (Gs.partition_L32 N p1 p4 v30 j32 n32 (wI .i64 (v32 + 1)))
    (j32 v32))
  fun j34 =>
  AW ((decide (v32 ≤ v30.2.2)))
   ((Bg v30.1 v32).bind fun v36 =>
   (Bg v30.1 p1).bind fun v37 =>
   (p4 ((v36, v37))).bind fun v38 =>
   j34 (decide (v38 < 0)))
   (j34 false)
def Gs.partition_L40 (N : Nat) (p1 : Int) (p4 : (α × α) → Option Int) (v30 : (List α) × Int × Int) (v33 : Int) (j40 : Int → Option (Int × Bool × (List α))) : Nat → Int → Option (Int × Bool × (List α))
 | 0, _ => none
 | n40 + 1, v40 =>
  Bh (fun (v42 : Bool) =>
   AW v42
    (Gs.partition_L40 N p1 p4 v30 v33 j40 n40 (wI .i64 (v40 - 1)))
    (j40 v40))
  fun j42 =>
  AW ((decide (v33 ≤ v40)))
   ((Bg v30.1 v40).bind fun v44 =>
   (Bg v30.1 p1).bind fun v45 =>
   (p4 ((v44, v45))).bind fun v46 =>
   j42 (!((decide (v46 < 0)))))
   (j42 false)
def Gs.partition_L30 (N : Nat) (p1 : Int) (p4 : (α × α) → Option Int) (j30 : ((List α) × Int) → Option (Int × Bool × (List α))) : Nat → ((List α) × Int × Int) → Option (Int × Bool × (List α))
 | 0, _ => none
 | n30 + 1, v30 =>
  Gs.partition_L32 N p1 p4 v30 (fun (v33 : Int) =>
   Gs.partition_L40 N p1 p4 v30 v33 (fun (v41 : Int) =>
    AW ((decide (v41 < v33)))
     (j30 (v30.1, v41))
     ((Bg v30.1 v41).bind fun v49 =>
     (Bg v30.1 v33).bind fun v50 =>
     (Bg v30.1 v33).bind fun _ =>
     (Bg (v30.1.set ((v33).toNat) v49) v41).bind fun _ =>
     Gs.partition_L30 N p1 p4 j30 n30 ((v30.1.set ((v33).toNat) v49).set ((v41).toNat) v50, (wI .i64 (v33 + 1)), (wI .i64 (v41 - 1))))) N v30.2.2) N v30.2.1
def Gs.partition (N : Nat) (p0 : List α) (p1 : Int) (p2 : Int) (p3 : Int) (p4 : (α × α) → Option Int) : Option (Int × Bool × (List α)) :=
 (Bg p0 p3).bind fun v1 =>
 (Bg p0 p1).bind fun v2 =>
 (Bg p0 p1).bind fun _ =>
 (Bg (p0.set ((p1).toNat) v1) p3).bind fun _ =>
 Gs.partition_L5 N p0 p1 p2 p3 p4 v1 v2 (fun (v6 : Int) =>
  Gs.partition_L13 N p0 p1 p3 p4 v1 v2 v6 (fun (v14 : Int) =>
   AW ((decide (v14 < v6)))
    ((Bg ((p0.set ((p1).toNat) v1).set ((p3).toNat) v2) p1).bind fun v22 =>
    (Bg ((p0.set ((p1).toNat) v1).set ((p3).toNat) v2) v14).bind fun v23 =>
    (Bg ((p0.set ((p1).toNat) v1).set ((p3).toNat) v2) v14).bind fun _ =>
    (Bg (((p0.set ((p1).toNat) v1).set ((p3).toNat) v2).set ((v14).toNat) v22) p1).bind fun _ =>
    some (v14, true, (((p0.set ((p1).toNat) v1).set ((p3).toNat) v2).set ((v14).toNat) v22).set ((p1).toNat) v23))
    ((Bg ((p0.set ((p1).toNat) v1).set ((p3).toNat) v2) v14).bind fun v26 =>
    (Bg ((p0.set ((p1).toNat) v1).set ((p3).toNat) v2) v6).bind fun v27 =>
    (Bg ((p0.set ((p1).toNat) v1).set ((p3).toNat) v2) v6).bind fun _ =>
    (Bg (((p0.set ((p1).toNat) v1).set ((p3).toNat) v2).set ((v6).toNat) v26) v14).bind fun _ =>
    Gs.partition_L30 N p1 p4 (fun (v31 : (List α) × Int) =>
     (Bg v31.1 p1).bind fun v53 =>
     (Bg v31.1 v31.2).bind fun v54 =>
     (Bg v31.1 v31.2).bind fun _ =>
     (Bg (v31.1.set ((v31.2).toNat) v53) p1).bind fun _ =>
     some (v31.2, false, (v31.1.set ((v31.2).toNat) v53).set ((p1).toNat) v54)) N ((((p0.set ((p1).toNat) v1).set ((p3).toNat) v2).set ((v6).toNat) v26).set ((v14).toNat) v27, (wI .i64 (v6 + 1)), (wI .i64 (v14 - 1))))) N (wI .i64 (p2 - 1))) N (wI .i64 (p1 + 1))
def Gs.pdqsort_L1 (N : Nat) (p4 : (α × α) → Option Int) (rc : (List α) → Int → Int → Int → ((α × α) → Option Int) → Option ((List α))) (j1 : Unit → Option ((List α))) : Nat → ((List α) × Int × Int × Int × Bool × Bool) → Option ((List α))
 | 0, _ => none
 | n1 + 1, v1 =>
  AW ((decide ((wI .i64 (v1.2.2.1 - v1.2.1)) ≤ 12)))
   ((Gs.insertionSort N v1.1 v1.2.1 v1.2.2.1 p4).bind fun v4 =>
   some v4)
   (AW ((v1.2.2.2.1 == 0))
    ((Gs.heapSort N v1.1 v1.2.1 v1.2.2.1 p4).bind fun v6 =>
    some v6)
    (Bh (fun (v7 : (List α) × Int) =>
     (Gs.choosePivot N v7.1 v1.2.1 v1.2.2.1 p4).bind fun v10 =>
     Bh (fun (v11 : (List α) × Int × Int) =>
      Bh (fun (v14 : (List α)) =>
       Bh (fun (v21 : Bool) =>
        AW v21
         ((Gs.partitionEqual N v14 v1.2.1 v1.2.2.1 v11.2.1 p4).bind fun v27 =>
         Gs.pdqsort_L1 N p4 rc j1 n1 (v27.2, v27.1, v1.2.2.1, v7.2, v1.2.2.2.2.1, v1.2.2.2.2.2))
         ((Gs.partition N v14 v1.2.1 v1.2.2.1 v11.2.1 p4).bind fun v28 =>
         AW ((decide ((wI .i64 (v28.1 - v1.2.1)) < (wI .i64 (v1.2.2.1 - v28.1)))))
          ((rc v28.2.2 v1.2.1 v28.1 v7.2 p4).bind fun v30 =>
          Gs.pdqsort_L1 N p4 rc j1 n1 (v30, (wI .i64 (v28.1 + 1)), v1.2.2.1, v7.2, (decide ((wI .i64 (Int.tdiv ((wI .i64 (v1.2.2.1 - v1.2.1))) 8)) ≤ (wI .i64 (v28.1 - v1.2.1)))), v28.2.1))
          ((rc v28.2.2 ((wI .i64 (v28.1 + 1))) v1.2.2.1 v7.2 p4).bind fun v31 =>
          Gs.pdqsort_L1 N p4 rc j1 n1 (v31, v1.2.1, v28.1, v7.2, (decide ((wI .i64 (Int.tdiv ((wI .i64 (v1.2.2.1 - v1.2.1))) 8)) ≤ (wI .i64 (v1.2.2.1 - v28.1)))), v28.2.1))))
       fun j21 =>
       AW ((decide (0 < v1.2.1)))
        ((Bg v14 ((wI .i64 (v1.2.1 - 1)))).bind fun v23 =>
        (Bg v14 v11.2.1).bind fun v24 =>
        (p4 ((v23, v24))).bind fun v25 =>
        j21 (!((decide (v25 < 0)))))
        (j21 false))
      fun j14 =>
      Bh (fun (v15 : Bool) =>
       AW v15
        ((Gs.partialInsertionSort N v11.1 v1.2.1 v1.2.2.1 p4).bind fun v19 =>
        AW v19.1
         (some v19.2)
         (j14 v19.2))
        (j14 v11.1))
      fun j15 =>
      AW v1.2.2.2.2.1
       (AW v1.2.2.2.2.2
        (j15 (v11.2.2 == 1))
        (j15 false))
       (j15 false))
     fun j11 =>
     AW ((v10.2 == 2))
      ((Gs.reverseRange N v7.1 v1.2.1 v1.2.2.1 p4).bind fun v13 =>
      j11 (v13, (wI .i64 ((wI .i64 (v1.2.2.1 - 1)) - (wI .i64 (v10.1 - v1.2.1)))), 1))
      (j11 (v7.1, v10.1, v10.2)))
    fun j7 =>
    AW ((!v1.2.2.2.2.1))
     ((Gs.breakPatterns N v1.1 v1.2.1 v1.2.2.1 p4).bind fun v9 =>
     j7 (v9, (wI .i64 (v1.2.2.2.1 - 1))))
     (j7 (v1.1, v1.2.2.2.1))))
def Gs.pdqsort_B (N : Nat) (rc : (List α) → Int → Int → Int → ((α × α) → Option Int) → Option ((List α))) (p0 : List α) (p1 : Int) (p2 : Int) (p3 : Int) (p4 : (α × α) → Option Int) : Option ((List α)) :=
 Gs.pdqsort_L1 N p4 rc (fun (_ : Unit) =>
  none) N (p0, p1, p2, p3, true, true)
def Gs.pdqsort_R (N : Nat) : Nat → (List α) → Int → Int → Int → ((α × α) → Option Int) → Option ((List α))
 | 0, _, _, _, _, _ => none
 | k + 1, p0, p1, p2, p3, p4 => Gs.pdqsort_B N (Gs.pdqsort_R N k) p0 p1 p2 p3 p4
def Gs.pdqsort (N : Nat) (p0 : List α) (p1 : Int) (p2 : Int) (p3 : Int) (p4 : (α × α) → Option Int) : Option ((List α)) := Gs.pdqsort_R N N p0 p1 p2 p3 p4
def BU (N : Nat) (p0 : List Af) (p1 : (Af × Af) → Option Int) : Option ((List Af)) :=
 (DH N ((wI .u64 ((p0.length : Int))))).bind fun v1 =>
 (Gs.pdqsort N p0 0 ((p0.length : Int)) v1 p1).bind fun v2 =>
 some v2
def F2 (_ : Nat) (p0 : Int) : Option Bool :=
 some ((p0 != p0))
def Dy (N : Nat) (p0 : Int) (p1 : Int) : Option Int :=
 (F2 N p0).bind fun v1 =>
 (F2 N p1).bind fun v2 =>
 AW v1
  (AW v2
   (some 0)
   (some ((-1))))
  (AW v2
   (some 1)
   (AW ((decide (p0 < p1)))
    (some ((-1)))
    (AW ((decide (p1 < p0)))
     (some 1)
     (some 0))))
def CA (N : Nat) (p0 : List Int) (p1 : List Int) (j1 : Unit → Option Int) : Nat → Int → Option Int
 | 0, _ => none
 | n1 + 1, v1 =>
  AW ((decide (v1 < (p0.length : Int))))
   ((Bg p0 v1).bind fun v4 =>
   AW ((decide ((p1.length : Int) ≤ v1)))
    (some 1)
    ((Bg p1 v1).bind fun v6 =>
    (Dy N v4 v6).bind fun v7 =>
    AW ((v7 != 0))
     (some v7)
     (CA N p0 p1 j1 n1 (wI .i64 (v1 + 1)))))
   (j1 ())
def C7 (N : Nat) (p0 : List Int) (p1 : List Int) : Option Int :=
 CA N p0 p1 (fun (_ : Unit) =>
  AW ((decide ((p0.length : Int) < (p1.length : Int))))
   (some ((-1)))
   (some 0)) N 0
def EX (_ : Nat) (p0 : Int) : Option Bool :=
 some ((p0 != p0))
def Ej (N : Nat) (p0 : Int) (p1 : Int) : Option Int :=
 (EX N p0).bind fun v1 =>
 (EX N p1).bind fun v2 =>
 AW v1
  (AW v2
   (some 0)
   (some ((-1))))
  (AW v2
   (some 1)
   (AW ((decide (p0 < p1)))
    (some ((-1)))
    (AW ((decide (p1 < p0)))
     (some 1)
     (some 0))))
def BJ (N : Nat) (p0 : List Int) (p1 : List Int) (j1 : Unit → Option Int) : Nat → Int → Option Int
 | 0, _ => none
 | n1 + 1, v1 =>
  AW ((decide (v1 < (p0.length : Int))))
   ((Bg p0 v1).bind fun v4 =>
   AW ((decide ((p1.length : Int) ≤ v1)))
    (some 1)
    ((Bg p1 v1).bind fun v6 =>
    (Ej N v4 v6).bind fun v7 =>
    AW ((v7 != 0))
     (some v7)
     (BJ N p0 p1 j1 n1 (wI .i64 (v1 + 1)))))
   (j1 ())
def Cx (N : Nat) (p0 : List Int) (p1 : List Int) : Option Int :=
 BJ N p0 p1 (fun (_ : Unit) =>
  AW ((decide ((p0.length : Int) < (p1.length : Int))))
   (some ((-1)))
   (some 0)) N 0
def Fg (N : Nat) (p0 : List Int) (j1 : Unit → Option Int) : Nat → Int → Option Int
 | 0, _ => none
 | n1 + 1, v1 =>
  AW ((decide (v1 < (p0.length : Int))))
   ((Bg p0 v1).bind fun v4 =>
   AW ((v4 != 0))
    (some v4)
    (Fg N p0 j1 n1 (wI .i64 (v1 + 1))))
   (j1 ())
def Gm (N : Nat) (p0 : List Int) : Option Int :=
 Fg N p0 (fun (_ : Unit) =>
  some 0) N 0
def BR (N : Nat) (p0 : Af) (p1 : Af) : Option Int :=
 (C7 N p0.fd p1.fd).bind fun v1 =>
 (C7 N p0.fa p1.fa).bind fun v2 =>
 (Cx N p0.fe p1.fe).bind fun v3 =>
 (Gm N (([v1, v2, v3] : List Int))).bind fun v4 =>
 some v4
def En (N : Nat) (v10 : (List As) × (List Af)) (j11 : ((List Af) × (List (ByteArray × Bool))) → Option ((List Af) × Int)) : Nat → ((List Af) × (List (ByteArray × Bool)) × Int) → Option ((List Af) × Int)
 | 0, _ => none
 | n11 + 1, v11 =>
  AW ((decide (v11.2.2 < (v10.2.length : Int))))
   (Bh (fun (v14 : (List Af) × (List (ByteArray × Bool))) =>
    En N v10 j11 n11 (v14.1, v14.2, (wI .i64 (v11.2.2 + 1))))
   fun j14 =>
   (Bg v10.2 v11.2.2).bind fun v15 =>
   (F7 N v15).bind fun v16 =>
   AW ((!(((LA v16 v11.2.1).getD false))))
    ((F7 N v15).bind fun v18 =>
    (EB (v11.1.length + (([v15] : List Af)).length ≤ Eg)).bind fun _ =>
    j14 (v11.1 ++ (([v15] : List Af)), M6 v18 true v11.2.1))
    (j14 (v11.1, v11.2.1)))
   (j11 (v11.1, v11.2.1))
def D0 (N : Nat) (p0 : Ah) (j6 : ((List Af)) → Option ((List Af) × Int)) : Nat → ((List Af) × (List (ByteArray × Bool)) × Int) → Option ((List Af) × Int)
 | 0, _ => none
 | n6 + 1, v6 =>
  AW ((decide (v6.2.2 < (v6.1.length : Int))))
   ((Bg v6.1 v6.2.2).bind fun v9 =>
   (Hh N p0 v9).bind fun v10 =>
   En N v10 (fun (v12 : (List Af) × (List (ByteArray × Bool))) =>
    AW ((decide (20000 < (v12.1.length : Int))))
     (some (([] : List Af), 3))
     (D0 N p0 j6 n6 (v12.1, v12.2, (wI .i64 (v6.2.2 + 1))))) N (v6.1, v6.2.1, 0))
   (j6 v6.1)
def E4 (N : Nat) (p0 : Ah) : Option ((List Af) × Int) :=
 (GK N p0).bind fun v1 =>
 Bh (fun (v2 : Bool) =>
  AW v2
   (some (([] : List Af), v1.2.2))
   ((F7 N v1.1).bind fun v5 =>
   D0 N p0 (fun (v7 : (List Af)) =>
    (BU N v7 ((fun (x : Af × Af) => BR N x.1 x.2))).bind fun v21 =>
    some (v21, 0)) N (([v1.1] : List Af), M6 v5 true (([] : List (ByteArray × Bool))), 0)))
 fun j2 =>
 AW ((v1.2.2 != 0))
  (j2 true)
  (j2 (!v1.2.1))
def Cl (N : Nat) (p0 : List Int) (p1 : List Int) (j2 : Unit → Option Bool) : Nat → Int → Option Bool
 | 0, _ => none
 | n2 + 1, v2 =>
  AW ((decide (v2 < (p0.length : Int))))
   ((Bg p0 v2).bind fun v5 =>
   (Bg p1 v2).bind fun v6 =>
   AW ((v5 != v6))
    (some false)
    (Cl N p0 p1 j2 n2 (wI .i64 (v2 + 1))))
   (j2 ())
def Ea (N : Nat) (p0 : List Int) (p1 : List Int) : Option Bool :=
 AW (((p0.length : Int) != (p1.length : Int)))
  (some false)
  (Cl N p0 p1 (fun (_ : Unit) =>
   some true) N 0)
def Bw (N : Nat) (p0 : List Int) (p1 : Int → Option Bool) (j1 : Unit → Option Int) : Nat → Int → Option Int
 | 0, _ => none
 | n1 + 1, v1 =>
  AW ((decide (v1 < (p0.length : Int))))
   ((Bg p0 v1).bind fun v4 =>
   (p1 v4).bind fun v5 =>
   AW v5
    (some v1)
    (Bw N p0 p1 j1 n1 (wI .i64 (v1 + 1))))
   (j1 ())
def Ef (N : Nat) (p0 : List Int) (p1 : Int → Option Bool) : Option Int :=
 Bw N p0 p1 (fun (_ : Unit) =>
  some ((-1))) N 0
def CX (N : Nat) (p0 : List Int) (p1 : Int → Option Bool) : Option Bool :=
 (Ef N p0 p1).bind fun v1 =>
 some ((decide (0 ≤ v1)))
def Hk (_ : Nat) (p0 : Int) : Option Bool :=
 some ((decide (0 ≤ p0)))
def HH (N : Nat) (p0 : Ah) (p1 : Af) : Option Bool :=
 Bh (fun (v1 : Bool) =>
  some v1)
 fun j1 =>
 (Fd N p0 p1).bind fun v2 =>
 AW ((v2 == 0))
  ((Ea N p1.fd p0.fh).bind fun v4 =>
  AW v4
   ((CX N p1.fa ((fun (x : Int) => Hk N x))).bind fun v6 =>
   j1 (!v6))
   (j1 false))
  (j1 false)
def Ei (N : Nat) (p0 : Af) (p1 : List Int) (p2 : List Int) (p3 : List Int) (p4 : List AQ) : Option Bool :=
 (HH N ((Ah.mk p1 p2 p3 p4)) p0).bind fun v1 =>
 some v1
def Bp (N : Nat) (p0 : List Af) (p1 : Af → Option Bool) (j1 : Unit → Option Int) : Nat → Int → Option Int
 | 0, _ => none
 | n1 + 1, v1 =>
  AW ((decide (v1 < (p0.length : Int))))
   ((Bg p0 v1).bind fun v4 =>
   (p1 v4).bind fun v5 =>
   AW v5
    (some v1)
    (Bp N p0 p1 j1 n1 (wI .i64 (v1 + 1))))
   (j1 ())
def CZ (N : Nat) (p0 : List Af) (p1 : Af → Option Bool) : Option Int :=
 Bp N p0 p1 (fun (_ : Unit) =>
  some ((-1))) N 0
def B1 (N : Nat) (p0 : List Af) (p1 : Af → Option Bool) : Option Bool :=
 (CZ N p0 p1).bind fun v1 =>
 some ((decide (0 ≤ v1)))
def Fy (N : Nat) (p0 : Ah) : Option ((List Af) × Int) :=
 (E4 N p0).bind fun v1 =>
 AW ((v1.2 != 0))
  (some (([] : List Af), v1.2))
  ((B1 N v1.1 ((fun (x : Af) => Ei N x p0.fb p0.ff p0.fh p0.fc))).bind fun v3 =>
  AW v3
   (some (([] : List Af), 15))
   (some (v1.1, 0)))
def FE (N : Nat) (p0 : Ah) (p1 : Af) (v1 : (List As) × Int) (j3 : ((List CD)) → Option ((List CD) × Int)) : Nat → ((List CD) × Int) → Option ((List CD) × Int)
 | 0, _ => none
 | n3 + 1, v3 =>
  AW ((decide (v3.2 < (v1.1.length : Int))))
   (Bh (fun (v6 : (List CD)) =>
    FE N p0 p1 v1 j3 n3 (v6, (wI .i64 (v3.2 + 1))))
   fun j6 =>
   (Bg v1.1 v3.2).bind fun v7 =>
   (FP N p0 p1 v7).bind fun v8 =>
   (FB N p0 v8.1).bind fun v9 =>
   AW ((v9.2.2 == 0))
    ((EB (v3.1.length + (([(CD.mk v7 v9.1 v9.2.1)] : List CD)).length ≤ Eg)).bind fun _ =>
    j6 (v3.1 ++ (([(CD.mk v7 v9.1 v9.2.1)] : List CD))))
    (j6 v3.1))
   (j3 v3.1)
def HZ (N : Nat) (p0 : Ah) (p1 : Af) : Option ((List CD) × Int) :=
 (E7 N p0 p1).bind fun v1 =>
 AW ((v1.2 != 0))
  (some (([] : List CD), v1.2))
  (FE N p0 p1 v1 (fun (v4 : (List CD)) =>
   some (v4, 0)) N (([] : List CD), 0))
def FT (N : Nat) (p0 : Ah) (p1 : List Af) (j3 : ((List CD)) → Option ((List CD) × Int)) : Nat → ((List CD) × Int) → Option ((List CD) × Int)
 | 0, _ => none
 | n3 + 1, v3 =>
  AW ((decide (v3.2 < (p1.length : Int))))
   ((Bg p1 v3.2).bind fun v6 =>
   (HZ N p0 v6).bind fun v7 =>
   AW ((v7.2 != 0))
    (some (([] : List CD), v7.2))
    ((EB (v3.1.length + v7.1.length ≤ Eg)).bind fun _ =>
    FT N p0 p1 j3 n3 (v3.1 ++ v7.1, (wI .i64 (v3.2 + 1)))))
   (j3 v3.1)
def GS (N : Nat) (p0 : Ah) (p1 : List Af) : Option ((List CD) × Int) :=
 (CS N p0).bind fun v1 =>
 AW ((v1 != 0))
  (some (([] : List CD), v1))
  (FT N p0 p1 (fun (v4 : (List CD)) =>
   some (v4, 0)) N (([] : List CD), 0))
def CY (N : Nat) (p0 : List Al) (p1 : (Al × Al) → Option Int) : Option ((List Al)) :=
 (DH N ((wI .u64 ((p0.length : Int))))).bind fun v1 =>
 (Gs.pdqsort N p0 0 ((p0.length : Int)) v1 p1).bind fun v2 =>
 some v2
def zFS (N : Nat) (p0 : Al) (p1 : Al) : Option Int :=
 (Dy N p0.fr p1.fr).bind fun v1 =>
 (Dy N p0.ft p1.ft).bind fun v2 =>
 (Dy N p0.fu p1.fu).bind fun v3 =>
 (Gm N (([v1, v2, v3] : List Int))).bind fun v4 =>
 some v4
def BT (N : Nat) (p0 : List Al) (v2 : Int) (j10 : ((List Al) × Int) → Option (Nat × (List Al))) : Nat → ((List Al) × Int × Int) → Option (Nat × (List Al))
 | 0, _ => none
 | n10 + 1, v10 =>
  AW ((decide (v10.2.2 < ((((p0.length - (v2).toNat)) : Nat) : Int))))
   (Bh (fun (v13 : (List Al) × Int) =>
    BT N p0 v2 j10 n10 (v13.1, v13.2, (wI .i64 (v10.2.2 + 1))))
   fun j13 =>
   (EB (((v2).toNat) + ((p0.length - (v2).toNat)) ≤ v10.1.length)).bind fun _ =>
   (Bg (((v10.1.drop ((v2).toNat)).take ((p0.length - (v2).toNat)))) v10.2.2).bind fun v14 =>
   (Bg (((v10.1.drop ((v2).toNat)).take ((p0.length - (v2).toNat)))) ((wI .i64 (v10.2.2 - 1)))).bind fun v16 =>
   AW ((!((v14.fr == v16.fr) && ((v14.ft == v16.ft) && ((v14.fu == v16.fu) && true)))))
    ((Bg (((v10.1.drop ((v2).toNat)).take ((p0.length - (v2).toNat)))) v10.2.2).bind fun v18 =>
    (Bg v10.1 v10.2.1).bind fun _ =>
    j13 (v10.1.set ((v10.2.1).toNat) v18, (wI .i64 (v10.2.1 + 1))))
    (j13 (v10.1, v10.2.1)))
   (j10 (v10.1, v10.2.1))
def BX (N : Nat) (p0 : List Al) (j2 : Unit → Option (Nat × (List Al))) : Nat → Int → Option (Nat × (List Al))
 | 0, _ => none
 | n2 + 1, v2 =>
  AW ((decide (v2 < (p0.length : Int))))
   ((Bg p0 v2).bind fun v5 =>
   (Bg p0 ((wI .i64 (v2 - 1)))).bind fun v6 =>
   AW (((v5.fr == v6.fr) && ((v5.ft == v6.ft) && ((v5.fu == v6.fu) && true))))
    ((EB ((0 : Int) ≤ v2 ∧ (v2).toNat ≤ p0.length ∧ p0.length ≤ p0.length)).bind fun _ =>
    BT N p0 v2 (fun (v11 : (List Al) × Int) =>
     (EB ((0 : Int) ≤ v11.2 ∧ (v11.2).toNat ≤ v11.1.length ∧ v11.1.length ≤ v11.1.length)).bind fun _ =>
     (EB ((0 : Int) ≤ v11.2 ∧ 0 ≤ (v11.2).toNat ∧ (v11.2).toNat ≤ (IZ v11.1 ((v11.2).toNat) (List.replicate ((v11.1.length - (v11.2).toNat)) ((Al.mk 0 0 0)))).length)).bind fun _ =>
     some ((v11.2).toNat, IZ v11.1 ((v11.2).toNat) (List.replicate ((v11.1.length - (v11.2).toNat)) ((Al.mk 0 0 0))))) N (p0, v2, 1))
    (BX N p0 j2 n2 (wI .i64 (v2 + 1))))
   (j2 ())
def C2 (N : Nat) (p0 : List Al) : Option (Nat × (List Al)) :=
 AW ((decide ((p0.length : Int) < 2)))
  (some (p0.length, p0))
  (BX N p0 (fun (_ : Unit) =>
   some (p0.length, p0)) N 1)
def FC (N : Nat) (v1 : (List CD) × Int) (j3 : ((List Al)) → Option ((List Al) × Int)) : Nat → ((List Al) × Int) → Option ((List Al) × Int)
 | 0, _ => none
 | n3 + 1, v3 =>
  AW ((decide (v3.2 < (v1.1.length : Int))))
   ((Bg v1.1 v3.2).bind fun v6 =>
   (EB (v3.1.length + (([(Al.mk v6.fw.fr v6.fw.ft v6.fw.fu)] : List Al)).length ≤ Eg)).bind fun _ =>
   FC N v1 j3 n3 (v3.1 ++ (([(Al.mk v6.fw.fr v6.fw.ft v6.fw.fu)] : List Al)), (wI .i64 (v3.2 + 1))))
   (j3 v3.1)
def HS (N : Nat) (p0 : Ah) (p1 : List Af) : Option ((List Al) × Int) :=
 (GS N p0 p1).bind fun v1 =>
 AW ((v1.2 != 0))
  (some (([] : List Al), v1.2))
  (FC N v1 (fun (v4 : (List Al)) =>
   (CY N v4 ((fun (x : Al × Al) => zFS N x.1 x.2))).bind fun v8 =>
   (C2 N v8).bind fun v9 =>
   (EB (v9.1 ≤ v9.2.length)).bind fun _ =>
   some (v9.2.take v9.1, 0)) N (([] : List Al), 0))
def Fr (N : Nat) (p0 : Ah) (v8 : Af) (j11 : Int → Option (Int × Af × Int)) : Nat → (Int × Int) → Option (Int × Af × Int)
 | 0, _ => none
 | n11 + 1, v11 =>
  AW ((decide (v11.2 < (p0.fh.length : Int))))
   (Bh (fun (v14 : Int) =>
    Fr N p0 v8 j11 n11 (v14, (wI .i64 (v11.2 + 1))))
   fun j14 =>
   (Bg p0.fh v11.2).bind fun v15 =>
   Bh (fun (v16 : Bool) =>
    AW v16
     (j14 (wI .i64 (v11.1 + 1)))
     (j14 v11.1))
   fun j16 =>
   (Bg v8.fd v11.2).bind fun v17 =>
   AW ((v17 == v15))
    ((Bg v8.fa v11.2).bind fun v19 =>
    j16 (decide (v19 < 0)))
    (j16 false))
   (j11 v11.1)
def FD (N : Nat) (p0 : Ah) (p1 : List Af) (j4 : (Int × Int) → Option (Int × Af × Int)) : Nat → (Int × Int × Int) → Option (Int × Af × Int)
 | 0, _ => none
 | n4 + 1, v4 =>
  AW ((decide (v4.2.2 < (p1.length : Int))))
   (Bh (fun (v7 : Int × Int) =>
    FD N p0 p1 j4 n4 (v7.1, v7.2, (wI .i64 (v4.2.2 + 1))))
   fun j7 =>
   (Bg p1 v4.2.2).bind fun v8 =>
   (Fd N p0 v8).bind fun v9 =>
   AW ((v9 != 0))
    (some (0, (Af.mk (([] : List Int)) (([] : List Int)) (([] : List Int))), v9))
    (Fr N p0 v8 (fun (v12 : Int) =>
     AW ((decide (v4.1 < v12)))
      (j7 (v12, v4.2.2))
      (j7 (v4.1, v4.2.1))) N (0, 0)))
   (j4 (v4.1, v4.2.1))
def HT (N : Nat) (p0 : Ah) (p1 : List Af) : Option (Int × Af × Int) :=
 (CS N p0).bind fun v1 =>
 AW ((v1 != 0))
  (some (0, (Af.mk (([] : List Int)) (([] : List Int)) (([] : List Int))), v1))
  (AW (((p1.length : Int) == 0))
   (some (0, (Af.mk (([] : List Int)) (([] : List Int)) (([] : List Int))), 10))
   (FD N p0 p1 (fun (v5 : Int × Int) =>
    (Bg p1 v5.2).bind fun v22 =>
    (Bx N v22.fd).bind fun v23 =>
    (Bx N v22.fa).bind fun v24 =>
    (BM N v22.fe).bind fun v25 =>
    some (v5.1, (Af.mk v23 v24 v25), 0)) N ((-1), 0, 0)))
def Dx (N : Nat) (p0 : Af) (p1 : Af) : Option Bool :=
 (Ca N p0 p1).bind fun v1 =>
 some ((v1 == 0))
def C8 (N : Nat) (p0 : List Af) (p1 : List Af) (j2 : Unit → Option Bool) : Nat → Int → Option Bool
 | 0, _ => none
 | n2 + 1, v2 =>
  AW ((decide (v2 < (p0.length : Int))))
   ((Bg p0 v2).bind fun v5 =>
   (Bg p1 v2).bind fun v6 =>
   (Dx N v5 v6).bind fun v7 =>
   AW ((!v7))
    (some false)
    (C8 N p0 p1 j2 n2 (wI .i64 (v2 + 1))))
   (j2 ())
def Er (N : Nat) (p0 : List Af) (p1 : List Af) : Option Bool :=
 AW (((p0.length : Int) != (p1.length : Int)))
  (some false)
  (C8 N p0 p1 (fun (_ : Unit) =>
   some true) N 0)
def A0 (N : Nat) (p0 : List Af) (p1 : Af) (p2 : (Af × Af) → Option Int) (j1 : Int → Option (Int × Bool)) : Nat → (Int × Int) → Option (Int × Bool)
 | 0, _ => none
 | n1 + 1, v1 =>
  AW ((decide (v1.1 < v1.2)))
   ((Bg p0 ((wI .i64 ((Eh .u64 ((wI .u64 ((wI .i64 (v1.1 + v1.2))))) 1))))).bind fun v4 =>
   (p2 ((v4, p1))).bind fun v5 =>
   AW ((decide (v5 < 0)))
    (A0 N p0 p1 p2 j1 n1 ((wI .i64 ((wI .i64 ((Eh .u64 ((wI .u64 ((wI .i64 (v1.1 + v1.2))))) 1))) + 1)), v1.2))
    (A0 N p0 p1 p2 j1 n1 (v1.1, (wI .i64 ((Eh .u64 ((wI .u64 ((wI .i64 (v1.1 + v1.2))))) 1))))))
   (j1 v1.1)
def BF (N : Nat) (p0 : List Af) (p1 : Af) (p2 : (Af × Af) → Option Int) : Option (Int × Bool) :=
 A0 N p0 p1 p2 (fun (v2 : Int) =>
  Bh (fun (v7 : Bool) =>
   some (v2, v7))
  fun j7 =>
  AW ((decide (v2 < (p0.length : Int))))
   ((Bg p0 v2).bind fun v9 =>
   (p2 ((v9, p1))).bind fun v10 =>
   j7 (v10 == 0))
   (j7 false)) N (0, (p0.length : Int))
def Fj (N : Nat) (p0 : List Af) (p1 : Af) : Option Bool :=
 (BF N p0 p1 ((fun (x : Af × Af) => BR N x.1 x.2))).bind fun v1 =>
 some v1.2
def EH (N : Nat) (p0 : Ah) (p1 : List Af) (j5 : Unit → Option Bool) : Nat → Int → Option Bool
 | 0, _ => none
 | n5 + 1, v5 =>
  AW ((decide (v5 < (p1.length : Int))))
   ((Bg p1 v5).bind fun v8 =>
   Bh (fun (v9 : Bool) =>
    AW v9
     (some false)
     ((DW N p0 v8).bind fun v14 =>
     Bh (fun (v15 : Bool) =>
      AW v15
       (some false)
       (EH N p0 p1 j5 n5 (wI .i64 (v5 + 1))))
     fun j15 =>
     AW ((!v14.1))
      (j15 true)
      (AW ((v14.2 != 0))
       (j15 true)
       ((HH N p0 v8).bind fun v18 =>
       j15 v18))))
   fun j9 =>
   AW ((decide (0 < v5)))
    ((Bg p1 ((wI .i64 (v5 - 1)))).bind fun v11 =>
    (BR N v11 v8).bind fun v12 =>
    j9 (decide (0 ≤ v12)))
    (j9 false))
   (j5 ())
def Eo (N : Nat) (p0 : Ah) (p1 : List Af) (v25 : Af) (v26 : (List As) × Int) (j27 : Unit → Option Bool) : Nat → Int → Option Bool
 | 0, _ => none
 | n27 + 1, v27 =>
  AW ((decide (v27 < (v26.1.length : Int))))
   ((Bg v26.1 v27).bind fun v30 =>
   (FP N p0 v25 v30).bind fun v31 =>
   (DW N p0 v31.1).bind fun v32 =>
   Bh (fun (v33 : Bool) =>
    AW v33
     (some false)
     (Eo N p0 p1 v25 v26 j27 n27 (wI .i64 (v27 + 1))))
   fun j33 =>
   AW v32.1
    ((Fj N p1 v31.1).bind fun v35 =>
    j33 (!v35))
    (j33 false))
   (j27 ())
def Ep (N : Nat) (p0 : Ah) (p1 : List Af) (j22 : Unit → Option Bool) : Nat → Int → Option Bool
 | 0, _ => none
 | n22 + 1, v22 =>
  AW ((decide (v22 < (p1.length : Int))))
   ((Bg p1 v22).bind fun v25 =>
   (E7 N p0 v25).bind fun v26 =>
   Eo N p0 p1 v25 v26 (fun (_ : Unit) =>
    Ep N p0 p1 j22 n22 (wI .i64 (v22 + 1))) N 0)
   (j22 ())
def Ey (N : Nat) (p0 : Ah) (p1 : List Af) : Option Bool :=
 (GZ N p0).bind fun v1 =>
 AW ((v1.2 != 0))
  (some false)
  ((DW N p0 v1.1).bind fun v3 =>
  AW ((!v3.1))
   (some (((p1.length : Int) == 0)))
   (EH N p0 p1 (fun (_ : Unit) =>
    (Fj N p1 v1.1).bind fun v20 =>
    AW ((!v20))
     (some false)
     (Ep N p0 p1 (fun (_ : Unit) =>
      some true) N 0)) N 0))
def DX (N : Nat) (p0 : List Al) (p1 : List Al) (j2 : Unit → Option Bool) : Nat → Int → Option Bool
 | 0, _ => none
 | n2 + 1, v2 =>
  AW ((decide (v2 < (p0.length : Int))))
   ((Bg p0 v2).bind fun v5 =>
   (Bg p1 v2).bind fun v6 =>
   AW ((!((v5.fr == v6.fr) && ((v5.ft == v6.ft) && ((v5.fu == v6.fu) && true)))))
    (some false)
    (DX N p0 p1 j2 n2 (wI .i64 (v2 + 1))))
   (j2 ())
def Fw (N : Nat) (p0 : List Al) (p1 : List Al) : Option Bool :=
 AW (((p0.length : Int) != (p1.length : Int)))
  (some false)
  (DX N p0 p1 (fun (_ : Unit) =>
   some true) N 0)
def Eb (N : Nat) : Option Bool :=
 (Cb N).bind fun v1 =>
 (Fy N v1).bind fun v2 =>
 (Cb N).bind fun v3 =>
 (GS N v3 v2.1).bind fun v4 =>
 (Cb N).bind fun v5 =>
 (HS N v5 v2.1).bind fun v6 =>
 (Cb N).bind fun v7 =>
 (HT N v7 v2.1).bind fun v8 =>
 Bh (fun (v9 : Bool) =>
  Bh (fun (v13 : Bool) =>
   Bh (fun (v25 : Bool) =>
    some v25)
   fun j25 =>
   AW v13
    (AW (((v4.1.length : Int) == 1))
     ((Bg v4.1 0).bind fun v28 =>
     AW (((v28.fy.fg == 1) && ((v28.fy.fj == 0) && ((v28.fy.fo == 1) && true))))
      ((Bg v4.1 0).bind fun v30 =>
      AW (((v30.fw.fr == 0) && ((v30.fw.ft == 1) && ((v30.fw.fu == 0) && true))))
       ((Fw N v6.1 (([(Al.mk 0 1 0)] : List Al))).bind fun v32 =>
       AW v32
        (AW ((v8.1 == 0))
         ((Dx N v8.2.1 ((Af.mk (([0] : List Int)) (([(-1)] : List Int)) (([0] : List Int))))).bind fun v35 =>
         j25 v35)
         (j25 false))
        (j25 false))
       (j25 false))
      (j25 false))
     (j25 false))
    (j25 false))
  fun j13 =>
  AW v9
   ((Er N v2.1 (([(Af.mk (([0] : List Int)) (([(-1)] : List Int)) (([0] : List Int)))] : List Af))).bind fun v15 =>
   AW v15
    ((Cb N).bind fun v17 =>
    (Ey N v17 v2.1).bind fun v18 =>
    AW v18
     ((Cb N).bind fun v20 =>
     (Ey N v20 (([] : List Af))).bind fun v21 =>
     AW ((!v21))
      ((Cb N).bind fun v23 =>
      (Ey N v23 (([(Af.mk (([0] : List Int)) (([(-1)] : List Int)) (([0] : List Int))), (Af.mk (([1] : List Int)) (([(-1)] : List Int)) (([0] : List Int)))] : List Af))).bind fun v24 =>
      j13 (!v24))
      (j13 false))
     (j13 false))
    (j13 false))
   (j13 false))
 fun j9 =>
 AW ((v2.2 == 0))
  (AW ((v4.2 == 0))
   (AW ((v6.2 == 0))
    (j9 (v8.2.2 == 0))
    (j9 false))
   (j9 false))
  (j9 false)
def C9 (N : Nat) (p0 : Ah) (p1 : Af) (j3 : Unit → Option Bool) : Nat → Int → Option Bool
 | 0, _ => none
 | n3 + 1, v3 =>
  AW ((decide (v3 < (p1.fd.length : Int))))
   (Bh (fun (v6 : Bool) =>
    AW v6
     (some false)
     (C9 N p0 p1 j3 n3 (wI .i64 (v3 + 1))))
   fun j6 =>
   (Bg p1.fa v3).bind fun v7 =>
   AW ((decide (0 ≤ v7)))
    (j6 true)
    ((Bg p1.fd v3).bind fun v9 =>
    (Bg p0.fh v3).bind fun v10 =>
    j6 (v9 != v10)))
   (j3 ())
def E9 (N : Nat) (p0 : Ah) (p1 : Af) : Option Bool :=
 (D5 N p0 p1).bind fun v1 =>
 AW ((v1 != 0))
  (some false)
  (C9 N p0 p1 (fun (_ : Unit) =>
   some true) N 0)
def C5 (N : Nat) (p0 : Ah) (p1 : List Af) (j1 : Unit → Option Bool) : Nat → Int → Option Bool
 | 0, _ => none
 | n1 + 1, v1 =>
  AW ((decide (v1 < (p1.length : Int))))
   ((Bg p1 v1).bind fun v4 =>
   (E9 N p0 v4).bind fun v5 =>
   AW v5
    (some true)
    (C5 N p0 p1 j1 n1 (wI .i64 (v1 + 1))))
   (j1 ())
def Em (N : Nat) (p0 : Ah) (p1 : List Af) : Option Bool :=
 C5 N p0 p1 (fun (_ : Unit) =>
  some false) N 0
def CV (N : Nat) (p0 : B5) : Option Bool :=
 (FI N p0).bind fun v1 =>
 Bh (fun (v2 : Bool) =>
  AW v2
   ((Eb N).bind fun v6 =>
   some v6)
   ((Fy N v1.1).bind fun v7 =>
   (Em N v1.1 v1.2.1).bind fun v8 =>
   AW v8
    (Bh (fun (v10 : Bool) =>
     some v10)
    fun j10 =>
    AW ((v7.2 == 15))
     (j10 ((v7.1.length : Int) == 0))
     (j10 false))
    (Bh (fun (v12 : Bool) =>
     some v12)
    fun j12 =>
    AW ((v7.2 == 0))
     ((Er N v7.1 v1.2.1).bind fun v14 =>
     AW v14
      ((Ey N v1.1 v7.1).bind fun v16 =>
      j12 v16)
      (j12 false))
     (j12 false))))
 fun j2 =>
 (Eb N).bind fun v3 =>
 AW ((!v3))
  (j2 true)
  (j2 (!v1.2.2))
def MO {α : Type} (w : α → Prop) (xs : List α) : Prop := ∀ x, x ∈ xs → w x
def KH (n : Int) : Prop := (Lit.int .u8 n).wf = true
def Ye (n : Int) : Prop := (Lit.int .u16 n).wf = true
def In (x : IG) : Prop := KH x.fg ∧ KH x.fi ∧ KH x.fk ∧ (fun _ => True) x.fp ∧ Ye x.fA ∧ Ye x.fB ∧ True
def FG (x : B5) : Prop := (MO KH) x.fb ∧ (MO KH) x.ff ∧ (MO KH) x.fh ∧ (MO In) x.fv ∧ True
end Go.Lift
namespace Go.Lift
open Go.RowKit
open Go.Proofs
theorem Ac : Tryz.prog.follows .mixedOrders = true := by kernel_rfl
theorem Zp : Fx Tryz.prog 101 true = true := by kernel_rfl
theorem OA : Fx Tryz.prog 195 false = true := by kernel_rfl
theorem VP : Fx Tryz.prog 22 false = true := by kernel_rfl
theorem YC : Fx Tryz.prog 23 false = true := by kernel_rfl
theorem ag : Fx Tryz.prog 25 true = true := by kernel_rfl
theorem Bo : Fx Tryz.prog 26 false = true := by kernel_rfl
theorem Ia : Fx Tryz.prog 27 false = true := by kernel_rfl
theorem DL : Fx Tryz.prog 29 true = true := by kernel_rfl
theorem Cm : Fx Tryz.prog 3 false = true := by kernel_rfl
theorem TI : Fx Tryz.prog 4 false = true := by kernel_rfl
theorem Hb : Fx Tryz.prog 44 false = true := by kernel_rfl
theorem A7 : Fx Tryz.prog 46 true = true := by kernel_rfl
theorem Zg : Fx Tryz.prog 5 false = true := by kernel_rfl
theorem Do : Fx Tryz.prog 66 true = true := by kernel_rfl
theorem KL : Fx Tryz.prog 67 false = true := by kernel_rfl
theorem Io : Fx Tryz.prog 69 true = true := by kernel_rfl
theorem QM : Fx Tryz.prog 70 false = true := by kernel_rfl
theorem Ky : Fx Tryz.prog 81 false = true := by kernel_rfl
theorem I0 : Fx Tryz.prog 84 true = true := by kernel_rfl
theorem bK : Fx Tryz.prog 86 true = true := by kernel_rfl
theorem aA : Fx Tryz.prog 99 false = true := by kernel_rfl
theorem ap : Qy Tryz.prog 22 = true := by kernel_rfl
theorem M4 : Gr Tryz.prog 3 8 = true := by kernel_rfl
theorem YB : Gr Tryz.prog 4 1 = true := by kernel_rfl
theorem Ng : Gr Tryz.prog 46 72 = true := by kernel_rfl
theorem aa : Gr Tryz.prog 5 1 = true := by kernel_rfl
theorem R2 : Gr Tryz.prog 66 24 = true := by kernel_rfl
theorem Y5 : Gr Tryz.prog 69 80 = true := by kernel_rfl
theorem ah : Gr Tryz.prog 70 24 = true := by kernel_rfl
theorem RK : Gr Tryz.prog 81 1 = true := by kernel_rfl
theorem Sf : Gr Tryz.prog 84 24 = true := by kernel_rfl
theorem XC : Gr Tryz.prog 86 120 = true := by kernel_rfl
theorem Vy : Da Tryz.prog 101 0 0 = true := by kernel_rfl
theorem Vr : Da Tryz.prog 101 1 1 = true := by kernel_rfl
theorem UL : Da Tryz.prog 101 2 2 = true := by kernel_rfl
theorem VL : Da Tryz.prog 101 3 3 = true := by kernel_rfl
theorem Wc : Da Tryz.prog 101 4 4 = true := by kernel_rfl
theorem UM : Da Tryz.prog 101 5 5 = true := by kernel_rfl
theorem QF : Da Tryz.prog 25 0 0 = true := by kernel_rfl
theorem Xj : Da Tryz.prog 25 1 1 = true := by kernel_rfl
theorem Wx : Da Tryz.prog 25 2 2 = true := by kernel_rfl
theorem Qi : Da Tryz.prog 25 3 3 = true := by kernel_rfl
theorem BO : Da Tryz.prog 29 0 0 = true := by kernel_rfl
theorem Hq : Da Tryz.prog 29 1 1 = true := by kernel_rfl
theorem Ip : Da Tryz.prog 29 2 2 = true := by kernel_rfl
theorem Dc : Da Tryz.prog 29 3 3 = true := by kernel_rfl
theorem CO : Da Tryz.prog 46 0 0 = true := by kernel_rfl
theorem BH : Da Tryz.prog 46 1 1 = true := by kernel_rfl
theorem CU : Da Tryz.prog 46 2 2 = true := by kernel_rfl
theorem Th : Da Tryz.prog 66 0 0 = true := by kernel_rfl
theorem TD : Da Tryz.prog 66 1 1 = true := by kernel_rfl
theorem TO : Da Tryz.prog 66 2 2 = true := by kernel_rfl
theorem Gx : Da Tryz.prog 69 0 0 = true := by kernel_rfl
theorem DI : Da Tryz.prog 69 1 1 = true := by kernel_rfl
theorem IV : Da Tryz.prog 69 2 2 = true := by kernel_rfl
theorem JJ : Da Tryz.prog 69 3 3 = true := by kernel_rfl
theorem Kx : Da Tryz.prog 69 4 4 = true := by kernel_rfl
theorem Hr : Da Tryz.prog 69 5 5 = true := by kernel_rfl
theorem Ge : Da Tryz.prog 84 0 0 = true := by kernel_rfl
theorem Fq : Da Tryz.prog 84 1 1 = true := by kernel_rfl
theorem Hs : Da Tryz.prog 84 2 2 = true := by kernel_rfl
theorem WU : Da Tryz.prog 86 0 0 = true := by kernel_rfl
theorem TP : Da Tryz.prog 86 2 6 = true := by kernel_rfl
theorem bi : AM Tryz.prog 10 = true := by kernel_rfl
theorem aB : AM Tryz.prog 100 = true := by kernel_rfl
theorem TE : AM Tryz.prog 102 = true := by kernel_rfl
theorem ZZ : AM Tryz.prog 103 = true := by kernel_rfl
theorem V5 : AM Tryz.prog 104 = true := by kernel_rfl
theorem U9 : AM Tryz.prog 105 = true := by kernel_rfl
theorem X0 : AM Tryz.prog 106 = true := by kernel_rfl
theorem Vz : AM Tryz.prog 107 = true := by kernel_rfl
theorem UG : AM Tryz.prog 108 = true := by kernel_rfl
theorem X7 : AM Tryz.prog 109 = true := by kernel_rfl
theorem Zf : AM Tryz.prog 11 = true := by kernel_rfl
theorem aE : AM Tryz.prog 111 = true := by kernel_rfl
theorem ZY : AM Tryz.prog 112 = true := by kernel_rfl
theorem Z0 : AM Tryz.prog 113 = true := by kernel_rfl
theorem TV : AM Tryz.prog 114 = true := by kernel_rfl
theorem XQ : AM Tryz.prog 115 = true := by kernel_rfl
theorem V7 : AM Tryz.prog 118 = true := by kernel_rfl
theorem aq : AM Tryz.prog 119 = true := by kernel_rfl
theorem Y7 : AM Tryz.prog 12 = true := by kernel_rfl
theorem ZS : AM Tryz.prog 120 = true := by kernel_rfl
theorem Zv : AM Tryz.prog 121 = true := by kernel_rfl
theorem Z4 : AM Tryz.prog 122 = true := by kernel_rfl
theorem ZF : AM Tryz.prog 123 = true := by kernel_rfl
theorem Y3 : AM Tryz.prog 124 = true := by kernel_rfl
theorem Zi : AM Tryz.prog 125 = true := by kernel_rfl
theorem Zy : AM Tryz.prog 126 = true := by kernel_rfl
theorem ae : AM Tryz.prog 127 = true := by kernel_rfl
theorem Zc : AM Tryz.prog 129 = true := by kernel_rfl
theorem ca : AM Tryz.prog 13 = true := by kernel_rfl
theorem aC : AM Tryz.prog 130 = true := by kernel_rfl
theorem XH : AM Tryz.prog 131 = true := by kernel_rfl
theorem ZP : AM Tryz.prog 132 = true := by kernel_rfl
theorem Y1 : AM Tryz.prog 133 = true := by kernel_rfl
theorem ay : AM Tryz.prog 134 = true := by kernel_rfl
theorem ZW : AM Tryz.prog 135 = true := by kernel_rfl
theorem ao : AM Tryz.prog 136 = true := by kernel_rfl
theorem Zz : AM Tryz.prog 137 = true := by kernel_rfl
theorem ZX : AM Tryz.prog 138 = true := by kernel_rfl
theorem aK : AM Tryz.prog 139 = true := by kernel_rfl
theorem ai : AM Tryz.prog 14 = true := by kernel_rfl
theorem ax : AM Tryz.prog 140 = true := by kernel_rfl
theorem Zh : AM Tryz.prog 141 = true := by kernel_rfl
theorem ZQ : AM Tryz.prog 142 = true := by kernel_rfl
theorem Z3 : AM Tryz.prog 143 = true := by kernel_rfl
theorem Ze : AM Tryz.prog 145 = true := by kernel_rfl
theorem ZT : AM Tryz.prog 146 = true := by kernel_rfl
theorem ZK : AM Tryz.prog 147 = true := by kernel_rfl
theorem Zr : AM Tryz.prog 148 = true := by kernel_rfl
theorem Zt : AM Tryz.prog 149 = true := by kernel_rfl
theorem WQ : AM Tryz.prog 15 = true := by kernel_rfl
theorem ZB : AM Tryz.prog 150 = true := by kernel_rfl
theorem Z6 : AM Tryz.prog 151 = true := by kernel_rfl
theorem af : AM Tryz.prog 152 = true := by kernel_rfl
theorem ZH : AM Tryz.prog 153 = true := by kernel_rfl
theorem ab : AM Tryz.prog 154 = true := by kernel_rfl
theorem X1 : AM Tryz.prog 155 = true := by kernel_rfl
theorem X8 : AM Tryz.prog 156 = true := by kernel_rfl
theorem Zs : AM Tryz.prog 157 = true := by kernel_rfl
theorem aJ : AM Tryz.prog 158 = true := by kernel_rfl
theorem ZA : AM Tryz.prog 159 = true := by kernel_rfl
theorem bc : AM Tryz.prog 16 = true := by kernel_rfl
theorem Zn : AM Tryz.prog 160 = true := by kernel_rfl
theorem XS : AM Tryz.prog 161 = true := by kernel_rfl
theorem XF : AM Tryz.prog 162 = true := by kernel_rfl
theorem XO : AM Tryz.prog 163 = true := by kernel_rfl
theorem UY : AM Tryz.prog 164 = true := by kernel_rfl
theorem X5 : AM Tryz.prog 165 = true := by kernel_rfl
theorem XV : AM Tryz.prog 166 = true := by kernel_rfl
theorem Wh : AM Tryz.prog 167 = true := by kernel_rfl
theorem XX : AM Tryz.prog 168 = true := by kernel_rfl
theorem Z2 : AM Tryz.prog 169 = true := by kernel_rfl
theorem ad : AM Tryz.prog 170 = true := by kernel_rfl
theorem UQ : AM Tryz.prog 171 = true := by kernel_rfl
theorem UA : AM Tryz.prog 172 = true := by kernel_rfl
theorem bo : AM Tryz.prog 18 = true := by kernel_rfl
theorem Y2 : AM Tryz.prog 21 = true := by kernel_rfl
theorem bz : AM Tryz.prog 22 = true := by kernel_rfl
theorem cb : AM Tryz.prog 24 = true := by kernel_rfl
theorem bg : AM Tryz.prog 25 = true := by kernel_rfl
theorem Y9 : AM Tryz.prog 27 = true := by kernel_rfl
theorem bC : AM Tryz.prog 29 = true := by kernel_rfl
theorem bI : AM Tryz.prog 30 = true := by kernel_rfl
theorem aj : AM Tryz.prog 35 = true := by kernel_rfl
theorem S4 : AM Tryz.prog 39 = true := by kernel_rfl
theorem bO : AM Tryz.prog 40 = true := by kernel_rfl
theorem bN : AM Tryz.prog 41 = true := by kernel_rfl
theorem ZC : AM Tryz.prog 42 = true := by kernel_rfl
theorem bU : AM Tryz.prog 43 = true := by kernel_rfl
theorem aL : AM Tryz.prog 44 = true := by kernel_rfl
theorem V3 : AM Tryz.prog 45 = true := by kernel_rfl
theorem YL : AM Tryz.prog 46 = true := by kernel_rfl
theorem ZV : AM Tryz.prog 47 = true := by kernel_rfl
theorem Yb : AM Tryz.prog 48 = true := by kernel_rfl
theorem Yo : AM Tryz.prog 49 = true := by kernel_rfl
theorem ZL : AM Tryz.prog 50 = true := by kernel_rfl
theorem QW : AM Tryz.prog 51 = true := by kernel_rfl
theorem ZN : AM Tryz.prog 52 = true := by kernel_rfl
theorem VV : AM Tryz.prog 54 = true := by kernel_rfl
theorem Y8 : AM Tryz.prog 55 = true := by kernel_rfl
theorem Xb : AM Tryz.prog 58 = true := by kernel_rfl
theorem cc : AM Tryz.prog 59 = true := by kernel_rfl
theorem bP : AM Tryz.prog 60 = true := by kernel_rfl
theorem Zx : AM Tryz.prog 61 = true := by kernel_rfl
theorem Xk : AM Tryz.prog 62 = true := by kernel_rfl
theorem bm : AM Tryz.prog 63 = true := by kernel_rfl
theorem Vi : AM Tryz.prog 65 = true := by kernel_rfl
theorem Sx : AM Tryz.prog 66 = true := by kernel_rfl
theorem Yl : AM Tryz.prog 67 = true := by kernel_rfl
theorem YG : AM Tryz.prog 68 = true := by kernel_rfl
theorem bq : AM Tryz.prog 70 = true := by kernel_rfl
theorem Zb : AM Tryz.prog 71 = true := by kernel_rfl
theorem bd : AM Tryz.prog 72 = true := by kernel_rfl
theorem ZO : AM Tryz.prog 73 = true := by kernel_rfl
theorem bJ : AM Tryz.prog 74 = true := by kernel_rfl
theorem bF : AM Tryz.prog 75 = true := by kernel_rfl
theorem bj : AM Tryz.prog 76 = true := by kernel_rfl
theorem bt : AM Tryz.prog 78 = true := by kernel_rfl
theorem az : AM Tryz.prog 82 = true := by kernel_rfl
theorem bE : AM Tryz.prog 83 = true := by kernel_rfl
theorem Yy : AM Tryz.prog 84 = true := by kernel_rfl
theorem aX : AM Tryz.prog 85 = true := by kernel_rfl
theorem aW : AM Tryz.prog 86 = true := by kernel_rfl
theorem bh : AM Tryz.prog 87 = true := by kernel_rfl
theorem bZ : AM Tryz.prog 88 = true := by kernel_rfl
theorem bp : AM Tryz.prog 89 = true := by kernel_rfl
theorem bH : AM Tryz.prog 90 = true := by kernel_rfl
theorem Yk : AM Tryz.prog 91 = true := by kernel_rfl
theorem aI : AM Tryz.prog 92 = true := by kernel_rfl
theorem bv : AM Tryz.prog 93 = true := by kernel_rfl
theorem bG : AM Tryz.prog 94 = true := by kernel_rfl
theorem bW : AM Tryz.prog 95 = true := by kernel_rfl
theorem bn : AM Tryz.prog 96 = true := by kernel_rfl
theorem ZR : AM Tryz.prog 97 = true := by kernel_rfl
theorem bf : AM Tryz.prog 98 = true := by kernel_rfl
theorem bY : AM Tryz.prog 99 = true := by kernel_rfl
theorem NE : Od Tryz.prog 152 .u64 = true := by kernel_rfl
theorem Ry : Od Tryz.prog 179 .u32 = true := by kernel_rfl
theorem XG : Od Tryz.prog 181 .u64 = true := by kernel_rfl
theorem XN : Od Tryz.prog 195 .u64 = true := by kernel_rfl
theorem Ud : Od Tryz.prog 3 .i64 = true := by kernel_rfl
theorem aS : Od Tryz.prog 5 .u8 = true := by kernel_rfl
theorem Yd : Tryz.prog.underlying 9 = some .string := by kernel_rfl
theorem QC : Tryz.prog.underlying 134 = some (.map 9 4) := by kernel_rfl
theorem ZE : IU Tryz.prog 29 = some [(0, 1), (1, 1), (2, 1), (3, 1)] := by kernel_rfl
theorem HB : IU Tryz.prog 46 = some [(0, 1), (1, 1), (2, 1)] := by kernel_rfl
theorem SN : IU Tryz.prog 66 = some [(0, 1), (1, 1), (2, 1)] := by kernel_rfl
theorem Zk : IU Tryz.prog 69 = some [(0, 1), (1, 1), (2, 1), (3, 1), (4, 1), (5, 1)] := by kernel_rfl
theorem U3 : IU Tryz.prog 84 = some [(0, 1), (1, 1), (2, 1)] := by kernel_rfl
theorem aZ : IU Tryz.prog 86 = some [(0, 3), (3, 3), (6, 3)] := by kernel_rfl
theorem Tu : Ub Tryz.prog 66 = some [0, 0, 0] := by kernel_rfl
theorem Zj : Ub Tryz.prog 84 = some [0, 0, 0] := by kernel_rfl
theorem Ld : sliceB Tryz.prog 22 5 = true := by kernel_rfl
theorem VQ : sliceB Tryz.prog 23 101 = true := by kernel_rfl
theorem AL : sliceB Tryz.prog 26 3 = true := by kernel_rfl
theorem EG : sliceB Tryz.prog 27 69 = true := by kernel_rfl
theorem AV : sliceB Tryz.prog 30 46 = true := by kernel_rfl
theorem Dr : sliceB Tryz.prog 44 81 = true := by kernel_rfl
theorem LG : sliceB Tryz.prog 48 86 = true := by kernel_rfl
theorem Ba : sliceB Tryz.prog 55 66 = true := by kernel_rfl
theorem G6 : sliceB Tryz.prog 67 70 = true := by kernel_rfl
theorem Hp : sliceB Tryz.prog 70 4 = true := by kernel_rfl
theorem Fm : sliceB Tryz.prog 94 84 = true := by kernel_rfl
theorem N0 : (Tryz.prog.underlying 152).isSome = true := by kernel_rfl
theorem RT : (Tryz.prog.underlying 179).isSome = true := by kernel_rfl
theorem Wm : (Tryz.prog.underlying 181).isSome = true := by kernel_rfl
theorem Wr : (Tryz.prog.underlying 3).isSome = true := by kernel_rfl
theorem XU : (Tryz.prog.underlying 5).isSome = true := by kernel_rfl
theorem bT : (Tryz.prog.underlying 81).isSome = true := by kernel_rfl
theorem Xe : PC Tryz.prog 9 = true := by kernel_rfl
theorem Wj : If Tryz.prog 101 6 = true := by kernel_rfl
theorem Rm : If Tryz.prog 195 1 = true := by kernel_rfl
theorem aF : If Tryz.prog 25 4 = true := by kernel_rfl
theorem Wo : If Tryz.prog 26 1 = true := by kernel_rfl
theorem bB : If Tryz.prog 27 1 = true := by kernel_rfl
theorem Di : If Tryz.prog 29 4 = true := by kernel_rfl
theorem Du : If Tryz.prog 3 1 = true := by kernel_rfl
theorem Sm : If Tryz.prog 4 1 = true := by kernel_rfl
theorem bQ : If Tryz.prog 44 1 = true := by kernel_rfl
theorem Az : If Tryz.prog 46 3 = true := by kernel_rfl
theorem YV : If Tryz.prog 5 1 = true := by kernel_rfl
theorem A2 : If Tryz.prog 66 3 = true := by kernel_rfl
theorem Zu : If Tryz.prog 67 1 = true := by kernel_rfl
theorem EO : If Tryz.prog 69 6 = true := by kernel_rfl
theorem NO : If Tryz.prog 70 1 = true := by kernel_rfl
theorem F5 : If Tryz.prog 81 1 = true := by kernel_rfl
theorem Fb : If Tryz.prog 84 3 = true := by kernel_rfl
theorem RE : If Tryz.prog 86 9 = true := by kernel_rfl
theorem Y6 : Fe Tryz.prog 101 = some (.agg #[.int .u8 0, .int .u8 0, .int .u8 0, .bool false, .int .u16 0, .int .u16 0]) := by kernel_rfl
theorem XL : Fe Tryz.prog 195 = some (.int .u64 0) := by kernel_rfl
theorem RX : Fe Tryz.prog 29 = some (.agg #[.slice none 0 0, .slice none 0 0, .slice none 0 0, .slice none 0 0]) := by kernel_rfl
theorem KI : Fe Tryz.prog 3 = some (.int .i64 0) := by kernel_rfl
theorem W7 : Fe Tryz.prog 4 = some (.bool false) := by kernel_rfl
theorem Cw : Fe Tryz.prog 46 = some (.agg #[.slice none 0 0, .slice none 0 0, .slice none 0 0]) := by kernel_rfl
theorem aQ : Fe Tryz.prog 5 = some (.int .u8 0) := by kernel_rfl
theorem Jk : Fe Tryz.prog 66 = some (.agg #[.int .i64 0, .int .i64 0, .int .i64 0]) := by kernel_rfl
theorem LX : Fe Tryz.prog 69 = some (.agg #[.int .i64 0, .int .i64 0, .int .i64 0, .bool false, .slice none 0 0, .slice none 0 0]) := by kernel_rfl
theorem Yn : Fe Tryz.prog 70 = some (.slice none 0 0) := by kernel_rfl
theorem Ob : Fe Tryz.prog 81 = some (.int .u8 0) := by kernel_rfl
theorem JU : Fe Tryz.prog 84 = some (.agg #[.int .i64 0, .int .i64 0, .int .i64 0]) := by kernel_rfl
theorem UZ : Fe Tryz.prog 86 = some (.agg #[.int .i64 0, .int .i64 0, .int .i64 0, .slice none 0 0, .slice none 0 0, .slice none 0 0, .int .i64 0, .int .i64 0, .int .i64 0]) := by kernel_rfl
open IntKind renaming wrap → wI
set_option maxRecDepth 10000
theorem Jn (N : Nat) (p0 : List Int) (p1 : Int) (r : Int) (h : Es N p0 p1 = some r) : AD Tryz.prog 50 [pD (.sl (p0.map Bn)), iD p1] [] (iD r) := by
 unfold Es at h
 refine Av (n := 14) (rs := [.tmp 4]) Tryz.func50 rfl rfl rfl (A6 rfl) (A6 rfl) rfl fun w0 S0 => ?_
 refine Ab (Aa Ac rfl (qa rfl (Ae (Ab (Ab (Aa Ac rfl (qm rfl (qm rfl (A1 Ld rfl (AX rfl (Ae ?_)))))))))))
 refine Ap rfl (fun c1 => ?_) (fun c1 => ?_)
 ·have h := Ao c1 h
  refine Ab (Aa Ac rfl (qm rfl (qm rfl ?_)))
  obtain ⟨v2, a2, b2, h⟩ := Aj h
  refine qi Ld YV a2 (Ag b2) rfl (qk Zg rfl (GY XU Ud rfl (qa rfl (Ae ?_))))
  obtain rfl := sj h
  refine Am (sm [] [(4, iD ((wI .i64 v2)))] [] rfl rfl) (AA ?_)
  exact ⟨⟨[_], ⟨.tmp _ _ rfl, tv⟩, rfl⟩, tv⟩
 ·have h := An c1 h
  refine Aq (Ab (Aa Ac rfl (qa rfl (Ae ?_))))
  obtain rfl := sj h
  refine Am (sm [] [(4, iD 0)] [] rfl rfl) (AA ?_)
  exact ⟨⟨[_], ⟨.tmp _ _ rfl, tv⟩, rfl⟩, tv⟩
theorem CG (N : Nat) (p0 : AQ) (r : Bool) (h : Bq N p0 = some r) : AD Tryz.prog 51 [.e (.agg [iC p0.fg, iC p0.fi, iC p0.fk, .pure (.val (.bool p0.fp)), sC (p0.fq.map (Fn eB)), sC (p0.fm.map (Fn eB))])] [] (bD r) := by
 unfold Bq at h
 refine Av (n := 11) (rs := [.tmp 2]) Tryz.func51 rfl rfl rfl (A6 rfl) (A6 rfl) rfl fun w0 S0 => ?_
 refine Ab (Aa Ac rfl (qb rfl (qa rfl (Ae ?_))))
 refine AO h (fun v1 => mk [(2, bD v1)] []) (fun j1 h => ?_) (fun v1 h => ?_)
 ·refine Aa Ac rfl (qf Gx rfl (ql Cm rfl (BK rfl (qm rfl ?_))))
  refine AF (t := 6) rfl (fun c2 => ?_) (fun c2 => ?_)
  ·have h := Ao c2 h
   refine qn rfl (qn rfl (qn rfl (qp rfl (qa rfl (Ae ?_)))))
   exact Au _ h (sm [] _ _ rfl rfl)
  ·have h := An c2 h
   refine qf Gx rfl (ql Cm rfl (BK rfl (qp rfl (qa rfl (Ae ?_)))))
   exact Au _ h (sm [] _ _ rfl rfl)
 ·obtain rfl := sj h
  refine Am (sm [] [(2, bD v1)] [] rfl rfl) (AA ?_)
  exact ⟨⟨[_], ⟨.tmp _ _ rfl, tv⟩, rfl⟩, tv⟩
theorem Jj (N : Nat) (p0 : Int) (p1 : Int) (p2 : Int) (p3 : Bool) (r : (List (List Bool))) (h : Et N p0 p1 p2 p3 = some r) : AD Tryz.prog 52 [iD p0, iD p1, pD (.val (.int .u16 p2)), bD p3] [(1, r.map (Fn eB))] (oD (.own 0)) := by
 unfold Et at h
 refine Av (n := 47) (rs := [.tmp 8]) Tryz.func52 rfl rfl rfl (A6 rfl) (A6 rfl) rfl fun w0 S0 => ?_
 refine Ab (Aa Ac rfl (qa rfl (Ae (Ab (Aa Ac rfl (qa rfl (Ae (Ab (Ab (Aa Ac rfl (qa rfl (Ae ?_))))))))))))
 refine AE (L := CB N p0 p1 p2 p3) h (fun v1 => mk [(0, iD p0), (1, iD p1), (2, pD (.val (.int .u16 p2))), (3, bD p3), (9, oD (.own 2001)), (10, iD v1.2)] [(2001, .vec 1 (v1.1.map (Fn eB)))]) (fun v2 => mk [(9, oD (.own 2002))] [(2002, .vec 1 (v2.map (Fn eB)))]) (fun _ _ => rfl) ((Bu 9 2010 1 rfl rfl rfl).trans (sm [(2001, 2010)] _ _ rfl rfl)) (fun j1 n1 v1 h => ?_) (fun v2 s h hs => ?_)
 ·unfold CB at h
  refine Ab (Ab (Aa Ac rfl (qm rfl (qm rfl (AX rfl (Ae ?_))))))
  refine Ap rfl (fun c3 => ?_) (fun c3 => ?_)
  ·have h := Ao c3 h
   refine Aq (Ab (AK (Ab (Aa Ac rfl (qa rfl (Ae (Ab (Ab (Aa Ac rfl (qa rfl (Ae ?_)))))))))))
   refine AE (L := CC N p1 p2 p3 v1) h (fun v4 => mk [(0, iD p0), (1, iD p1), (2, pD (.val (.int .u16 p2))), (3, bD p3), (9, oD (.own 2003)), (10, iD v1.2), (11, oD (.own 2004)), (12, iD v4.2)] [(2003, .vec 1 (v1.1.map (Fn eB))), (2004, .vec 1 (v4.1.map eB))]) (fun v5 => mk [(0, iD p0), (1, iD p1), (2, pD (.val (.int .u16 p2))), (3, bD p3), (9, oD (.own 2005)), (10, iD v1.2), (11, oD (.own 2006))] [(2005, .vec 1 (v1.1.map (Fn eB))), (2006, .vec 1 (v5.map eB))]) (fun _ _ => rfl) ((Bu 11 2009 1 rfl rfl rfl).trans (sm [(2003, 2001), (2004, 2009)] _ _ rfl rfl)) (fun j4 n4 v4 h => ?_) (fun v5 s h hs => ?_)
   ·unfold CC at h
    refine Ab (Ab (Aa Ac rfl (qm rfl (qm rfl (AX rfl (Ae ?_))))))
    refine Ap rfl (fun c6 => ?_) (fun c6 => ?_)
    ·have h := Ao c6 h
     refine Aq ?_
     refine AO h (fun v7 => mk [(0, iD p0), (1, iD p1), (2, pD (.val (.int .u16 p2))), (3, bD p3), (9, oD (.own 2007)), (10, iD v1.2), (11, oD (.own 2008)), (12, iD v4.2)] [(2007, .vec 1 (v1.1.map (Fn eB))), (2008, .vec 1 (v7.map eB))]) (fun j7 h => ?_) (fun v7 h => ?_)
     ·refine AK (Aa Ac rfl (qm rfl (qm rfl (qm rfl ?_))))
      refine AF (t := 25) rfl (fun c8 => ?_) (fun c8 => ?_)
      ·have h := Ao c8 h
       refine qm rfl (qm rfl (BK rfl (qp rfl (qm rfl ?_))))
       refine AF (t := 30) rfl (fun c9 => ?_) (fun c9 => ?_)
       ·have h := Ao c9 h
        refine qn rfl (qn rfl (qn rfl (qn rfl (qn rfl (qn rfl (qn rfl (qn rfl (qp rfl (DY Hp Sm W7 rfl ?_)))))))))
        obtain ⟨c10, h⟩ := AU h
        refine DO (f := eB) Hp Hp Sm YB W7 c10 rfl (qa rfl (Ae ?_))
        exact Au _ h (sm [(2007, 2003), (2008, 41)] _ _ rfl rfl)
       ·have h := An c9 h
        refine qm rfl (qm rfl (HJ rfl (qm rfl (AR rfl ?_))))
        obtain ⟨c11, h⟩ := AU h
        refine HI rfl c11 (My rfl (by decide) (BK rfl (qp rfl (DY Hp Sm W7 rfl ?_))))
        obtain ⟨c12, h⟩ := AU h
        refine DO (f := eB) Hp Hp Sm YB W7 c12 rfl (qa rfl (Ae ?_))
        exact Au _ h (sm [(2007, 2003), (2008, 41)] _ _ rfl rfl)
      ·have h := An c8 h
       refine qn rfl (qn rfl (qn rfl (qp rfl (qm rfl (qm rfl (qm rfl (HJ rfl (qm rfl (AR rfl ?_)))))))))
       obtain ⟨c13, h⟩ := AU h
       refine HI rfl c13 (My rfl (by decide) (BK rfl (qp rfl (DY Hp Sm W7 rfl ?_))))
       obtain ⟨c14, h⟩ := AU h
       refine DO (f := eB) Hp Hp Sm YB W7 c14 rfl (qa rfl (Ae ?_))
       exact Au _ h (sm [(2007, 2003), (2008, 41)] _ _ rfl rfl)
     ·refine Aa Ac rfl (qm rfl (AR rfl (qa rfl (Ae ?_))))
      exact Au _ h (sm [(2003, 2007), (2004, 2008)] _ _ rfl rfl)
    ·have h := An c6 h
     refine AS ?_
     exact Au _ h (sm [(2005, 2003), (2006, 2004)] _ _ rfl rfl)
   ·refine Am hs (Aa Ac rfl (qm rfl (qm rfl (DT (Bk 2006 _ _ rfl rfl) (DY G6 NO Yn rfl ?_)))))
    obtain ⟨c15, h⟩ := AU h
    refine DO (f := (Fn eB)) G6 G6 NO ah Yn c15 rfl (qa rfl (Ae (Aa Ac rfl (qm rfl (AR rfl (qa rfl (Ae ?_)))))))
    exact Au _ h (sm [(2001, 45)] _ _ rfl rfl)
  ·have h := An c3 h
   refine AS ?_
   exact Au _ h (sm [(2002, 2001)] _ _ rfl rfl)
 ·refine Am hs (Ab (Aa Ac rfl (qm rfl (qa rfl (Ae ?_)))))
  obtain rfl := sj h
  refine Am (sm [(1000, 2002)] [(8, oD (.own 1000))] [(1000, .vec 1 (v2.map (Fn eB)))] rfl rfl) (AA ?_)
  exact ⟨⟨[_], ⟨.tmp _ _ rfl, tv⟩, rfl⟩, ⟨rfl, tv⟩⟩
theorem MS (N : Nat) (p0 : B5) (r : Ah × Bool) (h : FH N p0 = some r) : AD Tryz.prog 16 [.e (.agg [sC (p0.fb.map Bn), sC (p0.ff.map Bn), sC (p0.fh.map Bn), sC (p0.fv.map Ck)])] [(1, r.1.fb.map Ak), (1, r.1.ff.map Ak), (1, r.1.fh.map Ak), (6, r.1.fc.map Ar)] (.tup [.agg [.own 0, .own 1, .own 2, .own 3], .one (.pure (.val (.bool r.2)))]) := by
 unfold FH at h
 refine Av (n := 152) (rs := [.cell 2 29, .tmp 3]) Tryz.func16 rfl rfl rfl (A6 rfl) (A6 rfl) rfl fun w0 S0 => ?_
 refine Ab (Aa Ac rfl (qb rfl (qz RX rfl (qa rfl (Ae (Ab ?_))))))
 refine AO h (fun v1 => mk [(1, oD (.ptr 1 0)), (2, oD (.ptr 2 0)), (19, bD v1)] [(1, .box [sC (p0.fb.map Bn), sC (p0.ff.map Bn), sC (p0.fh.map Bn), sC (p0.fv.map Ck)]), (2, .box [.pure (.nil0), .pure (.nil0), .pure (.nil0), .pure (.nil0)])]) (fun j1 h => ?_) (fun v1 h => ?_)
 ·refine Aa Ac rfl (qf QF rfl (ql VP rfl (A1 Ld rfl (E2 rfl (qm rfl ?_)))))
  refine AF (t := 14) rfl (fun c2 => ?_) (fun c2 => ?_)
  ·have h := Ao c2 h
   refine qn rfl (qn rfl (qn rfl (qn rfl (qp rfl (Ae ?_)))))
   exact Au _ h (sm [] _ _ rfl rfl)
  ·have h := An c2 h
   refine qf Qi rfl (ql YC rfl (A1 VQ rfl (E2 rfl (qp rfl (Ae ?_)))))
   exact Au _ h (sm [] _ _ rfl rfl)
 ·refine Ap rfl (fun c3 => ?_) (fun c3 => ?_)
  ·have h := Ao c3 h
   refine Ab (Aa Ac rfl (Bz RX ZE rfl (qs Di rfl (qa rfl (Ae ?_)))))
   obtain rfl := sj h
   refine Am ((AH 2 0 2001 1 _ rfl rfl rfl rfl).trans ((AH 2 1 2002 1 _ rfl rfl rfl rfl).trans ((AH 2 2 2003 1 _ rfl rfl rfl rfl).trans ((AH 2 3 2004 6 _ rfl rfl rfl rfl).trans (sm [(1000, 2001), (1001, 2002), (1002, 2003), (1003, 2004)] [(2, oD (.ptr 2 0)), (3, bD false)] [(2, .box [.own 1000, .own 1001, .own 1002, .own 1003]), (1000, .vec 1 ((([] : List Int)).map Ak)), (1001, .vec 1 ((([] : List Int)).map Ak)), (1002, .vec 1 ((([] : List Int)).map Ak)), (1003, .vec 6 ((([] : List AQ)).map Ar))] rfl rfl))))) (AA ?_)
   exact ⟨⟨[_, _], ⟨.cellN _ _ _ _ _ _ _ rfl rfl DL Di rfl rfl (Jx rfl), ⟨.tmp _ _ rfl, tv⟩⟩, rfl⟩, ⟨rfl, rfl, rfl, rfl, tv⟩⟩
  ·have h := An c3 h
   refine Aq (Ab (Aa Ac rfl (qz RX rfl (Ae (Ab (Ab (Aa Ac rfl (qa rfl (Ae ?_)))))))))
   refine AE (L := C4 N p0) h (fun v4 => mk [(1, oD (.ptr 1 0)), (2, oD (.ptr 2 0)), (4, oD (.ptr 4 0)), (5, iD v4.2.2.2)] [(1, .box [sC (p0.fb.map Bn), sC (p0.ff.map Bn), sC (p0.fh.map Bn), sC (p0.fv.map Ck)]), (2, .box [.pure (.nil0), .pure (.nil0), .pure (.nil0), .pure (.nil0)]), (4, .box [.own 2005, .own 2006, .own 2007, .pure (.nil0)]), (2005, .vec 1 (v4.1.map Ak)), (2006, .vec 1 (v4.2.1.map Ak)), (2007, .vec 1 (v4.2.2.1.map Ak))]) (fun v5 => mk [(1, oD (.ptr 1 0)), (2, oD (.ptr 2 0)), (4, oD (.ptr 4 0))] [(1, .box [sC (p0.fb.map Bn), sC (p0.ff.map Bn), sC (p0.fh.map Bn), sC (p0.fv.map Ck)]), (2, .box [.pure (.nil0), .pure (.nil0), .pure (.nil0), .pure (.nil0)]), (4, .box [.own 2008, .own 2009, .own 2010, .pure (.nil0)]), (2008, .vec 1 (v5.1.map Ak)), (2009, .vec 1 (v5.2.1.map Ak)), (2010, .vec 1 (v5.2.2.map Ak))]) (fun _ _ => rfl) ((AH 4 0 2011 1 _ rfl rfl rfl rfl).trans ((AH 4 1 2012 1 _ rfl rfl rfl rfl).trans ((AH 4 2 2013 1 _ rfl rfl rfl rfl).trans (sm [(2005, 2011), (2006, 2012), (2007, 2013)] _ _ rfl rfl)))) (fun j4 n4 v4 h => ?_) (fun v5 s h hs => ?_)
   ·unfold C4 at h
    refine Ab (Ab (Aa Ac rfl (qm rfl (qf QF rfl (ql VP rfl (A1 Ld rfl (AX rfl (Ae ?_))))))))
    refine Ap rfl (fun c6 => ?_) (fun c6 => ?_)
    ·have h := Ao c6 h
     refine Aq (Ab (AK (Ab (Aa Ac rfl (qf QF rfl (ql VP rfl (qm rfl ?_)))))))
     obtain ⟨v7, a7, b7, h⟩ := Aj h
     refine qi Ld YV a7 (Ag b7) rfl (qk Zg rfl (My rfl (by decide) (GY XU Ud rfl (AR rfl (qa rfl (Ae (Ab (Aa Ac rfl (qf BO rfl (ql Bo rfl (qm rfl (DY AL Du KI rfl ?_))))))))))))
     obtain ⟨c8, h⟩ := AU h
     refine DO (f := Ak) AL AL Du M4 KI c8 rfl (qf BO rfl (qs Wo rfl (Ae (Ab (Aa Ac rfl (qf Hq rfl (ql Bo rfl (qf Xj rfl (ql VP rfl (qm rfl ?_))))))))))
     obtain ⟨v9, a9, h⟩ := bind_some h
     refine AJ [] (Jn N p0.ff v4.2.2.2 v9 a9) ZL rfl (qm rfl ?_)
     obtain ⟨c10, h⟩ := AU h
     refine My rfl c10 (DY AL Du KI rfl ?_)
     obtain ⟨c11, h⟩ := AU h
     refine DO (f := Ak) AL AL Du M4 KI c11 rfl (qf Hq rfl (qs Wo rfl (AB (by kernel_rfl) (Aa Ac rfl (qf Ip rfl (ql Bo rfl (qf Wx rfl (ql VP rfl (qm rfl ?_)))))))))
     obtain ⟨v12, a12, h⟩ := bind_some h
     refine AJ [] (Jn N p0.fh v4.2.2.2 v12 a12) ZL rfl (qm rfl ?_)
     obtain ⟨c13, h⟩ := AU h
     refine My rfl c13 (DY AL Du KI rfl ?_)
     obtain ⟨c14, h⟩ := AU h
     refine DO (f := Ak) AL AL Du M4 KI c14 rfl (qf Ip rfl (qs Wo rfl (AB (by kernel_rfl) (Aa Ac rfl (qm rfl (AR rfl (qa rfl (Ae ?_))))))))
     exact Au _ h (sm [(2005, 40), (2006, 51), (2007, 62)] _ _ rfl rfl)
    ·have h := An c6 h
     refine AS ?_
     exact Au _ h (sm [(2008, 2005), (2009, 2006), (2010, 2007)] _ _ rfl rfl)
   ·refine Am hs (Ab (Ab (Aa Ac rfl (qa rfl (Ae ?_)))))
    refine AE (L := BQ N p0 v5) h (fun v15 => mk [(1, oD (.ptr 1 0)), (2, oD (.ptr 2 0)), (4, oD (.ptr 4 0)), (7, iD v15.2)] [(1, .box [sC (p0.fb.map Bn), sC (p0.ff.map Bn), sC (p0.fh.map Bn), sC (p0.fv.map Ck)]), (2, .box [.pure (.nil0), .pure (.nil0), .pure (.nil0), .pure (.nil0)]), (4, .box [.own 2014, .own 2015, .own 2016, .own 2017]), (2014, .vec 1 (v5.1.map Ak)), (2015, .vec 1 (v5.2.1.map Ak)), (2016, .vec 1 (v5.2.2.map Ak)), (2017, .vec 6 (v15.1.map Ar))]) (fun v16 => mk [(2, oD (.ptr 2 0)), (4, oD (.ptr 4 0))] [(2, .box [.pure (.nil0), .pure (.nil0), .pure (.nil0), .pure (.nil0)]), (4, .box [.own 2018, .own 2019, .own 2020, .own 2021]), (2018, .vec 1 (v5.1.map Ak)), (2019, .vec 1 (v5.2.1.map Ak)), (2020, .vec 1 (v5.2.2.map Ak)), (2021, .vec 6 (v16.map Ar))]) (fun _ _ => rfl) ((AH 4 3 2039 6 _ rfl rfl rfl rfl).trans (sm [(2014, 2008), (2015, 2009), (2016, 2010), (2017, 2039)] _ _ rfl rfl)) (fun j15 n15 v15 h => ?_) (fun v16 s h hs => ?_)
    ·unfold BQ at h
     refine Ab ?_
     refine AO h (fun v17 => mk [(1, oD (.ptr 1 0)), (2, oD (.ptr 2 0)), (4, oD (.ptr 4 0)), (7, iD v15.2), (74, bD v17)] [(1, .box [sC (p0.fb.map Bn), sC (p0.ff.map Bn), sC (p0.fh.map Bn), sC (p0.fv.map Ck)]), (2, .box [.pure (.nil0), .pure (.nil0), .pure (.nil0), .pure (.nil0)]), (4, .box [.own 2022, .own 2023, .own 2024, .own 2025]), (2022, .vec 1 (v5.1.map Ak)), (2023, .vec 1 (v5.2.1.map Ak)), (2024, .vec 1 (v5.2.2.map Ak)), (2025, .vec 6 (v15.1.map Ar))]) (fun j17 h => ?_) (fun v17 h => ?_)
     ·refine Aa Ac rfl (qm rfl (qf Qi rfl (ql YC rfl (A1 VQ rfl (AX rfl (qm rfl ?_))))))
      refine AF (t := 69) rfl (fun c18 => ?_) (fun c18 => ?_)
      ·have h := Ao c18 h
       refine qf BO rfl (ql Bo rfl (EN AL rfl (E2 rfl (qp rfl (Ae ?_)))))
       exact Au _ h (sm [(2022, 2014), (2023, 2015), (2024, 2016), (2025, 2017)] _ _ rfl rfl)
      ·have h := An c18 h
       refine qn rfl (qn rfl (qn rfl (qn rfl (qp rfl (Ae ?_)))))
       exact Au _ h (sm [(2022, 2014), (2023, 2015), (2024, 2016), (2025, 2017)] _ _ rfl rfl)
     ·refine Ap rfl (fun c19 => ?_) (fun c19 => ?_)
      ·have h := Ao c19 h
       refine Aq (Ab (AK (Ab (Aa Ac rfl (qf Qi rfl (ql YC rfl (qm rfl ?_)))))))
       obtain ⟨v20, a20, b20, h⟩ := Aj h
       refine qi VQ Wj a20 (Ag b20) rfl (qK Zp Wj rfl (qz Y6 rfl (qs Wj rfl (Ae (Ab (Aa Ac rfl (qf Vy rfl (ql Zg rfl (My rfl (by decide) (GY XU Ud rfl (AR rfl (qf Vr rfl (ql Zg rfl (GY XU Ud rfl (qf BO rfl (ql Bo rfl (EN AL rfl ?_)))))))))))))))))
       obtain ⟨c21, h⟩ := AU h
       refine My rfl c21 (qf UL rfl (ql Zg rfl (GY XU Ud rfl (qf BO rfl (ql Bo rfl (EN AL rfl ?_))))))
       obtain ⟨c22, h⟩ := AU h
       refine My rfl c22 (Bz LX Zk rfl (qz LX rfl (qs EO rfl (AB (by kernel_rfl) ?_))))
       refine AO h (fun v23 => mk [(1, oD (.ptr 1 0)), (2, oD (.ptr 2 0)), (4, oD (.ptr 4 0)), (7, iD v15.2), (8, oD (.ptr 8 0)), (9, oD (.ptr 9 0))] [(1, .box [sC (p0.fb.map Bn), sC (p0.ff.map Bn), sC (p0.fh.map Bn), sC (p0.fv.map Ck)]), (2, .box [.pure (.nil0), .pure (.nil0), .pure (.nil0), .pure (.nil0)]), (4, .box [.own 2026, .own 2027, .own 2028, .own 2029]), (8, .box [.pure (.val (.int .u8 v20.fg)), .pure (.val (.int .u8 v20.fi)), .pure (.val (.int .u8 v20.fk)), .pure (.val (.bool v20.fp)), .pure (.val (.int .u16 v20.fA)), .pure (.val (.int .u16 v20.fB))]), (9, .box [iC ((wI .i64 (1 + (wI .i64 ((Int.tmod v20.fg 4)))))), iC ((Int.tmod ((wI .i64 v20.fi)) ((v5.1.length : Int)))), iC ((Int.tmod ((wI .i64 v20.fk)) ((v5.1.length : Int)))), .pure (.val (.bool v23)), .pure (.nil0), .pure (.nil0)]), (2026, .vec 1 (v5.1.map Ak)), (2027, .vec 1 (v5.2.1.map Ak)), (2028, .vec 1 (v5.2.2.map Ak)), (2029, .vec 6 (v15.1.map Ar))]) (fun j23 h => ?_) (fun v23 h => ?_)
       ·refine Aa Ac rfl (qf VL rfl (ql TI rfl (qm rfl ?_)))
        refine AF (t := 104) rfl (fun c24 => ?_) (fun c24 => ?_)
        ·have h := Ao c24 h
         refine qL Io EO rfl ?_
         obtain ⟨v25, a25, h⟩ := bind_some h
         refine AJ [] (CG N ((AQ.mk ((wI .i64 (1 + (wI .i64 ((Int.tmod v20.fg 4)))))) ((Int.tmod ((wI .i64 v20.fi)) ((v5.1.length : Int)))) ((Int.tmod ((wI .i64 v20.fk)) ((v5.1.length : Int)))) false (([] : List (List Bool))) (([] : List (List Bool))))) v25 a25) QW rfl (BW rfl (qp rfl (qf JJ rfl (qs Sm rfl (Ae ?_)))))
         exact Au _ h (sm [(2026, 2022), (2027, 2023), (2028, 2024), (2029, 2025)] _ _ rfl rfl)
        ·have h := An c24 h
         refine qn rfl (qn rfl (qn rfl (qp rfl (qf JJ rfl (qs Sm rfl (Ae ?_))))))
         exact Au _ h (sm [(2026, 2022), (2027, 2023), (2028, 2024), (2029, 2025)] _ _ rfl rfl)
       ·refine Ab (Aa Ac rfl (qf BO rfl (ql Bo rfl (qf DI rfl (ql Cm rfl ?_)))))
        obtain ⟨v26, a26, b26, h⟩ := Aj h
        refine qI AL Du a26 (Ag b26) rfl (qj Cm (Ag b26) rfl (qf BO rfl (ql Bo rfl (qf IV rfl (ql Cm rfl ?_)))))
        obtain ⟨v27, a27, b27, h⟩ := Aj h
        refine qI AL Du a27 (Ag b27) rfl (qj Cm (Ag b27) rfl (qf Wc rfl (ql aA rfl ?_)))
        obtain ⟨v28, a28, h⟩ := bind_some h
        refine AJ [2030] (Jj N v26 v27 v20.fA false v28 a28) ZN rfl (qf Kx rfl (qs Zu rfl (AB (by kernel_rfl) ?_)))
        refine AO h (fun v29 => mk [(1, oD (.ptr 1 0)), (2, oD (.ptr 2 0)), (4, oD (.ptr 4 0)), (7, iD v15.2), (9, oD (.ptr 9 0))] [(1, .box [sC (p0.fb.map Bn), sC (p0.ff.map Bn), sC (p0.fh.map Bn), sC (p0.fv.map Ck)]), (2, .box [.pure (.nil0), .pure (.nil0), .pure (.nil0), .pure (.nil0)]), (4, .box [.own 2031, .own 2032, .own 2033, .own 2034]), (9, .box [iC ((wI .i64 (1 + (wI .i64 ((Int.tmod v20.fg 4)))))), iC ((Int.tmod ((wI .i64 v20.fi)) ((v5.1.length : Int)))), iC ((Int.tmod ((wI .i64 v20.fk)) ((v5.1.length : Int)))), .pure (.val (.bool v23)), .own 2035, .own 2036]), (2031, .vec 1 (v5.1.map Ak)), (2032, .vec 1 (v5.2.1.map Ak)), (2033, .vec 1 (v5.2.2.map Ak)), (2034, .vec 6 (v15.1.map Ar)), (2035, .vec 1 (v28.map (Fn eB))), (2036, .vec 1 (v29.map (Fn eB)))]) (fun j29 h => ?_) (fun v29 h => ?_)
        ·refine Ab (Aa Ac rfl (qf Gx rfl (ql Cm rfl (BK rfl (Ae ?_)))))
         refine Ap rfl (fun c30 => ?_) (fun c30 => ?_)
         ·have h := Ao c30 h
          refine Aa Ac rfl (qf BO rfl (ql Bo rfl (qf DI rfl (ql Cm rfl ?_))))
          obtain ⟨v31, a31, b31, h⟩ := Aj h
          refine qI AL Du a31 (Ag b31) rfl (qj Cm (Ag b31) rfl (qf BO rfl (ql Bo rfl (qf DI rfl (ql Cm rfl ?_)))))
          obtain ⟨v32, a32, b32, h⟩ := Aj h
          refine qI AL Du a32 (Ag b32) rfl (qj Cm (Ag b32) rfl (qf UM rfl (ql aA rfl ?_)))
          obtain ⟨v33, a33, h⟩ := bind_some h
          refine AJ [2037] (Jj N v31 v32 v20.fB true v33 a33) ZN rfl (qf Hr rfl (qs Zu rfl (AB (by kernel_rfl) ?_)))
          exact Au _ h (sm [(2031, 2026), (2032, 2027), (2033, 2028), (2034, 2029), (2035, 2030), (2036, 2037)] _ _ rfl rfl)
         ·have h := An c30 h
          refine Aq ?_
          exact Au _ h ((AH 9 5 2038 1 _ rfl rfl rfl rfl).trans (sm [(2031, 2026), (2032, 2027), (2033, 2028), (2034, 2029), (2035, 2030), (2036, 2038)] _ _ rfl rfl))
        ·refine Aa Ac rfl (qf Dc rfl (ql Ia rfl (qL Io EO rfl (DT (Bk 2035 _ _ rfl rfl) (DT (Bk 2036 _ _ rfl rfl) (DY EG EO LX rfl ?_))))))
         obtain ⟨c34, h⟩ := AU h
         refine DO (f := Ar) EG EG EO Y5 LX c34 rfl (qf Dc rfl (qs bB rfl (Ae (Aa Ac rfl (qm rfl (AR rfl (qa rfl (Ae ?_))))))))
         exact Au _ h (sm [(2014, 2031), (2015, 2032), (2016, 2033), (2017, 149)] _ _ rfl rfl)
      ·have h := An c19 h
       refine AS ?_
       exact Au _ h (sm [(2018, 2022), (2019, 2023), (2020, 2024), (2021, 2025)] _ _ rfl rfl)
    ·refine Am hs (Ab (Aa Ac rfl (qL DL Di rfl (qs Di rfl (qa rfl (Ae ?_))))))
     obtain rfl := sj h
     refine Am (sm [(1000, 2018), (1001, 2019), (1002, 2020), (1003, 2021)] [(2, oD (.ptr 2 0)), (3, bD true)] [(2, .box [.own 1000, .own 1001, .own 1002, .own 1003]), (1000, .vec 1 (v5.1.map Ak)), (1001, .vec 1 (v5.2.1.map Ak)), (1002, .vec 1 (v5.2.2.map Ak)), (1003, .vec 6 (v16.map Ar))] rfl rfl) (AA ?_)
     exact ⟨⟨[_, _], ⟨.cellN _ _ _ _ _ _ _ rfl rfl DL Di rfl rfl (Jx rfl), ⟨.tmp _ _ rfl, tv⟩⟩, rfl⟩, ⟨rfl, rfl, rfl, rfl, tv⟩⟩
theorem ID (N : Nat) (p0 : List (List Bool)) (p1 : Int) (p2 : Int) (r : Bool) (h : DR N p0 p1 p2 = some r) : AD Tryz.prog 115 [pD (.sl (p0.map (Fn eB))), iD p1, iD p2] [] (bD r) := by
 unfold DR at h
 refine Av (n := 24) (rs := [.tmp 6]) Tryz.func115 rfl rfl rfl (A6 rfl) (A6 rfl) rfl fun w0 S0 => ?_
 refine Ab (Aa Ac rfl (qa rfl (Ae (Ab (Ab (Aa Ac rfl (qm rfl (A1 G6 rfl (qm rfl (Cp rfl (Ae ?_)))))))))))
 refine Ap rfl (fun c1 => ?_) (fun c1 => ?_)
 ·have h := Ao c1 h
  refine Ab (Aa Ac rfl (qa rfl (Ae ?_)))
  obtain rfl := sj h
  refine Am (sm [] [(6, bD false)] [] rfl rfl) (AA ?_)
  exact ⟨⟨[_], ⟨.tmp _ _ rfl, tv⟩, rfl⟩, tv⟩
 ·have h := An c1 h
  refine Aq (Ab (Ab (Aa Ac rfl (qa rfl (Ae ?_)))))
  refine AE (L := CN N p0 p1 p2) h (fun v2 => mk [(0, pD (.sl (p0.map (Fn eB)))), (1, iD p1), (2, iD p2), (7, iD v2)] []) (fun v3 => mk [] []) (fun _ _ => rfl) (sm [] _ _ rfl rfl) (fun j2 n2 v2 h => ?_) (fun v3 s h hs => ?_)
  ·unfold CN at h
   refine Ab (Ab (Aa Ac rfl (qm rfl (qm rfl (AX rfl (Ae ?_))))))
   refine Ap rfl (fun c4 => ?_) (fun c4 => ?_)
   ·have h := Ao c4 h
    refine Aq (Ab (AK (Ab (Aa Ac rfl (qm rfl (qm rfl ?_))))))
    obtain ⟨v5, a5, b5, h⟩ := Aj h
    refine qi G6 NO a5 (Ag b5) rfl (qk QM rfl (A1 Hp rfl (qm rfl (Cp rfl (Ae ?_)))))
    refine Ap rfl (fun c6 => ?_) (fun c6 => ?_)
    ·have h := Ao c6 h
     refine Ab (Aa Ac rfl (qa rfl (Ae ?_)))
     obtain rfl := sj h
     refine Am (sm [] [(6, bD false)] [] rfl rfl) (AA ?_)
     exact ⟨⟨[_], ⟨.tmp _ _ rfl, tv⟩, rfl⟩, tv⟩
    ·have h := An c6 h
     refine Aq (Aa Ac rfl (qm rfl (AR rfl (qa rfl (Ae ?_)))))
     exact Au _ h (sm [] _ _ rfl rfl)
   ·have h := An c4 h
    refine AS ?_
    exact Au _ h (sm [] _ _ rfl rfl)
  ·refine Am hs (Ab (Aa Ac rfl (qa rfl (Ae ?_))))
   obtain rfl := sj h
   refine Am (sm [] [(6, bD true)] [] rfl rfl) (AA ?_)
   exact ⟨⟨[_], ⟨.tmp _ _ rfl, tv⟩, rfl⟩, tv⟩
theorem Lz (N : Nat) (p0 : Ah) (p1 : AQ) (r : Int) (h : EZ N p0 p1 = some r) : AD Tryz.prog 76 [.e (.agg [sC (p0.fb.map Ak), sC (p0.ff.map Ak), sC (p0.fh.map Ak), sC (p0.fc.map Ar)]), .e (.agg [iC p1.fg, iC p1.fi, iC p1.fk, .pure (.val (.bool p1.fp)), sC (p1.fq.map (Fn eB)), sC (p1.fm.map (Fn eB))])] [] (iD r) := by
 unfold EZ at h
 refine Av (n := 101) (rs := [.tmp 4]) Tryz.func76 rfl rfl rfl (A6 rfl) (A6 rfl) rfl fun w0 S0 => ?_
 refine Ab (Aa Ac rfl (qb rfl (qb rfl (qa rfl (Ae (Ab ?_))))))
 refine AO h (fun v1 => mk [(2, oD (.ptr 2 0)), (3, oD (.ptr 3 0)), (22, bD v1)] [(2, .box [sC (p0.fb.map Ak), sC (p0.ff.map Ak), sC (p0.fh.map Ak), sC (p0.fc.map Ar)]), (3, .box [iC p1.fg, iC p1.fi, iC p1.fk, .pure (.val (.bool p1.fp)), sC (p1.fq.map (Fn eB)), sC (p1.fm.map (Fn eB))])]) (fun j1 h => ?_) (fun v1 h => ?_)
 ·refine Aa Ac rfl (qf Gx rfl (ql Cm rfl (AX rfl (qm rfl ?_))))
  refine AF (t := 10) rfl (fun c2 => ?_) (fun c2 => ?_)
  ·have h := Ao c2 h
   refine qn rfl (qn rfl (qn rfl (qp rfl (qm rfl (qn rfl (qn rfl (qn rfl (qu rfl (qu rfl (qn rfl (qp rfl (Ae ?_))))))))))))
   exact Au _ h (sm [] _ _ rfl rfl)
  ·have h := An c2 h
   refine qf Gx rfl (ql Cm rfl (E2 rfl (qp rfl (qm rfl ?_))))
   refine AF (t := 15) rfl (fun c3 => ?_) (fun c3 => ?_)
   ·have h := Ao c3 h
    refine qn rfl (qn rfl (qn rfl (qu rfl (qu rfl (qn rfl (qp rfl (Ae ?_)))))))
    exact Au _ h (sm [] _ _ rfl rfl)
   ·have h := An c3 h
    refine qf JJ rfl (ql TI rfl (qm rfl ?_))
    refine AF (t := 18) rfl (fun c4 => ?_) (fun c4 => ?_)
    ·have h := Ao c4 h
     refine qL Io EO rfl ?_
     obtain ⟨v5, a5, h⟩ := bind_some h
     refine AJ [] (CG N p1 v5 a5) QW rfl (qp rfl (qp rfl (Ae ?_)))
     exact Au _ h (sm [] _ _ rfl rfl)
    ·have h := An c4 h
     refine qn rfl (qn rfl (qp rfl (qp rfl (Ae ?_))))
     exact Au _ h (sm [] _ _ rfl rfl)
 ·refine Ap rfl (fun c6 => ?_) (fun c6 => ?_)
  ·have h := Ao c6 h
   refine Ab (Aa Ac rfl (qa rfl (Ae ?_)))
   obtain rfl := sj h
   refine Am (sm [] [(4, iD 1)] [] rfl rfl) (AA ?_)
   exact ⟨⟨[_], ⟨.tmp _ _ rfl, tv⟩, rfl⟩, tv⟩
  ·have h := An c6 h
   refine Aq (Ab (Aa Ac rfl (qf BO rfl (ql Bo rfl (A1 AL rfl (qa rfl (Ae (Ab ?_))))))))
   refine AO h (fun v7 => mk [(2, oD (.ptr 2 0)), (3, oD (.ptr 3 0)), (45, bD v7)] [(2, .box [sC (p0.fb.map Ak), sC (p0.ff.map Ak), sC (p0.fh.map Ak), sC (p0.fc.map Ar)]), (3, .box [iC p1.fg, iC p1.fi, iC p1.fk, .pure (.val (.bool p1.fp)), sC (p1.fq.map (Fn eB)), sC (p1.fm.map (Fn eB))])]) (fun j7 h => ?_) (fun v7 h => ?_)
   ·refine Aa Ac rfl (qf DI rfl (ql Cm rfl (AX rfl (qm rfl ?_))))
    refine AF (t := 29) rfl (fun c8 => ?_) (fun c8 => ?_)
    ·have h := Ao c8 h
     refine qn rfl (qn rfl (qn rfl (qn rfl (qp rfl (qm rfl (qn rfl (qn rfl (qn rfl (qp rfl (qm rfl (qn rfl (qn rfl (qn rfl (qn rfl (qp rfl (Ae ?_))))))))))))))))
     exact Au _ h (sm [] _ _ rfl rfl)
    ·have h := An c8 h
     refine qf DI rfl (ql Cm rfl (qm rfl (Cz rfl (qp rfl (qm rfl ?_)))))
     refine AF (t := 35) rfl (fun c9 => ?_) (fun c9 => ?_)
     ·have h := Ao c9 h
      refine qn rfl (qn rfl (qn rfl (qp rfl (qm rfl (qn rfl (qn rfl (qn rfl (qn rfl (qp rfl (Ae ?_))))))))))
      exact Au _ h (sm [] _ _ rfl rfl)
     ·have h := An c9 h
      refine qf IV rfl (ql Cm rfl (AX rfl (qp rfl (qm rfl ?_))))
      refine AF (t := 40) rfl (fun c10 => ?_) (fun c10 => ?_)
      ·have h := Ao c10 h
       refine qn rfl (qn rfl (qn rfl (qn rfl (qp rfl (Ae ?_)))))
       exact Au _ h (sm [] _ _ rfl rfl)
      ·have h := An c10 h
       refine qf IV rfl (ql Cm rfl (qm rfl (Cz rfl (qp rfl (Ae ?_)))))
       exact Au _ h (sm [] _ _ rfl rfl)
   ·refine Ap rfl (fun c11 => ?_) (fun c11 => ?_)
    ·have h := Ao c11 h
     refine Ab (Aa Ac rfl (qa rfl (Ae ?_)))
     obtain rfl := sj h
     refine Am (sm [] [(4, iD 4)] [] rfl rfl) (AA ?_)
     exact ⟨⟨[_], ⟨.tmp _ _ rfl, tv⟩, rfl⟩, tv⟩
    ·have h := An c11 h
     refine Aq (Ab (Ab (Aa Ac rfl (qf Kx rfl (ql KL rfl (qf BO rfl (ql Bo rfl (qf DI rfl (ql Cm rfl ?_)))))))))
     obtain ⟨v12, a12, b12, h⟩ := Aj h
     refine qi AL Du a12 (Ag b12) rfl (qk Cm rfl (qf BO rfl (ql Bo rfl (qf IV rfl (ql Cm rfl ?_)))))
     obtain ⟨v13, a13, b13, h⟩ := Aj h
     refine qi AL Du a13 (Ag b13) rfl (qk Cm rfl ?_)
     obtain ⟨v14, a14, h⟩ := bind_some h
     refine AJ [] (ID N p1.fq v12 v13 v14 a14) XQ rfl (BW rfl (AB (by kernel_rfl) ?_))
     refine Ap rfl (fun c15 => ?_) (fun c15 => ?_)
     ·have h := Ao c15 h
      refine Ab (Aa Ac rfl (qa rfl (Ae ?_)))
      obtain rfl := sj h
      refine Am (sm [] [(4, iD 6)] [] rfl rfl) (AA ?_)
      exact ⟨⟨[_], ⟨.tmp _ _ rfl, tv⟩, rfl⟩, tv⟩
     ·have h := An c15 h
      refine Aq (Ab (Ab (Aa Ac rfl (qf Gx rfl (ql Cm rfl (Cp rfl (Ae ?_)))))))
      refine Ap rfl (fun c16 => ?_) (fun c16 => ?_)
      ·have h := Ao c16 h
       refine Ab (Ab (Aa Ac rfl (qf Hr rfl (ql KL rfl (A1 G6 rfl (Cp rfl (Ae ?_)))))))
       refine Ap rfl (fun c17 => ?_) (fun c17 => ?_)
       ·have h := Ao c17 h
        refine Ab (Aa Ac rfl (qa rfl (Ae ?_)))
        obtain rfl := sj h
        refine Am (sm [] [(4, iD 6)] [] rfl rfl) (AA ?_)
        exact ⟨⟨[_], ⟨.tmp _ _ rfl, tv⟩, rfl⟩, tv⟩
       ·have h := An c17 h
        refine Aq (Ab (Aa Ac rfl (qa rfl (Ae ?_))))
        obtain rfl := sj h
        refine Am (sm [] [(4, iD 0)] [] rfl rfl) (AA ?_)
        exact ⟨⟨[_], ⟨.tmp _ _ rfl, tv⟩, rfl⟩, tv⟩
      ·have h := An c16 h
       refine Aq (Ab (Ab (Aa Ac rfl (qf Hr rfl (ql KL rfl (qf BO rfl (ql Bo rfl (qf DI rfl (ql Cm rfl ?_)))))))))
       obtain ⟨v18, a18, b18, h⟩ := Aj h
       refine qi AL Du a18 (Ag b18) rfl (qk Cm rfl (qf BO rfl (ql Bo rfl (qf DI rfl (ql Cm rfl ?_)))))
       obtain ⟨v19, a19, b19, h⟩ := Aj h
       refine qi AL Du a19 (Ag b19) rfl (qk Cm rfl ?_)
       obtain ⟨v20, a20, h⟩ := bind_some h
       refine AJ [] (ID N p1.fm v18 v19 v20 a20) XQ rfl (BW rfl (AB (by kernel_rfl) ?_))
       refine Ap rfl (fun c21 => ?_) (fun c21 => ?_)
       ·have h := Ao c21 h
        refine Ab (Aa Ac rfl (qa rfl (Ae ?_)))
        obtain rfl := sj h
        refine Am (sm [] [(4, iD 6)] [] rfl rfl) (AA ?_)
        exact ⟨⟨[_], ⟨.tmp _ _ rfl, tv⟩, rfl⟩, tv⟩
       ·have h := An c21 h
        refine Aq (Ab (Ab (Aa Ac rfl (qa rfl (Ae ?_)))))
        refine AE (L := Ci N p1) h (fun v22 => mk [(3, oD (.ptr 3 0)), (6, iD v22)] [(3, .box [iC p1.fg, iC p1.fi, iC p1.fk, .pure (.val (.bool p1.fp)), sC (p1.fq.map (Fn eB)), sC (p1.fm.map (Fn eB))])]) (fun v23 => mk [] []) (fun _ _ => rfl) (sm [] _ _ rfl rfl) (fun j22 n22 v22 h => ?_) (fun v23 s h hs => ?_)
        ·unfold Ci at h
         refine Ab (Ab (Aa Ac rfl (qm rfl (qf Hr rfl (ql KL rfl (A1 G6 rfl (AX rfl (Ae ?_))))))))
         refine Ap rfl (fun c24 => ?_) (fun c24 => ?_)
         ·have h := Ao c24 h
          refine Aq (Ab (AK (Ab (Aa Ac rfl (qf Hr rfl (ql KL rfl (qm rfl ?_)))))))
          obtain ⟨v25, a25, b25, h⟩ := Aj h
          refine qi G6 NO a25 (Ag b25) rfl (qk QM rfl (qm rfl ?_))
          obtain ⟨v26, a26, b26, h⟩ := Aj h
          refine qi Hp Sm a26 (Ag b26) rfl (qk TI rfl (BW rfl (Ae ?_)))
          refine Ap rfl (fun c27 => ?_) (fun c27 => ?_)
          ·have h := Ao c27 h
           refine Ab (Aa Ac rfl (qa rfl (Ae ?_)))
           obtain rfl := sj h
           refine Am (sm [] [(4, iD 1)] [] rfl rfl) (AA ?_)
           exact ⟨⟨[_], ⟨.tmp _ _ rfl, tv⟩, rfl⟩, tv⟩
          ·have h := An c27 h
           refine Aq (Aa Ac rfl (qm rfl (AR rfl (qa rfl (Ae ?_)))))
           exact Au _ h (sm [] _ _ rfl rfl)
         ·have h := An c24 h
          refine AS ?_
          exact Au _ h (sm [] _ _ rfl rfl)
        ·refine Am hs (Ab (Aa Ac rfl (qa rfl (Ae ?_))))
         obtain rfl := sj h
         refine Am (sm [] [(4, iD 0)] [] rfl rfl) (AA ?_)
         exact ⟨⟨[_], ⟨.tmp _ _ rfl, tv⟩, rfl⟩, tv⟩
theorem GF (N : Nat) (p0 : Ah) (r : Int) (h : CP N p0 = some r) : AD Tryz.prog 35 [.e (.agg [sC (p0.fb.map Ak), sC (p0.ff.map Ak), sC (p0.fh.map Ak), sC (p0.fc.map Ar)])] [] (iD r) := by
 unfold CP at h
 refine Av (n := 102) (rs := [.tmp 2]) Tryz.func35 rfl rfl rfl (A6 rfl) (A6 rfl) rfl fun w0 S0 => ?_
 refine Ab (Aa Ac rfl (qb rfl (qa rfl (Ae (Ab ?_)))))
 refine AO h (fun v1 => mk [(1, oD (.ptr 1 0)), (16, bD v1)] [(1, .box [sC (p0.fb.map Ak), sC (p0.ff.map Ak), sC (p0.fh.map Ak), sC (p0.fc.map Ar)])]) (fun j1 h => ?_) (fun v1 h => ?_)
 ·refine Aa Ac rfl (qf BO rfl (ql Bo rfl (A1 AL rfl (E2 rfl (qm rfl ?_)))))
  refine AF (t := 11) rfl (fun c2 => ?_) (fun c2 => ?_)
  ·have h := Ao c2 h
   refine qn rfl (qn rfl (qn rfl (qn rfl (qp rfl (Ae ?_)))))
   exact Au _ h (sm [] _ _ rfl rfl)
  ·have h := An c2 h
   refine qf Dc rfl (ql Ia rfl (A1 EG rfl (E2 rfl (qp rfl (Ae ?_)))))
   exact Au _ h (sm [] _ _ rfl rfl)
 ·refine Ap rfl (fun c3 => ?_) (fun c3 => ?_)
  ·have h := Ao c3 h
   refine Ab (Aa Ac rfl (qa rfl (Ae ?_)))
   obtain rfl := sj h
   refine Am (sm [] [(2, iD 3)] [] rfl rfl) (AA ?_)
   exact ⟨⟨[_], ⟨.tmp _ _ rfl, tv⟩, rfl⟩, tv⟩
  ·have h := An c3 h
   refine Aq (Ab ?_)
   refine AO h (fun v4 => mk [(1, oD (.ptr 1 0)), (32, bD v4)] [(1, .box [sC (p0.fb.map Ak), sC (p0.ff.map Ak), sC (p0.fh.map Ak), sC (p0.fc.map Ar)])]) (fun j4 h => ?_) (fun v4 h => ?_)
   ·refine Aa Ac rfl (qf Hq rfl (ql Bo rfl (A1 AL rfl (qf BO rfl (ql Bo rfl (A1 AL rfl (Cp rfl (qm rfl ?_))))))))
    refine AF (t := 24) rfl (fun c5 => ?_) (fun c5 => ?_)
    ·have h := Ao c5 h
     refine qn rfl (qn rfl (qn rfl (qn rfl (qn rfl (qn rfl (qn rfl (qp rfl (Ae ?_))))))))
     exact Au _ h (sm [] _ _ rfl rfl)
    ·have h := An c5 h
     refine qf Ip rfl (ql Bo rfl (A1 AL rfl (qf BO rfl (ql Bo rfl (A1 AL rfl (Cp rfl (qp rfl (Ae ?_))))))))
     exact Au _ h (sm [] _ _ rfl rfl)
   ·refine Ap rfl (fun c6 => ?_) (fun c6 => ?_)
    ·have h := Ao c6 h
     refine Ab (Aa Ac rfl (qa rfl (Ae ?_)))
     obtain rfl := sj h
     refine Am (sm [] [(2, iD 6)] [] rfl rfl) (AA ?_)
     exact ⟨⟨[_], ⟨.tmp _ _ rfl, tv⟩, rfl⟩, tv⟩
    ·have h := An c6 h
     refine Aq (Ab (Ab (Aa Ac rfl (qa rfl (Ae ?_)))))
     refine AE (L := By N p0) h (fun v7 => mk [(1, oD (.ptr 1 0)), (3, iD v7)] [(1, .box [sC (p0.fb.map Ak), sC (p0.ff.map Ak), sC (p0.fh.map Ak), sC (p0.fc.map Ar)])]) (fun v8 => mk [(1, oD (.ptr 1 0))] [(1, .box [sC (p0.fb.map Ak), sC (p0.ff.map Ak), sC (p0.fh.map Ak), sC (p0.fc.map Ar)])]) (fun _ _ => rfl) (sm [] _ _ rfl rfl) (fun j7 n7 v7 h => ?_) (fun v8 s h hs => ?_)
     ·unfold By at h
      refine Ab (Ab (Aa Ac rfl (qm rfl (qf BO rfl (ql Bo rfl (A1 AL rfl (AX rfl (Ae ?_))))))))
      refine Ap rfl (fun c9 => ?_) (fun c9 => ?_)
      ·have h := Ao c9 h
       refine Aq (Ab (AK (Ab (Aa Ac rfl (qf BO rfl (ql Bo rfl (qm rfl ?_)))))))
       obtain ⟨v10, a10, b10, h⟩ := Aj h
       refine qi AL Du a10 (Ag b10) rfl (qk Cm rfl (qa rfl (Ae ?_)))
       refine AO h (fun v11 => mk [(1, oD (.ptr 1 0)), (3, iD v7), (84, bD v11)] [(1, .box [sC (p0.fb.map Ak), sC (p0.ff.map Ak), sC (p0.fh.map Ak), sC (p0.fc.map Ar)])]) (fun j11 h => ?_) (fun v11 h => ?_)
       ·refine Aa Ac rfl (qm rfl (AX rfl (qm rfl ?_)))
        refine AF (t := 47) rfl (fun c12 => ?_) (fun c12 => ?_)
        ·have h := Ao c12 h
         refine qn rfl (qn rfl (qp rfl (qm rfl (qn rfl (qn rfl (qn rfl (qn rfl (qn rfl (qn rfl (qp rfl (qm rfl (qn rfl (qn rfl (qn rfl (qn rfl (qn rfl (qn rfl (qn rfl (qp rfl (qm rfl (qn rfl (qn rfl (qn rfl (qn rfl (qn rfl (qn rfl (qp rfl (qm rfl (qn rfl (qn rfl (qn rfl (qn rfl (qn rfl (qn rfl (qn rfl (qp rfl (Ae ?_)))))))))))))))))))))))))))))))))))))
         exact Au _ h (sm [] _ _ rfl rfl)
        ·have h := An c12 h
         refine qm rfl (E2 rfl (qp rfl (qm rfl ?_)))
         refine AF (t := 51) rfl (fun c13 => ?_) (fun c13 => ?_)
         ·have h := Ao c13 h
          refine qn rfl (qn rfl (qn rfl (qn rfl (qn rfl (qn rfl (qp rfl (qm rfl (qn rfl (qn rfl (qn rfl (qn rfl (qn rfl (qn rfl (qn rfl (qp rfl (qm rfl (qn rfl (qn rfl (qn rfl (qn rfl (qn rfl (qn rfl (qp rfl (qm rfl (qn rfl (qn rfl (qn rfl (qn rfl (qn rfl (qn rfl (qn rfl (qp rfl (Ae ?_)))))))))))))))))))))))))))))))))
          exact Au _ h (sm [] _ _ rfl rfl)
         ·have h := An c13 h
          refine qf Hq rfl (ql Bo rfl (qm rfl ?_))
          obtain ⟨v14, a14, b14, h⟩ := Aj h
          refine qi AL Du a14 (Ag b14) rfl (qk Cm rfl (AX rfl (qp rfl (qm rfl ?_))))
          refine AF (t := 59) rfl (fun c15 => ?_) (fun c15 => ?_)
          ·have h := Ao c15 h
           refine qn rfl (qn rfl (qn rfl (qn rfl (qn rfl (qn rfl (qn rfl (qp rfl (qm rfl (qn rfl (qn rfl (qn rfl (qn rfl (qn rfl (qn rfl (qp rfl (qm rfl (qn rfl (qn rfl (qn rfl (qn rfl (qn rfl (qn rfl (qn rfl (qp rfl (Ae ?_)))))))))))))))))))))))))
           exact Au _ h (sm [] _ _ rfl rfl)
          ·have h := An c15 h
           refine qf Hq rfl (ql Bo rfl (qm rfl ?_))
           obtain ⟨v16, a16, b16, h⟩ := Aj h
           refine qi AL Du a16 (Ag b16) rfl (qk Cm rfl (qm rfl (Cz rfl (qp rfl (qm rfl ?_)))))
           refine AF (t := 68) rfl (fun c17 => ?_) (fun c17 => ?_)
           ·have h := Ao c17 h
            refine qn rfl (qn rfl (qn rfl (qn rfl (qn rfl (qn rfl (qp rfl (qm rfl (qn rfl (qn rfl (qn rfl (qn rfl (qn rfl (qn rfl (qn rfl (qp rfl (Ae ?_))))))))))))))))
            exact Au _ h (sm [] _ _ rfl rfl)
           ·have h := An c17 h
            refine qf Ip rfl (ql Bo rfl (qm rfl ?_))
            obtain ⟨v18, a18, b18, h⟩ := Aj h
            refine qi AL Du a18 (Ag b18) rfl (qk Cm rfl (AX rfl (qp rfl (qm rfl ?_))))
            refine AF (t := 76) rfl (fun c19 => ?_) (fun c19 => ?_)
            ·have h := Ao c19 h
             refine qn rfl (qn rfl (qn rfl (qn rfl (qn rfl (qn rfl (qn rfl (qp rfl (Ae ?_))))))))
             exact Au _ h (sm [] _ _ rfl rfl)
            ·have h := An c19 h
             refine qf Ip rfl (ql Bo rfl (qm rfl ?_))
             obtain ⟨v20, a20, b20, h⟩ := Aj h
             refine qi AL Du a20 (Ag b20) rfl (qk Cm rfl (qm rfl (Cz rfl (qp rfl (Ae ?_)))))
             exact Au _ h (sm [] _ _ rfl rfl)
       ·refine Ap rfl (fun c21 => ?_) (fun c21 => ?_)
        ·have h := Ao c21 h
         refine Ab (Aa Ac rfl (qa rfl (Ae ?_)))
         obtain rfl := sj h
         refine Am (sm [] [(2, iD 7)] [] rfl rfl) (AA ?_)
         exact ⟨⟨[_], ⟨.tmp _ _ rfl, tv⟩, rfl⟩, tv⟩
        ·have h := An c21 h
         refine Aq (Aa Ac rfl (qm rfl (AR rfl (qa rfl (Ae ?_)))))
         exact Au _ h (sm [] _ _ rfl rfl)
      ·have h := An c9 h
       refine AS ?_
       exact Au _ h (sm [] _ _ rfl rfl)
     ·refine Am hs (Ab (Ab (Aa Ac rfl (qa rfl (Ae ?_)))))
      refine AE (L := Bt N p0) h (fun v22 => mk [(1, oD (.ptr 1 0)), (5, iD v22)] [(1, .box [sC (p0.fb.map Ak), sC (p0.ff.map Ak), sC (p0.fh.map Ak), sC (p0.fc.map Ar)])]) (fun v23 => mk [] []) (fun _ _ => rfl) (sm [] _ _ rfl rfl) (fun j22 n22 v22 h => ?_) (fun v23 s h hs => ?_)
      ·unfold Bt at h
       refine Ab (Ab (Aa Ac rfl (qm rfl (qf Dc rfl (ql Ia rfl (A1 EG rfl (AX rfl (Ae ?_))))))))
       refine Ap rfl (fun c24 => ?_) (fun c24 => ?_)
       ·have h := Ao c24 h
        refine Aq (Ab (AK (Ab (Aa Ac rfl (qL DL Di rfl (qf Dc rfl (ql Ia rfl (qm rfl ?_))))))))
        obtain ⟨v25, a25, b25, h⟩ := Aj h
        refine qi EG EO a25 (Ag b25) rfl (qK Io EO rfl ?_)
        obtain ⟨v26, a26, h⟩ := bind_some h
        refine AJ [] (Lz N p0 v25 v26 a26) bj rfl (qa rfl (AB (by kernel_rfl) (Ab (Aa Ac rfl (qm rfl (Cp rfl (Ae ?_)))))))
        refine Ap rfl (fun c27 => ?_) (fun c27 => ?_)
        ·have h := Ao c27 h
         refine Ab (Aa Ac rfl (qm rfl (qa rfl (Ae ?_))))
         obtain rfl := sj h
         refine Am (sm [] [(2, iD v26)] [] rfl rfl) (AA ?_)
         exact ⟨⟨[_], ⟨.tmp _ _ rfl, tv⟩, rfl⟩, tv⟩
        ·have h := An c27 h
         refine Aq (Aa Ac rfl (qm rfl (AR rfl (qa rfl (Ae ?_)))))
         exact Au _ h (sm [] _ _ rfl rfl)
       ·have h := An c24 h
        refine AS ?_
        exact Au _ h (sm [] _ _ rfl rfl)
      ·refine Am hs (Ab (Aa Ac rfl (qa rfl (Ae ?_))))
       obtain rfl := sj h
       refine Am (sm [] [(2, iD 0)] [] rfl rfl) (AA ?_)
       exact ⟨⟨[_], ⟨.tmp _ _ rfl, tv⟩, rfl⟩, tv⟩
theorem Lv (N : Nat) (p0 : Ah) (r : Af × Int) (h : EQ N p0 = some r) : AD Tryz.prog 70 [.e (.agg [sC (p0.fb.map Ak), sC (p0.ff.map Ak), sC (p0.fh.map Ak), sC (p0.fc.map Ar)])] [(1, r.1.fd.map Ak), (1, r.1.fa.map Ak), (1, r.1.fe.map Bn)] (.tup [.agg [.own 0, .own 1, .own 2], .one (iC r.2)]) := by
 unfold EQ at h
 refine Av (n := 68) (rs := [.cell 2 46, .tmp 3]) Tryz.func70 rfl rfl rfl (A6 rfl) (A6 rfl) rfl fun w0 S0 => ?_
 refine Ab (Aa Ac rfl (qb rfl (qz Cw rfl (qa rfl (Ae (Ab (Ab (Aa Ac rfl (qL DL Di rfl ?_)))))))))
 obtain ⟨v1, a1, h⟩ := bind_some h
 refine AJ [] (GF N p0 v1 a1) aj rfl (qa rfl (Ae (Ab (Aa Ac rfl (qm rfl (Cp rfl (Ae ?_)))))))
 refine Ap rfl (fun c2 => ?_) (fun c2 => ?_)
 ·have h := Ao c2 h
  refine Ab (Aa Ac rfl (Bz Cw HB rfl (qm rfl (qs Az rfl (qa rfl (Ae ?_))))))
  obtain rfl := sj h
  refine Am ((AH 2 0 2001 1 _ rfl rfl rfl rfl).trans ((AH 2 1 2002 1 _ rfl rfl rfl rfl).trans ((AH 2 2 2003 1 _ rfl rfl rfl rfl).trans (sm [(1000, 2001), (1001, 2002), (1002, 2003)] [(2, oD (.ptr 2 0)), (3, iD v1)] [(2, .box [.own 1000, .own 1001, .own 1002]), (1000, .vec 1 ((([] : List Int)).map Ak)), (1001, .vec 1 ((([] : List Int)).map Ak)), (1002, .vec 1 ((([] : List Int)).map Bn))] rfl rfl)))) (AA ?_)
  exact ⟨⟨[_, _], ⟨.cellN _ _ _ _ _ _ _ rfl rfl A7 Az rfl rfl (Jx rfl), ⟨.tmp _ _ rfl, tv⟩⟩, rfl⟩, ⟨rfl, rfl, rfl, tv⟩⟩
 ·have h := An c2 h
  refine Aq (Ab (Aa Ac rfl (qz Cw rfl (Ae (Ab (Ab (Aa Ac rfl (qa rfl (Ae ?_)))))))))
  refine AE (L := Ct N p0) h (fun v3 => mk [(1, oD (.ptr 1 0)), (2, oD (.ptr 2 0)), (5, oD (.ptr 5 0)), (6, iD v3.2.2)] [(1, .box [sC (p0.fb.map Ak), sC (p0.ff.map Ak), sC (p0.fh.map Ak), sC (p0.fc.map Ar)]), (2, .box [.pure (.nil0), .pure (.nil0), .pure (.nil0)]), (5, .box [.own 2004, .own 2005, .pure (.nil0)]), (2004, .vec 1 (v3.1.map Ak)), (2005, .vec 1 (v3.2.1.map Ak))]) (fun v4 => mk [(1, oD (.ptr 1 0)), (2, oD (.ptr 2 0)), (5, oD (.ptr 5 0))] [(1, .box [sC (p0.fb.map Ak), sC (p0.ff.map Ak), sC (p0.fh.map Ak), sC (p0.fc.map Ar)]), (2, .box [.pure (.nil0), .pure (.nil0), .pure (.nil0)]), (5, .box [.own 2006, .own 2007, .pure (.nil0)]), (2006, .vec 1 (v4.1.map Ak)), (2007, .vec 1 (v4.2.map Ak))]) (fun _ _ => rfl) ((AH 5 0 2008 1 _ rfl rfl rfl rfl).trans ((AH 5 1 2009 1 _ rfl rfl rfl rfl).trans (sm [(2004, 2008), (2005, 2009)] _ _ rfl rfl))) (fun j3 n3 v3 h => ?_) (fun v4 s h hs => ?_)
  ·unfold Ct at h
   refine Ab (Ab (Aa Ac rfl (qm rfl (qf BO rfl (ql Bo rfl (A1 AL rfl (AX rfl (Ae ?_))))))))
   refine Ap rfl (fun c5 => ?_) (fun c5 => ?_)
   ·have h := Ao c5 h
    refine Aq (Ab (AK (Ab (Aa Ac rfl (qf CO rfl (ql Bo rfl (qf Hq rfl (ql Bo rfl (qm rfl ?_)))))))))
    obtain ⟨v6, a6, b6, h⟩ := Aj h
    refine qi AL Du a6 (Ag b6) rfl (qk Cm rfl (DY AL Du KI rfl ?_))
    obtain ⟨c7, h⟩ := AU h
    refine DO (f := Ak) AL AL Du M4 KI c7 rfl (qf CO rfl (qs Wo rfl (AB (by kernel_rfl) (Aa Ac rfl (qf BH rfl (ql Bo rfl (DY AL Du KI rfl ?_)))))))
    obtain ⟨c8, h⟩ := AU h
    refine DO (f := Ak) AL AL Du M4 KI c8 rfl (qf BH rfl (qs Wo rfl (Ae (Aa Ac rfl (qm rfl (AR rfl (qa rfl (Ae ?_))))))))
    exact Au _ h (sm [(2004, 30), (2005, 35)] _ _ rfl rfl)
   ·have h := An c5 h
    refine AS ?_
    exact Au _ h (sm [(2006, 2004), (2007, 2005)] _ _ rfl rfl)
  ·refine Am hs (Ab (Ab (Aa Ac rfl (qa rfl (Ae ?_)))))
   refine AE (L := Bv N p0) h (fun v9 => mk [(1, oD (.ptr 1 0)), (2, oD (.ptr 2 0)), (5, oD (.ptr 5 0)), (7, iD v9.2)] [(1, .box [sC (p0.fb.map Ak), sC (p0.ff.map Ak), sC (p0.fh.map Ak), sC (p0.fc.map Ar)]), (2, .box [.pure (.nil0), .pure (.nil0), .pure (.nil0)]), (5, .box [.own 2010, .own 2011, .own 2012]), (2010, .vec 1 (v4.1.map Ak)), (2011, .vec 1 (v4.2.map Ak)), (2012, .vec 1 (v9.1.map Bn))]) (fun v10 => mk [(2, oD (.ptr 2 0)), (5, oD (.ptr 5 0))] [(2, .box [.pure (.nil0), .pure (.nil0), .pure (.nil0)]), (5, .box [.own 2013, .own 2014, .own 2015]), (2013, .vec 1 (v4.1.map Ak)), (2014, .vec 1 (v4.2.map Ak)), (2015, .vec 1 (v10.map Bn))]) (fun _ _ => rfl) ((AH 5 2 2019 1 _ rfl rfl rfl rfl).trans (sm [(2010, 2006), (2011, 2007), (2012, 2019)] _ _ rfl rfl)) (fun j9 n9 v9 h => ?_) (fun v10 s h hs => ?_)
   ·unfold Bv at h
    refine Ab (Ab (Aa Ac rfl (qm rfl (qf Dc rfl (ql Ia rfl (A1 EG rfl (AX rfl (Ae ?_))))))))
    refine Ap rfl (fun c11 => ?_) (fun c11 => ?_)
    ·have h := Ao c11 h
     refine Aq (Ab (AK (Ab (Aa Ac rfl (qa rfl (Ae ?_))))))
     refine AO h (fun v12 => mk [(1, oD (.ptr 1 0)), (2, oD (.ptr 2 0)), (5, oD (.ptr 5 0)), (7, iD v9.2), (8, pD (.val (.int .u8 v12)))] [(1, .box [sC (p0.fb.map Ak), sC (p0.ff.map Ak), sC (p0.fh.map Ak), sC (p0.fc.map Ar)]), (2, .box [.pure (.nil0), .pure (.nil0), .pure (.nil0)]), (5, .box [.own 2016, .own 2017, .own 2018]), (2016, .vec 1 (v4.1.map Ak)), (2017, .vec 1 (v4.2.map Ak)), (2018, .vec 1 (v9.1.map Bn))]) (fun j12 h => ?_) (fun v12 h => ?_)
     ·refine Ab (Aa Ac rfl (qf Dc rfl (ql Ia rfl (qm rfl ?_))))
      obtain ⟨v13, a13, b13, h⟩ := Aj h
      refine qi EG EO a13 (Ag b13) rfl (qK Io EO rfl ?_)
      obtain ⟨v14, a14, h⟩ := bind_some h
      refine AJ [] (CG N v13 v14 a14) QW rfl (Ae ?_)
      refine Ap rfl (fun c15 => ?_) (fun c15 => ?_)
      ·have h := Ao c15 h
       refine Aa Ac rfl (qf Hq rfl (ql Bo rfl (qf Dc rfl (ql Ia rfl (qm rfl ?_)))))
       obtain ⟨v16, a16, b16, h⟩ := Aj h
       refine qi EG EO a16 (Ag b16) rfl (qg DI rfl (qk Cm rfl ?_))
       obtain ⟨v17, a17, b17, h⟩ := Aj h
       refine qi AL Du a17 (Ag b17) rfl (qk Cm rfl ?_)
       obtain ⟨c18, h⟩ := AU h
       refine IC rfl c18 (qa rfl (AB (by kernel_rfl) ?_))
       exact Au _ h (sm [(2016, 2010), (2017, 2011), (2018, 2012)] _ _ rfl rfl)
      ·have h := An c15 h
       refine Aq ?_
       exact Au _ h (sm [(2016, 2010), (2017, 2011), (2018, 2012)] _ _ rfl rfl)
     ·refine Aa Ac rfl (qf CU rfl (ql Hb rfl (qm rfl (DY Dr F5 Ob rfl ?_))))
      obtain ⟨c19, h⟩ := AU h
      refine DO (f := Bn) Dr Dr F5 RK Ob c19 rfl (qf CU rfl (qs bQ rfl (Ae (Aa Ac rfl (qm rfl (AR rfl (qa rfl (Ae ?_))))))))
      exact Au _ h (sm [(2010, 2016), (2011, 2017), (2012, 65)] _ _ rfl rfl)
    ·have h := An c11 h
     refine AS ?_
     exact Au _ h (sm [(2013, 2010), (2014, 2011), (2015, 2012)] _ _ rfl rfl)
   ·refine Am hs (Ab (Aa Ac rfl (qL A7 Az rfl (qs Az rfl (qa rfl (Ae ?_))))))
    obtain rfl := sj h
    refine Am (sm [(1000, 2013), (1001, 2014), (1002, 2015)] [(2, oD (.ptr 2 0)), (3, iD 0)] [(2, .box [.own 1000, .own 1001, .own 1002]), (1000, .vec 1 (v4.1.map Ak)), (1001, .vec 1 (v4.2.map Ak)), (1002, .vec 1 (v10.map Bn))] rfl rfl) (AA ?_)
    exact ⟨⟨[_, _], ⟨.cellN _ _ _ _ _ _ _ rfl rfl A7 Az rfl rfl (Jx rfl), ⟨.tmp _ _ rfl, tv⟩⟩, rfl⟩, ⟨rfl, rfl, rfl, tv⟩⟩
theorem KS (N : Nat) (p0 : Af) (r : Af) (h : EC N p0 = some r) : AD Tryz.prog 142 [.e (.agg [sC (p0.fd.map Ak), sC (p0.fa.map Ak), sC (p0.fe.map Bn)])] [(1, r.fd.map Ak), (1, r.fa.map Ak), (1, r.fe.map Bn)] (.e (.agg [.own 0, .own 1, .own 2])) := by
 unfold EC at h
 refine Av (n := 16) (rs := [.cell 2 46]) Tryz.func142 rfl rfl rfl (A6 rfl) (A6 rfl) rfl fun w0 S0 => ?_
 refine Ab (Aa Ac rfl (qb rfl (qz Cw rfl (Ae (Ab (Aa Ac rfl (DY AL Du KI rfl (qf CO rfl (ql Bo rfl ?_)))))))))
 obtain ⟨c1, h⟩ := AU h
 refine JN (f := Ak) AL AL Du M4 KI (fun _ => rfl) c1 rfl (DY AL Du KI rfl (qf BH rfl (ql Bo rfl ?_)))
 obtain ⟨c2, h⟩ := AU h
 refine JN (f := Ak) AL AL Du M4 KI (fun _ => rfl) c2 rfl (DY Dr F5 Ob rfl (qf CU rfl (ql Hb rfl ?_)))
 obtain ⟨c3, h⟩ := AU h
 refine JN (f := Bn) Dr Dr F5 RK Ob (fun _ => rfl) c3 rfl (Bz Cw HB rfl (qs Az rfl (AB (by kernel_rfl) ?_)))
 obtain rfl := sj h
 refine Am (sm [(1000, 6), (1001, 10), (1002, 14)] [(2, oD (.ptr 2 0))] [(2, .box [.own 1000, .own 1001, .own 1002]), (1000, .vec 1 (((([] : List Int)) ++ p0.fd).map Ak)), (1001, .vec 1 (((([] : List Int)) ++ p0.fa).map Ak)), (1002, .vec 1 (((([] : List Int)) ++ p0.fe).map Bn))] rfl rfl) (AA ?_)
 exact ⟨⟨[_], ⟨.cellN _ _ _ _ _ _ _ rfl rfl A7 Az rfl rfl (Jx rfl), tv⟩, rfl⟩, ⟨rfl, rfl, rfl, tv⟩⟩
theorem MI (N : Nat) (p0 : Af) (r : (List Af)) (h : EI N p0 = some r) : AD Tryz.prog 111 [.e (.agg [sC (p0.fd.map Ak), sC (p0.fa.map Ak), sC (p0.fe.map Bn)])] [(3, r.map Ai)] (oD (.own 0)) := by
 unfold EI at h
 refine Av (n := 62) (rs := [.tmp 2]) Tryz.func111 rfl rfl rfl (A6 rfl) (A6 rfl) rfl fun w0 S0 => ?_
 refine Ab (Aa Ac rfl (qb rfl (qa rfl (Ae (Ab (Aa Ac rfl (qa rfl (Ae (Ab (Ab (Aa Ac rfl (qa rfl (Ae ?_)))))))))))))
 refine AE (L := CT N p0) h (fun v1 => mk [(1, oD (.ptr 1 0)), (3, iD v1.1), (4, iD v1.2)] [(1, .box [sC (p0.fd.map Ak), sC (p0.fa.map Ak), sC (p0.fe.map Bn)])]) (fun v2 => mk [(1, oD (.ptr 1 0)), (3, iD v2)] [(1, .box [sC (p0.fd.map Ak), sC (p0.fa.map Ak), sC (p0.fe.map Bn)])]) (fun _ _ => rfl) (sm [] _ _ rfl rfl) (fun j1 n1 v1 h => ?_) (fun v2 s h hs => ?_)
 ·unfold CT at h
  refine Ab (Ab (Aa Ac rfl (qm rfl (qf BH rfl (ql Bo rfl (A1 AL rfl (AX rfl (Ae ?_))))))))
  refine Ap rfl (fun c3 => ?_) (fun c3 => ?_)
  ·have h := Ao c3 h
   refine Aq ?_
   refine AO h (fun v4 => mk [(1, oD (.ptr 1 0)), (3, iD v4), (4, iD v1.2)] [(1, .box [sC (p0.fd.map Ak), sC (p0.fa.map Ak), sC (p0.fe.map Bn)])]) (fun j4 h => ?_) (fun v4 h => ?_)
   ·refine AK (Ab (Aa Ac rfl (qf BH rfl (ql Bo rfl (qm rfl ?_)))))
    obtain ⟨v5, a5, b5, h⟩ := Aj h
    refine qi AL Du a5 (Ag b5) rfl (qk Cm rfl (Cz rfl (Ae ?_)))
    refine Ap rfl (fun c6 => ?_) (fun c6 => ?_)
    ·have h := Ao c6 h
     refine Aa Ac rfl (qm rfl (AR rfl (qa rfl (Ae ?_))))
     exact Au _ h (sm [] _ _ rfl rfl)
    ·have h := An c6 h
     refine Aq ?_
     exact Au _ h (sm [] _ _ rfl rfl)
   ·refine Aa Ac rfl (qm rfl (AR rfl (qa rfl (Ae ?_))))
    exact Au _ h (sm [] _ _ rfl rfl)
  ·have h := An c3 h
   refine AS ?_
   exact Au _ h (sm [] _ _ rfl rfl)
 ·refine Am hs (Ab (Aa Ac rfl (qa rfl (Ae (Ab (Ab (Aa Ac rfl (qa rfl (Ae ?_)))))))))
  refine AE (L := BP N p0 v2) h (fun v7 => mk [(1, oD (.ptr 1 0)), (3, iD v2), (5, oD (.own 2001)), (6, iD v7.2)] [(1, .box [sC (p0.fd.map Ak), sC (p0.fa.map Ak), sC (p0.fe.map Bn)]), (2001, .vec 3 (v7.1.map Ai))]) (fun v8 => mk [(5, oD (.own 2002))] [(2002, .vec 3 (v8.map Ai))]) (fun _ _ => rfl) ((Bu 5 2022 3 rfl rfl rfl).trans (sm [(2001, 2022)] _ _ rfl rfl)) (fun j7 n7 v7 h => ?_) (fun v8 s h hs => ?_)
  ·unfold BP at h
   refine Ab (Ab (Aa Ac rfl (qm rfl (qm rfl ?_))))
   obtain ⟨c9, h⟩ := AU h
   refine IC rfl c9 (AX rfl (Ae ?_))
   refine Ap rfl (fun c10 => ?_) (fun c10 => ?_)
   ·have h := Ao c10 h
    refine Aq (Ab (AK (Ab (Aa Ac rfl (qL A7 Az rfl ?_)))))
    obtain ⟨v11, a11, h⟩ := bind_some h
    refine AJ [2003, 2004, 2005] (KS N p0 v11 a11) ZQ rfl (qz Cw rfl (qs Az rfl (Ae (Ab (Aa Ac rfl (qa rfl (Ae (Ab (Ab (Aa Ac rfl (qa rfl (Ae ?_))))))))))))
    refine AE (L := Cd N p0 v7) h (fun v12 => mk [(1, oD (.ptr 1 0)), (3, iD v2), (5, oD (.own 2009)), (6, iD v7.2), (7, oD (.ptr 7 0)), (8, iD v12.2.1), (9, iD v12.2.2)] [(1, .box [sC (p0.fd.map Ak), sC (p0.fa.map Ak), sC (p0.fe.map Bn)]), (7, .box [.own 2006, .own 2007, .own 2008]), (2006, .vec 1 (v11.fd.map Ak)), (2007, .vec 1 (v12.1.map Ak)), (2008, .vec 1 (v11.fe.map Bn)), (2009, .vec 3 (v7.1.map Ai))]) (fun v13 => mk [(1, oD (.ptr 1 0)), (3, iD v2), (5, oD (.own 2013)), (6, iD v7.2), (7, oD (.ptr 7 0))] [(1, .box [sC (p0.fd.map Ak), sC (p0.fa.map Ak), sC (p0.fe.map Bn)]), (7, .box [.own 2010, .own 2011, .own 2012]), (2010, .vec 1 (v11.fd.map Ak)), (2011, .vec 1 (v13.map Ak)), (2012, .vec 1 (v11.fe.map Bn)), (2013, .vec 3 (v7.1.map Ai))]) (fun _ _ => rfl) (sm [(2006, 2003), (2007, 2004), (2008, 2005), (2009, 2001)] _ _ rfl rfl) (fun j12 n12 v12 h => ?_) (fun v13 s h hs => ?_)
    ·unfold Cd at h
     refine Ab (Ab (Aa Ac rfl (qm rfl (qf BH rfl (ql Bo rfl (A1 AL rfl (AX rfl (Ae ?_))))))))
     refine Ap rfl (fun c14 => ?_) (fun c14 => ?_)
     ·have h := Ao c14 h
      refine Aq ?_
      refine AO h (fun v15 => mk [(1, oD (.ptr 1 0)), (3, iD v2), (5, oD (.own 2017)), (6, iD v7.2), (7, oD (.ptr 7 0)), (8, iD v15.2), (9, iD v12.2.2)] [(1, .box [sC (p0.fd.map Ak), sC (p0.fa.map Ak), sC (p0.fe.map Bn)]), (7, .box [.own 2014, .own 2015, .own 2016]), (2014, .vec 1 (v11.fd.map Ak)), (2015, .vec 1 (v15.1.map Ak)), (2016, .vec 1 (v11.fe.map Bn)), (2017, .vec 3 (v7.1.map Ai))]) (fun j15 h => ?_) (fun v15 h => ?_)
      ·refine AK (Ab (Ab (Aa Ac rfl (qf BH rfl (ql Bo rfl (qm rfl ?_))))))
       obtain ⟨v16, a16, b16, h⟩ := Aj h
       refine qi AL Du a16 (Ag b16) rfl (qk Cm rfl (AX rfl (Ae ?_)))
       refine Ap rfl (fun c17 => ?_) (fun c17 => ?_)
       ·have h := Ao c17 h
        refine AS ?_
        exact Au _ h (sm [(2014, 2006), (2015, 2007), (2016, 2008), (2017, 2009)] _ _ rfl rfl)
       ·have h := An c17 h
        refine Aq ?_
        refine AO h (fun v18 => mk [(1, oD (.ptr 1 0)), (3, iD v2), (5, oD (.own 2021)), (6, iD v7.2), (7, oD (.ptr 7 0)), (8, iD v12.2.1), (9, iD v12.2.2)] [(1, .box [sC (p0.fd.map Ak), sC (p0.fa.map Ak), sC (p0.fe.map Bn)]), (7, .box [.own 2018, .own 2019, .own 2020]), (2018, .vec 1 (v11.fd.map Ak)), (2019, .vec 1 (v18.map Ak)), (2020, .vec 1 (v11.fe.map Bn)), (2021, .vec 3 (v7.1.map Ai))]) (fun j18 h => ?_) (fun v18 h => ?_)
        ·refine Ab (Aa Ac rfl (qm rfl (qm rfl ?_)))
         obtain ⟨c19, h⟩ := AU h
         refine HI rfl c19 (My rfl (by decide) (BK rfl (Ae ?_)))
         refine Ap rfl (fun c20 => ?_) (fun c20 => ?_)
         ·have h := Ao c20 h
          refine Aa Ac rfl (qf BH rfl (ql Bo rfl (qm rfl ?_)))
          obtain ⟨v21, a21, b21, h⟩ := Aj h
          refine qI AL Du a21 (Ag b21) rfl ?_
          refine AY rfl rfl rfl rfl (Ag b21) rfl Du rfl (A6 rfl) (AZ Ak v12.1 _ ((-1))) ?_
          refine Ae ?_
          exact Au _ h (sm [(2018, 2006), (2019, 2007), (2020, 2008), (2021, 2009)] _ _ rfl rfl)
         ·have h := An c20 h
          refine Aq ?_
          exact Au _ h (sm [(2018, 2006), (2019, 2007), (2020, 2008), (2021, 2009)] _ _ rfl rfl)
        ·refine Aa Ac rfl (qm rfl (AR rfl (qa rfl (Ae ?_))))
         exact Au _ h (sm [(2014, 2018), (2015, 2019), (2016, 2020), (2017, 2021)] _ _ rfl rfl)
      ·refine Aa Ac rfl (qm rfl (AR rfl (qa rfl (Ae ?_))))
       exact Au _ h (sm [(2006, 2014), (2007, 2015), (2008, 2016), (2009, 2017)] _ _ rfl rfl)
     ·have h := An c14 h
      refine AS ?_
      exact Au _ h (sm [(2010, 2006), (2011, 2007), (2012, 2008), (2013, 2009)] _ _ rfl rfl)
    ·refine Am hs (Aa Ac rfl (qm rfl (qL A7 Az rfl (DT (Bk 2010 _ _ rfl rfl) (DT (Bk 2011 _ _ rfl rfl) (DT (Bk 2012 _ _ rfl rfl) (DY AV Az Cw rfl ?_)))))))
     obtain ⟨c22, h⟩ := AU h
     refine DO (f := Ai) AV AV Az Ng Cw c22 rfl (qa rfl (Ae (Aa Ac rfl (qm rfl (AR rfl (qa rfl (Ae ?_)))))))
     exact Au _ h (sm [(2001, 60)] _ _ rfl rfl)
   ·have h := An c10 h
    refine AS ?_
    exact Au _ h (sm [(2002, 2001)] _ _ rfl rfl)
  ·refine Am hs (Ab (Aa Ac rfl (qm rfl (qa rfl (Ae ?_)))))
   obtain rfl := sj h
   refine Am (sm [(1000, 2002)] [(2, oD (.own 1000))] [(1000, .vec 3 (v8.map Ai))] rfl rfl) (AA ?_)
   exact ⟨⟨[_], ⟨.tmp _ _ rfl, tv⟩, rfl⟩, ⟨rfl, tv⟩⟩
theorem EE (N : Nat) (p0 : Af) (p1 : Int) (r : Int) (h : Cc N p0 p1 = some r) : AD Tryz.prog 54 [.e (.agg [sC (p0.fd.map Ak), sC (p0.fa.map Ak), sC (p0.fe.map Bn)]), iD p1] [] (pD (.val (.int .u8 r))) := by
 unfold Cc at h
 refine Av (n := 27) (rs := [.tmp 4]) Tryz.func54 rfl rfl rfl (A6 rfl) (A6 rfl) rfl fun w0 S0 => ?_
 refine Ab (Aa Ac rfl (qb rfl (qa rfl (Ae (Ab (Aa Ac rfl (qf CO rfl (ql Bo rfl (qm rfl ?_)))))))))
 obtain ⟨v1, a1, b1, h⟩ := Aj h
 refine qi AL Du a1 (Ag b1) rfl (qk Cm rfl ?_)
 obtain ⟨c2, h⟩ := AU h
 refine IC rfl c2 (qa rfl (Ae ?_))
 refine AO h (fun v3 => mk [(5, pD (.val (.int .u8 v3)))] []) (fun j3 h => ?_) (fun v3 h => ?_)
 ·refine Ab (Aa Ac rfl (qf BH rfl (ql Bo rfl (qm rfl ?_))))
  obtain ⟨v4, a4, b4, h⟩ := Aj h
  refine qi AL Du a4 (Ag b4) rfl (qk Cm rfl (Cz rfl (Ae ?_)))
  refine Ap rfl (fun c5 => ?_) (fun c5 => ?_)
  ·have h := Ao c5 h
   refine Aa Ac rfl (qm rfl (qf BH rfl (ql Bo rfl (qm rfl ?_))))
   obtain ⟨v6, a6, b6, h⟩ := Aj h
   refine qi AL Du a6 (Ag b6) rfl (qk Cm rfl ?_)
   obtain ⟨c7, h⟩ := AU h
   refine IC rfl c7 (UF rfl (qa rfl (Ae ?_)))
   exact Au _ h (sm [] _ _ rfl rfl)
  ·have h := An c5 h
   refine Aq ?_
   exact Au _ h (sm [] _ _ rfl rfl)
 ·refine Ab (Aa Ac rfl (qm rfl (qa rfl (Ae ?_))))
  obtain rfl := sj h
  refine Am (sm [] [(4, pD (.val (.int .u8 v3)))] [] rfl rfl) (AA ?_)
  exact ⟨⟨[_], ⟨.tmp _ _ rfl, tv⟩, rfl⟩, tv⟩
theorem Gz (N : Nat) (p0 : Int) (p1 : Int) (r : Bool) (h : CL N p0 p1 = some r) : AD Tryz.prog 114 [pD (.val (.int .u8 p0)), iD p1] [] (bD r) := by
 unfold CL at h
 refine Av (n := 10) (rs := [.tmp 4]) Tryz.func114 rfl rfl rfl (A6 rfl) (A6 rfl) rfl fun w0 S0 => ?_
 refine Ab (Aa Ac rfl (qa rfl (Ae (Ab (Aa Ac rfl (qm rfl (qm rfl ?_)))))))
 obtain ⟨c1, h⟩ := AU h
 refine HI rfl c1 (LF rfl (BK rfl (qa rfl (Ae ?_))))
 obtain rfl := sj h
 refine Am (sm [] [(4, bD (((Gf .u8 ((Eh .u8 p0 p1)) 1) == 1)))] [] rfl rfl) (AA ?_)
 exact ⟨⟨[_], ⟨.tmp _ _ rfl, tv⟩, rfl⟩, tv⟩
theorem Lu (N : Nat) (p0 : Ah) (p1 : Af) (r : (List Al)) (h : E0 N p0 p1 = some r) : AD Tryz.prog 129 [.e (.agg [sC (p0.fb.map Ak), sC (p0.ff.map Ak), sC (p0.fh.map Ak), sC (p0.fc.map Ar)]), .e (.agg [sC (p1.fd.map Ak), sC (p1.fa.map Ak), sC (p1.fe.map Bn)])] [(3, r.map Ad)] (oD (.own 0)) := by
 unfold E0 at h
 refine Av (n := 111) (rs := [.tmp 4]) Tryz.func129 rfl rfl rfl (A6 rfl) (A6 rfl) rfl fun w0 S0 => ?_
 refine Ab (Aa Ac rfl (qb rfl (qb rfl (qa rfl (Ae (Ab (Aa Ac rfl (qa rfl (Ae (Ab (Ab (Aa Ac rfl (qa rfl (Ae ?_))))))))))))))
 refine AE (L := CW N p0 p1) h (fun v1 => mk [(2, oD (.ptr 2 0)), (3, oD (.ptr 3 0)), (5, oD (.own 2001)), (6, iD v1.2)] [(2, .box [sC (p0.fb.map Ak), sC (p0.ff.map Ak), sC (p0.fh.map Ak), sC (p0.fc.map Ar)]), (3, .box [sC (p1.fd.map Ak), sC (p1.fa.map Ak), sC (p1.fe.map Bn)]), (2001, .vec 3 (v1.1.map Ad))]) (fun v2 => mk [(5, oD (.own 2002))] [(2002, .vec 3 (v2.map Ad))]) (fun _ _ => rfl) ((Bu 5 2013 3 rfl rfl rfl).trans (sm [(2001, 2013)] _ _ rfl rfl)) (fun j1 n1 v1 h => ?_) (fun v2 s h hs => ?_)
 ·unfold CW at h
  refine Ab (Ab (Aa Ac rfl (qm rfl (qf Dc rfl (ql Ia rfl (A1 EG rfl (AX rfl (Ae ?_))))))))
  refine Ap rfl (fun c3 => ?_) (fun c3 => ?_)
  ·have h := Ao c3 h
   refine Aq (Ab (AK (Ab (Aa Ac rfl (qf Dc rfl (ql Ia rfl (qm rfl ?_)))))))
   obtain ⟨v4, a4, b4, h⟩ := Aj h
   refine qi EG EO a4 (Ag b4) rfl (qK Io EO rfl (qz LX rfl (qs EO rfl (Ae (Ab (Aa Ac rfl (qL A7 Az rfl (qf DI rfl (ql Cm rfl ?_)))))))))
   obtain ⟨v5, a5, h⟩ := bind_some h
   refine AJ [] (EE N p1 v4.fi v5 a5) VV rfl (qa rfl (Ae ?_))
   refine AO h (fun v6 => mk [(2, oD (.ptr 2 0)), (3, oD (.ptr 3 0)), (5, oD (.own 2003)), (6, iD v1.2), (7, oD (.ptr 7 0)), (8, pD (.val (.int .u8 v6)))] [(2, .box [sC (p0.fb.map Ak), sC (p0.ff.map Ak), sC (p0.fh.map Ak), sC (p0.fc.map Ar)]), (3, .box [sC (p1.fd.map Ak), sC (p1.fa.map Ak), sC (p1.fe.map Bn)]), (7, .box [iC v4.fg, iC v4.fi, iC v4.fk, .pure (.val (.bool v4.fp)), sC (v4.fq.map (Fn eB)), sC (v4.fm.map (Fn eB))]), (2003, .vec 3 (v1.1.map Ad))]) (fun j6 h => ?_) (fun v6 h => ?_)
   ·refine Ab (Aa Ac rfl (qL Io EO rfl ?_))
    obtain ⟨v7, a7, h⟩ := bind_some h
    refine AJ [] (CG N v4 v7 a7) QW rfl (Ae ?_)
    refine Ap rfl (fun c8 => ?_) (fun c8 => ?_)
    ·have h := Ao c8 h
     refine Aa Ac rfl (qf CU rfl (ql Hb rfl (qm rfl ?_)))
     obtain ⟨v9, a9, b9, h⟩ := Aj h
     refine qi Dr F5 a9 (Ag b9) rfl (qk Ky rfl (qa rfl (Ae ?_)))
     exact Au _ h (sm [(2003, 2001)] _ _ rfl rfl)
    ·have h := An c8 h
     refine Aq ?_
     exact Au _ h (sm [(2003, 2001)] _ _ rfl rfl)
   ·refine Ab (Aa Ac rfl (qa rfl (Ae ?_)))
    refine AE (L := BY N p0 p1 v1 v4 v6) h (fun v10 => mk [(2, oD (.ptr 2 0)), (3, oD (.ptr 3 0)), (5, oD (.own 2004)), (6, iD v1.2), (7, oD (.ptr 7 0)), (8, pD (.val (.int .u8 v6))), (9, iD v10.2)] [(2, .box [sC (p0.fb.map Ak), sC (p0.ff.map Ak), sC (p0.fh.map Ak), sC (p0.fc.map Ar)]), (3, .box [sC (p1.fd.map Ak), sC (p1.fa.map Ak), sC (p1.fe.map Bn)]), (7, .box [iC v4.fg, iC v4.fi, iC v4.fk, .pure (.val (.bool v4.fp)), sC (v4.fq.map (Fn eB)), sC (v4.fm.map (Fn eB))]), (2004, .vec 3 (v10.1.map Ad))]) (fun v11 => mk [(2, oD (.ptr 2 0)), (3, oD (.ptr 3 0)), (5, oD (.own 2005)), (6, iD v1.2)] [(2, .box [sC (p0.fb.map Ak), sC (p0.ff.map Ak), sC (p0.fh.map Ak), sC (p0.fc.map Ar)]), (3, .box [sC (p1.fd.map Ak), sC (p1.fa.map Ak), sC (p1.fe.map Bn)]), (2005, .vec 3 (v11.map Ad))]) (fun _ _ => rfl) (sm [(2004, 2003)] _ _ rfl rfl) (fun j10 n10 v10 h => ?_) (fun v11 s h hs => ?_)
    ·unfold BY at h
     refine Ab (Ab (Aa Ac rfl (qm rfl (qf BO rfl (ql Bo rfl (qf DI rfl (ql Cm rfl ?_)))))))
     obtain ⟨v12, a12, b12, h⟩ := Aj h
     refine qi AL Du a12 (Ag b12) rfl (qk Cm rfl (AX rfl (Ae ?_)))
     refine Ap rfl (fun c13 => ?_) (fun c13 => ?_)
     ·have h := Ao c13 h
      refine Aq ?_
      refine AO h (fun v14 => mk [(2, oD (.ptr 2 0)), (3, oD (.ptr 3 0)), (5, oD (.own 2006)), (6, iD v1.2), (7, oD (.ptr 7 0)), (8, pD (.val (.int .u8 v6))), (9, iD v10.2)] [(2, .box [sC (p0.fb.map Ak), sC (p0.ff.map Ak), sC (p0.fh.map Ak), sC (p0.fc.map Ar)]), (3, .box [sC (p1.fd.map Ak), sC (p1.fa.map Ak), sC (p1.fe.map Bn)]), (7, .box [iC v4.fg, iC v4.fi, iC v4.fk, .pure (.val (.bool v4.fp)), sC (v4.fq.map (Fn eB)), sC (v4.fm.map (Fn eB))]), (2006, .vec 3 (v14.map Ad))]) (fun j14 h => ?_) (fun v14 h => ?_)
      ·refine AK (Ab (Ab (Aa Ac rfl (qm rfl (qm rfl ?_)))))
       obtain ⟨v15, a15, h⟩ := bind_some h
       refine AJ [] (Gz N v6 v10.2 v15 a15) TV rfl (BW rfl (Ae ?_))
       refine Ap rfl (fun c16 => ?_) (fun c16 => ?_)
       ·have h := Ao c16 h
        refine AS ?_
        exact Au _ h (sm [(2006, 2004)] _ _ rfl rfl)
       ·have h := An c16 h
        refine Aq (Ab (Aa Ac rfl (qa rfl (Ae (Ab (Ab (Aa Ac rfl (qa rfl (Ae ?_)))))))))
        refine AE (L := BC N p0 p1 v1 v4 v10) h (fun v17 => mk [(2, oD (.ptr 2 0)), (3, oD (.ptr 3 0)), (5, oD (.own 2007)), (6, iD v1.2), (7, oD (.ptr 7 0)), (8, pD (.val (.int .u8 v6))), (9, iD v10.2), (10, bD v17.2.1), (11, iD v17.2.2)] [(2, .box [sC (p0.fb.map Ak), sC (p0.ff.map Ak), sC (p0.fh.map Ak), sC (p0.fc.map Ar)]), (3, .box [sC (p1.fd.map Ak), sC (p1.fa.map Ak), sC (p1.fe.map Bn)]), (7, .box [iC v4.fg, iC v4.fi, iC v4.fk, .pure (.val (.bool v4.fp)), sC (v4.fq.map (Fn eB)), sC (v4.fm.map (Fn eB))]), (2007, .vec 3 (v17.1.map Ad))]) (fun v18 => mk [(2, oD (.ptr 2 0)), (3, oD (.ptr 3 0)), (5, oD (.own 2008)), (6, iD v1.2), (7, oD (.ptr 7 0)), (8, pD (.val (.int .u8 v6))), (9, iD v10.2), (10, bD v18.2)] [(2, .box [sC (p0.fb.map Ak), sC (p0.ff.map Ak), sC (p0.fh.map Ak), sC (p0.fc.map Ar)]), (3, .box [sC (p1.fd.map Ak), sC (p1.fa.map Ak), sC (p1.fe.map Bn)]), (7, .box [iC v4.fg, iC v4.fi, iC v4.fk, .pure (.val (.bool v4.fp)), sC (v4.fq.map (Fn eB)), sC (v4.fm.map (Fn eB))]), (2008, .vec 3 (v18.1.map Ad))]) (fun _ _ => rfl) (sm [(2007, 2004)] _ _ rfl rfl) (fun j17 n17 v17 h => ?_) (fun v18 s h hs => ?_)
        ·unfold BC at h
         refine Ab (Ab (Aa Ac rfl (qm rfl (qf BO rfl (ql Bo rfl (qf IV rfl (ql Cm rfl ?_)))))))
         obtain ⟨v19, a19, b19, h⟩ := Aj h
         refine qi AL Du a19 (Ag b19) rfl (qk Cm rfl (AX rfl (Ae ?_)))
         refine Ap rfl (fun c20 => ?_) (fun c20 => ?_)
         ·have h := Ao c20 h
          refine Aq ?_
          refine AO h (fun v21 => mk [(2, oD (.ptr 2 0)), (3, oD (.ptr 3 0)), (5, oD (.own 2009)), (6, iD v1.2), (7, oD (.ptr 7 0)), (8, pD (.val (.int .u8 v6))), (9, iD v10.2), (10, bD v21.2), (11, iD v17.2.2)] [(2, .box [sC (p0.fb.map Ak), sC (p0.ff.map Ak), sC (p0.fh.map Ak), sC (p0.fc.map Ar)]), (3, .box [sC (p1.fd.map Ak), sC (p1.fa.map Ak), sC (p1.fe.map Bn)]), (7, .box [iC v4.fg, iC v4.fi, iC v4.fk, .pure (.val (.bool v4.fp)), sC (v4.fq.map (Fn eB)), sC (v4.fm.map (Fn eB))]), (2009, .vec 3 (v21.1.map Ad))]) (fun j21 h => ?_) (fun v21 h => ?_)
          ·refine AK (Ab (Ab (Aa Ac rfl (qL A7 Az rfl (qf IV rfl (ql Cm rfl ?_))))))
           obtain ⟨v22, a22, h⟩ := bind_some h
           refine AJ [] (EE N p1 v4.fk v22 a22) VV rfl (qm rfl ?_)
           obtain ⟨v23, a23, h⟩ := bind_some h
           refine AJ [] (Gz N v22 v17.2.2 v23 a23) TV rfl (BW rfl (Ae ?_))
           refine Ap rfl (fun c24 => ?_) (fun c24 => ?_)
           ·have h := Ao c24 h
            refine AS ?_
            exact Au _ h (sm [(2009, 2007)] _ _ rfl rfl)
           ·have h := An c24 h
            refine Aq ?_
            refine AO h (fun v25 => mk [(2, oD (.ptr 2 0)), (3, oD (.ptr 3 0)), (5, oD (.own 2010)), (6, iD v1.2), (7, oD (.ptr 7 0)), (8, pD (.val (.int .u8 v6))), (9, iD v10.2), (10, bD v25), (11, iD v17.2.2)] [(2, .box [sC (p0.fb.map Ak), sC (p0.ff.map Ak), sC (p0.fh.map Ak), sC (p0.fc.map Ar)]), (3, .box [sC (p1.fd.map Ak), sC (p1.fa.map Ak), sC (p1.fe.map Bn)]), (7, .box [iC v4.fg, iC v4.fi, iC v4.fk, .pure (.val (.bool v4.fp)), sC (v4.fq.map (Fn eB)), sC (v4.fm.map (Fn eB))]), (2010, .vec 3 (v17.1.map Ad))]) (fun j25 h => ?_) (fun v25 h => ?_)
            ·refine Aa Ac rfl (qm rfl (qm rfl ?_))
             refine AF (t := 67) rfl (fun c26 => ?_) (fun c26 => ?_)
             ·have h := Ao c26 h
              refine qn rfl (qn rfl (qn rfl (qn rfl (qn rfl (qn rfl (qn rfl (qn rfl (qp rfl (qa rfl (Ae ?_))))))))))
              exact Au _ h (sm [(2010, 2007)] _ _ rfl rfl)
             ·have h := An c26 h
              refine qf Kx rfl (ql KL rfl (qm rfl ?_))
              obtain ⟨v27, a27, b27, h⟩ := Aj h
              refine qi G6 NO a27 (Ag b27) rfl (qk QM rfl (qm rfl ?_))
              obtain ⟨v28, a28, b28, h⟩ := Aj h
              refine qi Hp Sm a28 (Ag b28) rfl (qk TI rfl (qp rfl (qa rfl (Ae ?_))))
              exact Au _ h (sm [(2010, 2007)] _ _ rfl rfl)
            ·refine AO h (fun v29 => mk [(2, oD (.ptr 2 0)), (3, oD (.ptr 3 0)), (5, oD (.own 2011)), (6, iD v1.2), (7, oD (.ptr 7 0)), (8, pD (.val (.int .u8 v6))), (9, iD v10.2), (10, bD v25), (11, iD v17.2.2), (90, bD v29)] [(2, .box [sC (p0.fb.map Ak), sC (p0.ff.map Ak), sC (p0.fh.map Ak), sC (p0.fc.map Ar)]), (3, .box [sC (p1.fd.map Ak), sC (p1.fa.map Ak), sC (p1.fe.map Bn)]), (7, .box [iC v4.fg, iC v4.fi, iC v4.fk, .pure (.val (.bool v4.fp)), sC (v4.fq.map (Fn eB)), sC (v4.fm.map (Fn eB))]), (2011, .vec 3 (v17.1.map Ad))]) (fun j29 h => ?_) (fun v29 h => ?_)
             ·refine Aa Ac rfl (qf JJ rfl (ql TI rfl (BW rfl (qm rfl ?_))))
              refine AF (t := 80) rfl (fun c30 => ?_) (fun c30 => ?_)
              ·have h := Ao c30 h
               refine qf Kx rfl (ql KL rfl (qm rfl ?_))
               obtain ⟨v31, a31, b31, h⟩ := Aj h
               refine qi G6 NO a31 (Ag b31) rfl (qk QM rfl (qm rfl ?_))
               obtain ⟨v32, a32, b32, h⟩ := Aj h
               refine qi Hp Sm a32 (Ag b32) rfl (qk TI rfl (BW rfl (qp rfl (Ae ?_))))
               exact Au _ h (sm [(2011, 2010)] _ _ rfl rfl)
              ·have h := An c30 h
               refine qn rfl (qn rfl (qn rfl (qn rfl (qn rfl (qn rfl (qn rfl (qn rfl (qn rfl (qp rfl (Ae ?_))))))))))
               exact Au _ h (sm [(2011, 2010)] _ _ rfl rfl)
             ·refine Ap rfl (fun c33 => ?_) (fun c33 => ?_)
              ·have h := Ao c33 h
               refine Aa Ac rfl (qm rfl (qm rfl (qm rfl (qm rfl (Bz Jk SN rfl (DY Ba A2 Jk rfl ?_))))))
               obtain ⟨c34, h⟩ := AU h
               refine DO (f := Ad) Ba Ba A2 R2 Jk c34 rfl (qa rfl (Ae ?_))
               exact Au _ h (sm [(2009, 97)] _ _ rfl rfl)
              ·have h := An c33 h
               refine Aq ?_
               exact Au _ h (sm [(2009, 2011)] _ _ rfl rfl)
          ·refine Aa Ac rfl (qm rfl (AR rfl (qa rfl (Ae ?_))))
           exact Au _ h (sm [(2007, 2009)] _ _ rfl rfl)
         ·have h := An c20 h
          refine AS ?_
          exact Au _ h (sm [(2008, 2007)] _ _ rfl rfl)
        ·refine Am hs ?_
         refine AO h (fun v35 => mk [(2, oD (.ptr 2 0)), (3, oD (.ptr 3 0)), (5, oD (.own 2012)), (6, iD v1.2), (7, oD (.ptr 7 0)), (8, pD (.val (.int .u8 v6))), (9, iD v10.2), (103, bD v35)] [(2, .box [sC (p0.fb.map Ak), sC (p0.ff.map Ak), sC (p0.fh.map Ak), sC (p0.fc.map Ar)]), (3, .box [sC (p1.fd.map Ak), sC (p1.fa.map Ak), sC (p1.fe.map Bn)]), (7, .box [iC v4.fg, iC v4.fi, iC v4.fk, .pure (.val (.bool v4.fp)), sC (v4.fq.map (Fn eB)), sC (v4.fm.map (Fn eB))]), (2012, .vec 3 (v18.1.map Ad))]) (fun j35 h => ?_) (fun v35 h => ?_)
         ·refine Aa Ac rfl (qf JJ rfl (ql TI rfl (qm rfl ?_)))
          refine AF (t := 100) rfl (fun c36 => ?_) (fun c36 => ?_)
          ·have h := Ao c36 h
           refine qm rfl (BW rfl (qp rfl (Ae ?_)))
           exact Au _ h (sm [(2012, 2008)] _ _ rfl rfl)
          ·have h := An c36 h
           refine qn rfl (qn rfl (qp rfl (Ae ?_)))
           exact Au _ h (sm [(2012, 2008)] _ _ rfl rfl)
         ·refine Ap rfl (fun c37 => ?_) (fun c37 => ?_)
          ·have h := Ao c37 h
           refine Aa Ac rfl (qm rfl (qm rfl (qm rfl (Bz Jk SN rfl (DY Ba A2 Jk rfl ?_)))))
           obtain ⟨c38, h⟩ := AU h
           refine DO (f := Ad) Ba Ba A2 R2 Jk c38 rfl (qa rfl (Ae ?_))
           exact Au _ h (sm [(2006, 109)] _ _ rfl rfl)
          ·have h := An c37 h
           refine Aq ?_
           exact Au _ h (sm [(2006, 2012)] _ _ rfl rfl)
      ·refine Aa Ac rfl (qm rfl (AR rfl (qa rfl (Ae ?_))))
       exact Au _ h (sm [(2004, 2006)] _ _ rfl rfl)
     ·have h := An c13 h
      refine AS ?_
      exact Au _ h (sm [(2005, 2004)] _ _ rfl rfl)
    ·refine Am hs (Aa Ac rfl (qm rfl (AR rfl (qa rfl (Ae ?_)))))
     exact Au _ h (sm [(2001, 2005)] _ _ rfl rfl)
  ·have h := An c3 h
   refine AS ?_
   exact Au _ h (sm [(2002, 2001)] _ _ rfl rfl)
 ·refine Am hs (Ab (Aa Ac rfl (qm rfl (qa rfl (Ae ?_)))))
  obtain rfl := sj h
  refine Am (sm [(1000, 2002)] [(4, oD (.own 1000))] [(1000, .vec 3 (v2.map Ad))] rfl rfl) (AA ?_)
  exact ⟨⟨[_], ⟨.tmp _ _ rfl, tv⟩, rfl⟩, ⟨rfl, tv⟩⟩
theorem KZ (N : Nat) (p0 : Ah) (p1 : Af) (r : Bool) (h : ED N p0 p1 = some r) : AD Tryz.prog 112 [.e (.agg [sC (p0.fb.map Ak), sC (p0.ff.map Ak), sC (p0.fh.map Ak), sC (p0.fc.map Ar)]), .e (.agg [sC (p1.fd.map Ak), sC (p1.fa.map Ak), sC (p1.fe.map Bn)])] [] (bD r) := by
 unfold ED at h
 refine Av (n := 10) (rs := [.tmp 4]) Tryz.func112 rfl rfl rfl (A6 rfl) (A6 rfl) rfl fun w0 S0 => ?_
 refine Ab (Aa Ac rfl (qb rfl (qb rfl (qa rfl (Ae (Ab (Aa Ac rfl (qL DL Di rfl (qL A7 Az rfl ?_)))))))))
 obtain ⟨v1, a1, h⟩ := bind_some h
 refine AJ [2001] (Lu N p0 p1 v1 a1) Zc rfl (EN Ba rfl (BK rfl (qa rfl (Ae ?_))))
 obtain rfl := sj h
 refine Am (sm [] [(4, bD (((v1.length : Int) == 0)))] [] rfl rfl) (AA ?_)
 exact ⟨⟨[_], ⟨.tmp _ _ rfl, tv⟩, rfl⟩, tv⟩
theorem H6 (N : Nat) (p0 : Ah) (p1 : Af) (r : Bool) (h : Dt N p0 p1 = some r) : AD Tryz.prog 71 [.e (.agg [sC (p0.fb.map Ak), sC (p0.ff.map Ak), sC (p0.fh.map Ak), sC (p0.fc.map Ar)]), .e (.agg [sC (p1.fd.map Ak), sC (p1.fa.map Ak), sC (p1.fe.map Bn)])] [] (bD r) := by
 unfold Dt at h
 refine Av (n := 22) (rs := [.tmp 4]) Tryz.func71 rfl rfl rfl (A6 rfl) (A6 rfl) rfl fun w0 S0 => ?_
 refine Ab (Aa Ac rfl (qb rfl (qb rfl (qa rfl (Ae (Ab (Aa Ac rfl (qL A7 Az rfl ?_))))))))
 obtain ⟨v1, a1, h⟩ := bind_some h
 refine AJ [2001] (MI N p1 v1 a1) aE rfl (qa rfl (Ae (Ab (Ab (Aa Ac rfl (qa rfl (Ae ?_)))))))
 refine AE (L := Cn N p0 v1) h (fun v2 => mk [(2, oD (.ptr 2 0)), (5, oD (.own 2002)), (6, iD v2)] [(2, .box [sC (p0.fb.map Ak), sC (p0.ff.map Ak), sC (p0.fh.map Ak), sC (p0.fc.map Ar)]), (2002, .vec 3 (v1.map Ai))]) (fun v3 => mk [] []) (fun _ _ => rfl) (sm [(2002, 2001)] _ _ rfl rfl) (fun j2 n2 v2 h => ?_) (fun v3 s h hs => ?_)
 ·unfold Cn at h
  refine Ab (Ab (Aa Ac rfl (qm rfl (qm rfl (EN AV rfl (AX rfl (Ae ?_)))))))
  refine Ap rfl (fun c4 => ?_) (fun c4 => ?_)
  ·have h := Ao c4 h
   refine Aq (Ab (AK (Ab (Aa Ac rfl (qL DL Di rfl (qm rfl (qm rfl ?_)))))))
   obtain ⟨v5, a5, b5, h⟩ := Aj h
   refine qI AV Az a5 (Ag b5) rfl (qJ A7 Az (Ag b5) rfl ?_)
   obtain ⟨v6, a6, h⟩ := bind_some h
   refine AJ [] (KZ N p0 v5 v6 a6) ZY rfl (BW rfl (AB (by kernel_rfl) ?_))
   refine Ap rfl (fun c7 => ?_) (fun c7 => ?_)
   ·have h := Ao c7 h
    refine Ab (Aa Ac rfl (qa rfl (Ae ?_)))
    obtain rfl := sj h
    refine Am (sm [] [(4, bD false)] [] rfl rfl) (AA ?_)
    exact ⟨⟨[_], ⟨.tmp _ _ rfl, tv⟩, rfl⟩, tv⟩
   ·have h := An c7 h
    refine Aq (Aa Ac rfl (qm rfl (AR rfl (qa rfl (Ae ?_)))))
    exact Au _ h (sm [] _ _ rfl rfl)
  ·have h := An c4 h
   refine AS ?_
   exact Au _ h (sm [] _ _ rfl rfl)
 ·refine Am hs (Ab (Aa Ac rfl (qa rfl (Ae ?_))))
  obtain rfl := sj h
  refine Am (sm [] [(4, bD true)] [] rfl rfl) (AA ?_)
  exact ⟨⟨[_], ⟨.tmp _ _ rfl, tv⟩, rfl⟩, tv⟩
theorem IK (N : Nat) (p0 : Ah) (p1 : Af) (r : Int) (h : D5 N p0 p1 = some r) : AD Tryz.prog 82 [.e (.agg [sC (p0.fb.map Ak), sC (p0.ff.map Ak), sC (p0.fh.map Ak), sC (p0.fc.map Ar)]), .e (.agg [sC (p1.fd.map Ak), sC (p1.fa.map Ak), sC (p1.fe.map Bn)])] [] (iD r) := by
 unfold D5 at h
 refine Av (n := 154) (rs := [.tmp 4]) Tryz.func82 rfl rfl rfl (A6 rfl) (A6 rfl) rfl fun w0 S0 => ?_
 refine Ab (Aa Ac rfl (qb rfl (qb rfl (qa rfl (Ae (Ab (Ab (Aa Ac rfl (qL DL Di rfl ?_)))))))))
 obtain ⟨v1, a1, h⟩ := bind_some h
 refine AJ [] (GF N p0 v1 a1) aj rfl (qa rfl (Ae (Ab (Aa Ac rfl (qm rfl (Cp rfl (Ae ?_)))))))
 refine Ap rfl (fun c2 => ?_) (fun c2 => ?_)
 ·have h := Ao c2 h
  refine Ab (Aa Ac rfl (qm rfl (qa rfl (Ae ?_))))
  obtain rfl := sj h
  refine Am (sm [] [(4, iD v1)] [] rfl rfl) (AA ?_)
  exact ⟨⟨[_], ⟨.tmp _ _ rfl, tv⟩, rfl⟩, tv⟩
 ·have h := An c2 h
  refine Aq (Ab (Aa Ac rfl (qf BO rfl (ql Bo rfl (A1 AL rfl (qa rfl (Ae (Ab ?_))))))))
  refine AO h (fun v3 => mk [(2, oD (.ptr 2 0)), (3, oD (.ptr 3 0)), (6, iD ((p0.fb.length : Int))), (39, bD v3)] [(2, .box [sC (p0.fb.map Ak), sC (p0.ff.map Ak), sC (p0.fh.map Ak), sC (p0.fc.map Ar)]), (3, .box [sC (p1.fd.map Ak), sC (p1.fa.map Ak), sC (p1.fe.map Bn)])]) (fun j3 h => ?_) (fun v3 h => ?_)
  ·refine Aa Ac rfl (qf CO rfl (ql Bo rfl (A1 AL rfl (qm rfl (Cp rfl (qm rfl ?_))))))
   refine AF (t := 24) rfl (fun c4 => ?_) (fun c4 => ?_)
   ·have h := Ao c4 h
    refine qn rfl (qn rfl (qn rfl (qn rfl (qn rfl (qp rfl (qm rfl (qn rfl (qn rfl (qn rfl (qn rfl (qn rfl (qn rfl (qn rfl (qp rfl (Ae ?_)))))))))))))))
    exact Au _ h (sm [] _ _ rfl rfl)
   ·have h := An c4 h
    refine qf BH rfl (ql Bo rfl (A1 AL rfl (qm rfl (Cp rfl (qp rfl (qm rfl ?_))))))
    refine AF (t := 31) rfl (fun c5 => ?_) (fun c5 => ?_)
    ·have h := Ao c5 h
     refine qn rfl (qn rfl (qn rfl (qn rfl (qn rfl (qn rfl (qn rfl (qp rfl (Ae ?_))))))))
     exact Au _ h (sm [] _ _ rfl rfl)
    ·have h := An c5 h
     refine qf CU rfl (ql Hb rfl (A1 Dr rfl (qf Dc rfl (ql Ia rfl (A1 EG rfl (Cp rfl (qp rfl (Ae ?_))))))))
     exact Au _ h (sm [] _ _ rfl rfl)
  ·refine Ap rfl (fun c6 => ?_) (fun c6 => ?_)
   ·have h := Ao c6 h
    refine Ab (Aa Ac rfl (qa rfl (Ae ?_)))
    obtain rfl := sj h
    refine Am (sm [] [(4, iD 6)] [] rfl rfl) (AA ?_)
    exact ⟨⟨[_], ⟨.tmp _ _ rfl, tv⟩, rfl⟩, tv⟩
   ·have h := An c6 h
    refine Aq (Ab (Ab (Aa Ac rfl (qa rfl (Ae ?_)))))
    refine AE (L := Cu N p0 p1) h (fun v7 => mk [(2, oD (.ptr 2 0)), (3, oD (.ptr 3 0)), (6, iD ((p0.fb.length : Int))), (7, iD v7)] [(2, .box [sC (p0.fb.map Ak), sC (p0.ff.map Ak), sC (p0.fh.map Ak), sC (p0.fc.map Ar)]), (3, .box [sC (p1.fd.map Ak), sC (p1.fa.map Ak), sC (p1.fe.map Bn)])]) (fun v8 => mk [(2, oD (.ptr 2 0)), (3, oD (.ptr 3 0))] [(2, .box [sC (p0.fb.map Ak), sC (p0.ff.map Ak), sC (p0.fh.map Ak), sC (p0.fc.map Ar)]), (3, .box [sC (p1.fd.map Ak), sC (p1.fa.map Ak), sC (p1.fe.map Bn)])]) (fun _ _ => rfl) (sm [] _ _ rfl rfl) (fun j7 n7 v7 h => ?_) (fun v8 s h hs => ?_)
    ·unfold Cu at h
     refine Ab (Ab (Aa Ac rfl (qm rfl (qm rfl (AX rfl (Ae ?_))))))
     refine Ap rfl (fun c9 => ?_) (fun c9 => ?_)
     ·have h := Ao c9 h
      refine Aq (Ab (AK (Ab ?_)))
      refine AO h (fun v10 => mk [(2, oD (.ptr 2 0)), (3, oD (.ptr 3 0)), (6, iD ((p0.fb.length : Int))), (7, iD v7), (84, bD v10)] [(2, .box [sC (p0.fb.map Ak), sC (p0.ff.map Ak), sC (p0.fh.map Ak), sC (p0.fc.map Ar)]), (3, .box [sC (p1.fd.map Ak), sC (p1.fa.map Ak), sC (p1.fe.map Bn)])]) (fun j10 h => ?_) (fun v10 h => ?_)
      ·refine Aa Ac rfl (qf CO rfl (ql Bo rfl (qm rfl ?_)))
       obtain ⟨v11, a11, b11, h⟩ := Aj h
       refine qi AL Du a11 (Ag b11) rfl (qk Cm rfl (AX rfl (qm rfl ?_)))
       refine AF (t := 51) rfl (fun c12 => ?_) (fun c12 => ?_)
       ·have h := Ao c12 h
        refine qn rfl (qn rfl (qn rfl (qn rfl (qn rfl (qn rfl (qn rfl (qn rfl (qn rfl (qn rfl (qn rfl (qp rfl (qm rfl (qn rfl (qn rfl (qn rfl (qn rfl (qn rfl (qn rfl (qp rfl (qm rfl (qn rfl (qn rfl (qn rfl (qn rfl (qn rfl (qn rfl (qn rfl (qn rfl (qn rfl (qn rfl (qn rfl (qp rfl (AB (by kernel_rfl) ?_)))))))))))))))))))))))))))))))))
        exact Au _ h (sm [] _ _ rfl rfl)
       ·have h := An c12 h
        refine qf CO rfl (ql Bo rfl (qm rfl ?_))
        obtain ⟨v13, a13, b13, h⟩ := Aj h
        refine qi AL Du a13 (Ag b13) rfl (qk Cm rfl (qf BO rfl (ql Bo rfl (qm rfl ?_))))
        obtain ⟨v14, a14, b14, h⟩ := Aj h
        refine qi AL Du a14 (Ag b14) rfl (qk Cm rfl (Cz rfl (qp rfl (qm rfl ?_))))
        refine AF (t := 64) rfl (fun c15 => ?_) (fun c15 => ?_)
        ·have h := Ao c15 h
         refine qn rfl (qn rfl (qn rfl (qn rfl (qn rfl (qn rfl (qp rfl (qm rfl (qn rfl (qn rfl (qn rfl (qn rfl (qn rfl (qn rfl (qn rfl (qn rfl (qn rfl (qn rfl (qn rfl (qp rfl (AB (by kernel_rfl) ?_))))))))))))))))))))
         exact Au _ h (sm [] _ _ rfl rfl)
        ·have h := An c15 h
         refine qf BH rfl (ql Bo rfl (qm rfl ?_))
         obtain ⟨v16, a16, b16, h⟩ := Aj h
         refine qi AL Du a16 (Ag b16) rfl (qk Cm rfl (AX rfl (qp rfl (qm rfl ?_))))
         refine AF (t := 72) rfl (fun c17 => ?_) (fun c17 => ?_)
         ·have h := Ao c17 h
          refine qn rfl (qn rfl (qn rfl (qn rfl (qn rfl (qn rfl (qn rfl (qn rfl (qn rfl (qn rfl (qn rfl (qp rfl (AB (by kernel_rfl) ?_))))))))))))
          exact Au _ h (sm [] _ _ rfl rfl)
         ·have h := An c17 h
          refine qf BH rfl (ql Bo rfl (qm rfl ?_))
          obtain ⟨v18, a18, b18, h⟩ := Aj h
          refine qi AL Du a18 (Ag b18) rfl (qk Cm rfl (qf BO rfl (ql Bo rfl (qm rfl ?_))))
          obtain ⟨v19, a19, b19, h⟩ := Aj h
          refine qi AL Du a19 (Ag b19) rfl (qk Cm rfl (Cz rfl (qp rfl (AB (by kernel_rfl) ?_))))
          exact Au _ h (sm [] _ _ rfl rfl)
      ·refine Ap rfl (fun c20 => ?_) (fun c20 => ?_)
       ·have h := Ao c20 h
        refine Ab (Aa Ac rfl (qa rfl (Ae ?_)))
        obtain rfl := sj h
        refine Am (sm [] [(4, iD 7)] [] rfl rfl) (AA ?_)
        exact ⟨⟨[_], ⟨.tmp _ _ rfl, tv⟩, rfl⟩, tv⟩
       ·have h := An c20 h
        refine Aq (Ab (Aa Ac rfl (qf CO rfl (ql Bo rfl (qm rfl ?_)))))
        obtain ⟨v21, a21, b21, h⟩ := Aj h
        refine qi AL Du a21 (Ag b21) rfl (qk Cm rfl (qf BH rfl (ql Bo rfl (qm rfl ?_))))
        obtain ⟨v22, a22, b22, h⟩ := Aj h
        refine qi AL Du a22 (Ag b22) rfl (qk Cm rfl (BK rfl (AB (by kernel_rfl) ?_)))
        refine Ap rfl (fun c23 => ?_) (fun c23 => ?_)
        ·have h := Ao c23 h
         refine Ab (Aa Ac rfl (qa rfl (Ae ?_)))
         obtain rfl := sj h
         refine Am (sm [] [(4, iD 1)] [] rfl rfl) (AA ?_)
         exact ⟨⟨[_], ⟨.tmp _ _ rfl, tv⟩, rfl⟩, tv⟩
        ·have h := An c23 h
         refine Aq (Aa Ac rfl (qm rfl (AR rfl (qa rfl (Ae ?_)))))
         exact Au _ h (sm [] _ _ rfl rfl)
     ·have h := An c9 h
      refine AS ?_
      exact Au _ h (sm [] _ _ rfl rfl)
    ·refine Am hs (Ab (Ab (Aa Ac rfl (qa rfl (Ae ?_)))))
     refine AE (L := Ch N p0 p1) h (fun v24 => mk [(2, oD (.ptr 2 0)), (3, oD (.ptr 3 0)), (8, iD v24)] [(2, .box [sC (p0.fb.map Ak), sC (p0.ff.map Ak), sC (p0.fh.map Ak), sC (p0.fc.map Ar)]), (3, .box [sC (p1.fd.map Ak), sC (p1.fa.map Ak), sC (p1.fe.map Bn)])]) (fun v25 => mk [] []) (fun _ _ => rfl) (sm [] _ _ rfl rfl) (fun j24 n24 v24 h => ?_) (fun v25 s h hs => ?_)
     ·unfold Ch at h
      refine Ab (Ab (Aa Ac rfl (qm rfl (qf Dc rfl (ql Ia rfl (A1 EG rfl (AX rfl (Ae ?_))))))))
      refine Ap rfl (fun c26 => ?_) (fun c26 => ?_)
      ·have h := Ao c26 h
       refine Aq (Ab (AK (Ab (Aa Ac rfl (qf Dc rfl (ql Ia rfl (qm rfl ?_)))))))
       obtain ⟨v27, a27, b27, h⟩ := Aj h
       refine qi EG EO a27 (Ag b27) rfl (qK Io EO rfl (qz LX rfl (qs EO rfl (Ae (Ab (Aa Ac rfl (qf BO rfl (ql Bo rfl (qf DI rfl (ql Cm rfl ?_))))))))))
       obtain ⟨v28, a28, b28, h⟩ := Aj h
       refine qi AL Du a28 (Ag b28) rfl (qk Cm rfl ?_)
       obtain ⟨c29, h⟩ := AU h
       refine IC rfl c29 (Bm rfl (qa rfl (Ae ?_)))
       refine AO h (fun v30 => mk [(2, oD (.ptr 2 0)), (3, oD (.ptr 3 0)), (8, iD v24), (153, bD v30)] [(2, .box [sC (p0.fb.map Ak), sC (p0.ff.map Ak), sC (p0.fh.map Ak), sC (p0.fc.map Ar)]), (3, .box [sC (p1.fd.map Ak), sC (p1.fa.map Ak), sC (p1.fe.map Bn)])]) (fun j30 h => ?_) (fun v30 h => ?_)
       ·refine Aa Ac rfl (qL Io EO rfl ?_)
        obtain ⟨v31, a31, h⟩ := bind_some h
        refine AJ [] (CG N v27 v31 a31) QW rfl (BW rfl (qm rfl ?_))
        refine AF (t := 119) rfl (fun c32 => ?_) (fun c32 => ?_)
        ·have h := Ao c32 h
         refine qf CU rfl (ql Hb rfl (qm rfl ?_))
         obtain ⟨v33, a33, b33, h⟩ := Aj h
         refine qi Dr F5 a33 (Ag b33) rfl (qk Ky rfl (Cp rfl (qp rfl (qm rfl ?_))))
         refine AF (t := 127) rfl (fun c34 => ?_) (fun c34 => ?_)
         ·have h := Ao c34 h
          refine qn rfl (qn rfl (qn rfl (qu rfl (qu rfl (qu rfl (qu rfl (qu rfl (qu rfl (qu rfl (qu rfl (qu rfl (qu rfl (qu rfl (qu rfl (qu rfl (qu rfl (qu rfl (qu rfl (qu rfl (qu rfl (qu rfl (qu rfl (qu rfl (qn rfl (qp rfl (AB (by kernel_rfl) ?_))))))))))))))))))))))))))
          exact Au _ h (sm [] _ _ rfl rfl)
         ·have h := An c34 h
          refine qL Io EO rfl ?_
          obtain ⟨v35, a35, h⟩ := bind_some h
          refine AJ [] (CG N v27 v35 a35) QW rfl (qm rfl ?_)
          refine AF (t := 130) rfl (fun c36 => ?_) (fun c36 => ?_)
          ·have h := Ao c36 h
           refine qf CU rfl (ql Hb rfl (qm rfl ?_))
           obtain ⟨v37, a37, b37, h⟩ := Aj h
           refine qi Dr F5 a37 (Ag b37) rfl (qk Ky rfl (qm rfl (Jp rfl (Cp rfl (qm rfl ?_)))))
           refine AF (t := 139) rfl (fun c38 => ?_) (fun c38 => ?_)
           ·have h := Ao c38 h
            refine qn rfl (qn rfl (qn rfl (qn rfl (qn rfl (qn rfl (qn rfl (qn rfl (qn rfl (qn rfl (qn rfl (qp rfl (qp rfl (qp rfl (AB (by kernel_rfl) ?_))))))))))))))
            exact Au _ h (sm [] _ _ rfl rfl)
           ·have h := An c38 h
            refine qL A7 Az rfl (qf DI rfl (ql Cm rfl ?_))
            obtain ⟨v39, a39, h⟩ := bind_some h
            refine AJ [] (EE N p1 v27.fi v39 a39) VV rfl (qf CU rfl (ql Hb rfl (qm rfl ?_)))
            obtain ⟨v40, a40, b40, h⟩ := Aj h
            refine qi Dr F5 a40 (Ag b40) rfl (qk Ky rfl (Jp rfl (Cp rfl (qp rfl (qp rfl (qp rfl (AB (by kernel_rfl) ?_)))))))
            exact Au _ h (sm [] _ _ rfl rfl)
          ·have h := An c36 h
           refine qn rfl (qn rfl (qn rfl (qn rfl (qn rfl (qn rfl (qn rfl (qn rfl (qn rfl (qu rfl (qu rfl (qu rfl (qu rfl (qu rfl (qu rfl (qu rfl (qu rfl (qu rfl (qu rfl (qu rfl (qn rfl (qp rfl (qp rfl (AB (by kernel_rfl) ?_)))))))))))))))))))))))
           exact Au _ h (sm [] _ _ rfl rfl)
        ·have h := An c32 h
         refine qn rfl (qn rfl (qn rfl (qn rfl (qn rfl (qn rfl (qp rfl (qm rfl (qL Io EO rfl ?_))))))))
         obtain ⟨v41, a41, h⟩ := bind_some h
         refine AJ [] (CG N v27 v41 a41) QW rfl (qm rfl ?_)
         refine AF (t := 130) rfl (fun c42 => ?_) (fun c42 => ?_)
         ·have h := Ao c42 h
          refine qf CU rfl (ql Hb rfl (qm rfl ?_))
          obtain ⟨v43, a43, b43, h⟩ := Aj h
          refine qi Dr F5 a43 (Ag b43) rfl (qk Ky rfl (qm rfl (Jp rfl (Cp rfl (qm rfl ?_)))))
          refine AF (t := 139) rfl (fun c44 => ?_) (fun c44 => ?_)
          ·have h := Ao c44 h
           refine qn rfl (qn rfl (qn rfl (qn rfl (qn rfl (qn rfl (qn rfl (qn rfl (qn rfl (qn rfl (qn rfl (qp rfl (qp rfl (qp rfl (AB (by kernel_rfl) ?_))))))))))))))
           exact Au _ h (sm [] _ _ rfl rfl)
          ·have h := An c44 h
           refine qL A7 Az rfl (qf DI rfl (ql Cm rfl ?_))
           obtain ⟨v45, a45, h⟩ := bind_some h
           refine AJ [] (EE N p1 v27.fi v45 a45) VV rfl (qf CU rfl (ql Hb rfl (qm rfl ?_)))
           obtain ⟨v46, a46, b46, h⟩ := Aj h
           refine qi Dr F5 a46 (Ag b46) rfl (qk Ky rfl (Jp rfl (Cp rfl (qp rfl (qp rfl (qp rfl (AB (by kernel_rfl) ?_)))))))
           exact Au _ h (sm [] _ _ rfl rfl)
         ·have h := An c42 h
          refine qn rfl (qn rfl (qn rfl (qn rfl (qn rfl (qn rfl (qn rfl (qn rfl (qn rfl (qu rfl (qu rfl (qu rfl (qu rfl (qu rfl (qu rfl (qu rfl (qu rfl (qu rfl (qu rfl (qu rfl (qn rfl (qp rfl (qp rfl (AB (by kernel_rfl) ?_)))))))))))))))))))))))
          exact Au _ h (sm [] _ _ rfl rfl)
       ·refine Ap rfl (fun c47 => ?_) (fun c47 => ?_)
        ·have h := Ao c47 h
         refine Ab (Aa Ac rfl (qa rfl (Ae ?_)))
         obtain rfl := sj h
         refine Am (sm [] [(4, iD 1)] [] rfl rfl) (AA ?_)
         exact ⟨⟨[_], ⟨.tmp _ _ rfl, tv⟩, rfl⟩, tv⟩
        ·have h := An c47 h
         refine Aq (Aa Ac rfl (qm rfl (AR rfl (qa rfl (Ae ?_)))))
         exact Au _ h (sm [] _ _ rfl rfl)
      ·have h := An c26 h
       refine AS ?_
       exact Au _ h (sm [] _ _ rfl rfl)
     ·refine Am hs (Ab (Aa Ac rfl (qa rfl (Ae ?_))))
      obtain rfl := sj h
      refine Am (sm [] [(4, iD 0)] [] rfl rfl) (AA ?_)
      exact ⟨⟨[_], ⟨.tmp _ _ rfl, tv⟩, rfl⟩, tv⟩
theorem Lx (N : Nat) (p0 : As) (r : Bool) (h : ES N p0 = some r) : AD Tryz.prog 143 [.e (.agg [iC p0.fg, iC p0.fj, iC p0.fo])] [] (bD r) := by
 unfold ES at h
 refine Av (n := 31) (rs := [.tmp 2]) Tryz.func143 rfl rfl rfl (A6 rfl) (A6 rfl) rfl fun w0 S0 => ?_
 refine Ab (Aa Ac rfl (qb rfl (qa rfl (Ae ?_))))
 refine AO h (fun v1 => mk [(2, bD v1)] []) (fun j1 h => ?_) (fun v1 h => ?_)
 ·refine Aa Ac rfl (qf Ge rfl (ql Cm rfl (Cz rfl (qm rfl ?_))))
  refine AF (t := 6) rfl (fun c2 => ?_) (fun c2 => ?_)
  ·have h := Ao c2 h
   refine qf Ge rfl (ql Cm rfl (Ig rfl (qp rfl (qm rfl ?_))))
   refine AF (t := 11) rfl (fun c3 => ?_) (fun c3 => ?_)
   ·have h := Ao c3 h
    refine qf Fq rfl (ql Cm rfl (Cz rfl (qp rfl (qm rfl ?_))))
    refine AF (t := 16) rfl (fun c4 => ?_) (fun c4 => ?_)
    ·have h := Ao c4 h
     refine qf Hs rfl (ql Cm rfl (Cz rfl (qp rfl (qm rfl ?_))))
     refine AF (t := 21) rfl (fun c5 => ?_) (fun c5 => ?_)
     ·have h := Ao c5 h
      refine qf Ge rfl (ql Cm rfl (BK rfl (qm rfl ?_)))
      refine AF (t := 25) rfl (fun c6 => ?_) (fun c6 => ?_)
      ·have h := Ao c6 h
       refine qn rfl (qn rfl (qn rfl (qp rfl (qp rfl (qa rfl (Ae ?_))))))
       exact Au _ h (sm [] _ _ rfl rfl)
      ·have h := An c6 h
       refine qf Hs rfl (ql Cm rfl (BK rfl (qp rfl (qp rfl (qa rfl (Ae ?_))))))
       exact Au _ h (sm [] _ _ rfl rfl)
     ·have h := An c5 h
      refine qn rfl (qn rfl (qn rfl (qn rfl (qu rfl (qu rfl (qu rfl (qn rfl (qp rfl (qa rfl (Ae ?_))))))))))
      exact Au _ h (sm [] _ _ rfl rfl)
    ·have h := An c4 h
     refine qn rfl (qn rfl (qn rfl (qp rfl (qm rfl (qn rfl (qn rfl (qn rfl (qn rfl (qu rfl (qu rfl (qu rfl (qn rfl (qp rfl (qa rfl (Ae ?_)))))))))))))))
     exact Au _ h (sm [] _ _ rfl rfl)
   ·have h := An c3 h
    refine qn rfl (qn rfl (qn rfl (qp rfl (qm rfl (qn rfl (qn rfl (qn rfl (qp rfl (qm rfl (qn rfl (qn rfl (qn rfl (qn rfl (qu rfl (qu rfl (qu rfl (qn rfl (qp rfl (qa rfl (Ae ?_))))))))))))))))))))
    exact Au _ h (sm [] _ _ rfl rfl)
  ·have h := An c2 h
   refine qn rfl (qn rfl (qn rfl (qp rfl (qm rfl (qn rfl (qn rfl (qn rfl (qp rfl (qm rfl (qn rfl (qn rfl (qn rfl (qp rfl (qm rfl (qn rfl (qn rfl (qn rfl (qn rfl (qu rfl (qu rfl (qu rfl (qn rfl (qp rfl (qa rfl (Ae ?_)))))))))))))))))))))))))
   exact Au _ h (sm [] _ _ rfl rfl)
 ·obtain rfl := sj h
  refine Am (sm [] [(2, bD v1)] [] rfl rfl) (AA ?_)
  exact ⟨⟨[_], ⟨.tmp _ _ rfl, tv⟩, rfl⟩, tv⟩
end Go.Lift
