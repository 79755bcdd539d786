/- Lemmas for WavesOrderCardSaid, which YtncnphcfgojgmaaDoorFinV5 proves. -/
import Derived.Test.YtncnphcfgojgmaaDoorTypes
import Derived.Test.YtncnphcfgojgmaaDoorProg
import Derived.KernelRfl
namespace Go.Lift
open IntKind renaming wrap → wI
def Cs (_ : Nat) (p0 : List Int) (p1 : Int) : Option Int :=
 AM ((decide (p1 < (p0.length : Int))))
  ((B3 p0 p1).bind fun v2 =>
  some ((wI .i64 v2)))
  (some 0)
def Bd (_ : Nat) (p0 : Aq) : Option Bool :=
 Bs (fun (v1 : Bool) =>
  some v1)
 fun j1 =>
 AM ((p0.ff == 3))
  (j1 true)
  (j1 (p0.ff == 4))
def Bl (N : Nat) (p1 : Int) (p2 : Int) (p3 : Bool) (v1 : (List (List Bool)) × Int) (j4 : ((List Bool)) → Option ((List (List Bool)))) : Nat → ((List Bool) × Int) → Option ((List (List Bool)))
 | 0, _ => none
 | n4 + 1, v4 =>
  AM ((decide (v4.2 < p1)))
   (Bs (fun (v7 : (List Bool)) =>
    Bl N p1 p2 p3 v1 j4 n4 (v7, (wI .i64 (v4.2 + 1))))
   fun j7 =>
   AM p3
    (AM ((v1.2 == v4.2))
     ((Dd (v4.1.length + (([true] : List Bool)).length ≤ Dz)).bind fun _ =>
     j7 (v4.1 ++ (([true] : List Bool))))
     ((Dd (0 ≤ (wI .i64 ((wI .i64 (3 * v1.2)) + v4.2)))).bind fun _ =>
     (Dd (v4.1.length + (([((Int.tmod ((Ee .u16 p2 ((wI .i64 ((wI .i64 (3 * v1.2)) + v4.2))))) 2) == 0)] : List Bool)).length ≤ Dz)).bind fun _ =>
     j7 (v4.1 ++ (([((Int.tmod ((Ee .u16 p2 ((wI .i64 ((wI .i64 (3 * v1.2)) + v4.2))))) 2) == 0)] : List Bool)))))
    ((Dd (0 ≤ (wI .i64 ((wI .i64 (3 * v1.2)) + v4.2)))).bind fun _ =>
    (Dd (v4.1.length + (([((Int.tmod ((Ee .u16 p2 ((wI .i64 ((wI .i64 (3 * v1.2)) + v4.2))))) 2) == 0)] : List Bool)).length ≤ Dz)).bind fun _ =>
    j7 (v4.1 ++ (([((Int.tmod ((Ee .u16 p2 ((wI .i64 ((wI .i64 (3 * v1.2)) + v4.2))))) 2) == 0)] : List Bool)))))
   (j4 v4.1)
def Bm (N : Nat) (p0 : Int) (p1 : Int) (p2 : Int) (p3 : Bool) (j1 : ((List (List Bool))) → Option ((List (List Bool)))) : Nat → ((List (List Bool)) × Int) → Option ((List (List Bool)))
 | 0, _ => none
 | n1 + 1, v1 =>
  AM ((decide (v1.2 < p0)))
   (Bl N p1 p2 p3 v1 (fun (v5 : (List Bool)) =>
    (Dd (v1.1.length + (([v5] : List (List Bool))).length ≤ Dz)).bind fun _ =>
    Bm N p0 p1 p2 p3 j1 n1 (v1.1 ++ (([v5] : List (List Bool))), (wI .i64 (v1.2 + 1)))) N (([] : List Bool), 0))
   (j1 v1.1)
def Ct (N : Nat) (p0 : Int) (p1 : Int) (p2 : Int) (p3 : Bool) : Option ((List (List Bool))) :=
 Bm N p0 p1 p2 p3 (fun (v2 : (List (List Bool))) =>
  some v2) N (([] : List (List Bool)), 0)
def Bx (N : Nat) (p0 : A9) (j4 : ((List Int) × (List Int) × (List Int)) → Option (Aa × Bool)) : Nat → ((List Int) × (List Int) × (List Int) × Int) → Option (Aa × Bool)
 | 0, _ => none
 | n4 + 1, v4 =>
  AM ((decide (v4.2.2.2 < (p0.fb.length : Int))))
   ((B3 p0.fb v4.2.2.2).bind fun v7 =>
   (Dd (v4.1.length + (([(wI .i64 (1 + (wI .i64 ((Int.tmod v7 3)))))] : List Int)).length ≤ Dz)).bind fun _ =>
   (Cs N p0.fm v4.2.2.2).bind fun v9 =>
   (Dd ((wI .i64 (1 + (wI .i64 ((Int.tmod v7 3))))) ≠ 0)).bind fun _ =>
   (Dd (v4.2.1.length + (([(Int.tmod v9 ((wI .i64 (1 + (wI .i64 ((Int.tmod v7 3)))))))] : List Int)).length ≤ Dz)).bind fun _ =>
   (Cs N p0.fo v4.2.2.2).bind fun v12 =>
   (Dd ((wI .i64 (1 + (wI .i64 ((Int.tmod v7 3))))) ≠ 0)).bind fun _ =>
   (Dd (v4.2.2.1.length + (([(Int.tmod v12 ((wI .i64 (1 + (wI .i64 ((Int.tmod v7 3)))))))] : List Int)).length ≤ Dz)).bind fun _ =>
   Bx N p0 j4 n4 (v4.1 ++ (([(wI .i64 (1 + (wI .i64 ((Int.tmod v7 3)))))] : List Int)), v4.2.1 ++ (([(Int.tmod v9 ((wI .i64 (1 + (wI .i64 ((Int.tmod v7 3)))))))] : List Int)), v4.2.2.1 ++ (([(Int.tmod v12 ((wI .i64 (1 + (wI .i64 ((Int.tmod v7 3)))))))] : List Int)), (wI .i64 (v4.2.2.2 + 1))))
   (j4 (v4.1, v4.2.1, v4.2.2.1))
def AX (N : Nat) (p0 : A9) (v5 : (List Int) × (List Int) × (List Int)) (j15 : ((List Aq)) → Option (Aa × Bool)) : Nat → ((List Aq) × Int) → Option (Aa × Bool)
 | 0, _ => none
 | n15 + 1, v15 =>
  Bs (fun (v17 : Bool) =>
   AM v17
    ((B3 p0.fr v15.2).bind fun v20 =>
    (Dd ((v5.1.length : Int) ≠ 0)).bind fun _ =>
    (Dd ((v5.1.length : Int) ≠ 0)).bind fun _ =>
    Bs (fun (v23 : Bool) =>
     (B3 v5.1 ((Int.tmod ((wI .i64 v20.fg)) ((v5.1.length : Int))))).bind fun v26 =>
     (B3 v5.1 ((Int.tmod ((wI .i64 v20.fj)) ((v5.1.length : Int))))).bind fun v27 =>
     (Ct N v26 v27 v20.ft false).bind fun v28 =>
     Bs (fun (v29 : (List (List Bool))) =>
      (Dd (v15.1.length + (([(Aq.mk ((wI .i64 (1 + (wI .i64 ((Int.tmod v20.ff 4)))))) ((Int.tmod ((wI .i64 v20.fg)) ((v5.1.length : Int)))) ((Int.tmod ((wI .i64 v20.fj)) ((v5.1.length : Int)))) v23 v28 v29)] : List Aq)).length ≤ Dz)).bind fun _ =>
      AX N p0 v5 j15 n15 (v15.1 ++ (([(Aq.mk ((wI .i64 (1 + (wI .i64 ((Int.tmod v20.ff 4)))))) ((Int.tmod ((wI .i64 v20.fg)) ((v5.1.length : Int)))) ((Int.tmod ((wI .i64 v20.fj)) ((v5.1.length : Int)))) v23 v28 v29)] : List Aq)), (wI .i64 (v15.2 + 1))))
     fun j29 =>
     AM (((wI .i64 (1 + (wI .i64 ((Int.tmod v20.ff 4))))) == 4))
      ((B3 v5.1 ((Int.tmod ((wI .i64 v20.fg)) ((v5.1.length : Int))))).bind fun v31 =>
      (B3 v5.1 ((Int.tmod ((wI .i64 v20.fg)) ((v5.1.length : Int))))).bind fun v32 =>
      (Ct N v31 v32 v20.fu true).bind fun v33 =>
      j29 v33)
      (j29 ([] : List (List Bool))))
    fun j23 =>
    AM v20.fq
     ((Bd N ((Aq.mk ((wI .i64 (1 + (wI .i64 ((Int.tmod v20.ff 4)))))) ((Int.tmod ((wI .i64 v20.fg)) ((v5.1.length : Int)))) ((Int.tmod ((wI .i64 v20.fj)) ((v5.1.length : Int)))) false (([] : List (List Bool))) (([] : List (List Bool)))))).bind fun v25 =>
     j23 (!v25))
     (j23 false))
    (j15 v15.1))
  fun j17 =>
  AM ((decide (v15.2 < (p0.fr.length : Int))))
   (j17 (decide (0 < (v5.1.length : Int))))
   (j17 false)
def CR (N : Nat) (p0 : A9) : Option (Aa × Bool) :=
 Bs (fun (v1 : Bool) =>
  AM v1
   (some ((Aa.mk (([] : List Int)) (([] : List Int)) (([] : List Int)) (([] : List Aq))), false))
   (Bx N p0 (fun (v5 : (List Int) × (List Int) × (List Int)) =>
    AX N p0 v5 (fun (v16 : (List Aq)) =>
     some ((Aa.mk v5.1 v5.2.1 v5.2.2 v16), true)) N (([] : List Aq), 0)) N (([] : List Int), ([] : List Int), ([] : List Int), 0)))
 fun j1 =>
 AM ((decide (3 < (p0.fb.length : Int))))
  (j1 true)
  (j1 (decide (4 < (p0.fr.length : Int))))
def DY (_ : Nat) : Option (Aa × (List Ac)) :=
 some ((Aa.mk (([2, 2] : List Int)) (([0, 0] : List Int)) (([1, 1] : List Int)) (([] : List Aq))), ([(Ac.mk 1 0 1), (Ac.mk 1 1 1), (Ac.mk 2 0 0), (Ac.mk 2 1 0)] : List Ac))
def Cw (_ : Nat) (p0 : Int) (p1 : Int) : Option Bool :=
 Bs (fun (v1 : Bool) =>
  some v1)
 fun j1 =>
 AM ((decide (0 ≤ p0)))
  (j1 (decide (p0 < p1)))
  (j1 false)
def EF (_ : Nat) (p0 : Int) (p1 : Bool) : Option Bool :=
 Bs (fun (v1 : Bool) =>
  some v1)
 fun j1 =>
 AM ((p0 == 1))
  (j1 true)
  (AM ((p0 == 2))
   (j1 true)
   (AM ((p0 == 3))
    (j1 (!p1))
    (AM ((p0 == 4))
     (j1 (!p1))
     (j1 false))))
def Cj (_ : Nat) (p0 : List Bool) (p1 : Int) : Option Bool :=
 some (((p0.length : Int) != p1))
def AV (N : Nat) (p0 : List (List Bool)) (p1 : (List Bool) → Option Bool) (j1 : Unit → Option Int) : Nat → Int → Option Int
 | 0, _ => none
 | n1 + 1, v1 =>
  AM ((decide (v1 < (p0.length : Int))))
   ((B3 p0 v1).bind fun v4 =>
   (p1 v4).bind fun v5 =>
   AM v5
    (some v1)
    (AV N p0 p1 j1 n1 (wI .i64 (v1 + 1))))
   (j1 ())
def BY (N : Nat) (p0 : List (List Bool)) (p1 : (List Bool) → Option Bool) : Option Int :=
 AV N p0 p1 (fun (_ : Unit) =>
  some ((-1))) N 0
def BG (N : Nat) (p0 : List (List Bool)) (p1 : (List Bool) → Option Bool) : Option Bool :=
 (BY N p0 p1).bind fun v1 =>
 some ((decide (0 ≤ v1)))
def Dh (N : Nat) (p0 : List (List Bool)) (p1 : Int) (p2 : Int) : Option Bool :=
 Bs (fun (v1 : Bool) =>
  some v1)
 fun j1 =>
 AM (((p0.length : Int) == p1))
  ((BG N p0 ((fun (x : List Bool) => Cj N x p2))).bind fun v3 =>
  j1 (!v3))
  (j1 false)
def BO (N : Nat) (p1 : Aq) (j19 : Unit → Option Int) : Nat → Int → Option Int
 | 0, _ => none
 | n19 + 1, v19 =>
  AM ((decide (v19 < (p1.fk.length : Int))))
   ((B3 p1.fk v19).bind fun v22 =>
   (B3 v22 v19).bind fun v23 =>
   AM ((!v23))
    (some 1)
    (BO N p1 j19 n19 (wI .i64 (v19 + 1))))
   (j19 ())
def El (N : Nat) (p0 : Aa) (p1 : Aq) : Option Int :=
 (EF N p1.ff p1.fq).bind fun v1 =>
 AM ((!v1))
  (some 1)
  (Bs (fun (v3 : Bool) =>
   AM v3
    (some 4)
    ((B3 p0.fb p1.fg).bind fun v8 =>
    Bs (fun (v9 : Bool) =>
     AM v9
      (some 6)
      (BO N p1 (fun (_ : Unit) =>
       some 0) N 0))
    fun j9 =>
    (B3 p0.fb p1.fj).bind fun v10 =>
    (Dh N p1.fp v8 v10).bind fun v11 =>
    AM ((!v11))
     (j9 true)
     (AM ((p1.ff == 4))
      ((Dh N p1.fk v8 v8).bind fun v14 =>
      AM ((!v14))
       (j9 true)
       (AM ((!((p1.ff == 4))))
        (j9 (decide (0 < (p1.fk.length : Int))))
        (j9 false)))
      (AM ((!((p1.ff == 4))))
       (j9 (decide (0 < (p1.fk.length : Int))))
       (j9 false)))))
  fun j3 =>
  (Cw N p1.fg ((p0.fb.length : Int))).bind fun v4 =>
  AM ((!v4))
   (j3 true)
   ((Cw N p1.fj ((p0.fb.length : Int))).bind fun v6 =>
   j3 (!v6)))
def A8 (N : Nat) (p0 : Aa) (j7 : Unit → Option Int) : Nat → Int → Option Int
 | 0, _ => none
 | n7 + 1, v7 =>
  AM ((decide (v7 < (p0.fb.length : Int))))
   ((B3 p0.fb v7).bind fun v10 =>
   Bs (fun (v11 : Bool) =>
    AM v11
     (some 7)
     (A8 N p0 j7 n7 (wI .i64 (v7 + 1))))
   fun j11 =>
   AM ((decide (v10 < 1)))
    (j11 true)
    (AM ((decide (6 < v10)))
     (j11 true)
     ((B3 p0.fm v7).bind fun v14 =>
     (Cw N v14 v10).bind fun v15 =>
     AM ((!v15))
      (j11 true)
      ((B3 p0.fo v7).bind fun v17 =>
      (Cw N v17 v10).bind fun v18 =>
      j11 (!v18)))))
   (j7 ())
def A2 (N : Nat) (p0 : Aa) (j20 : Unit → Option Int) : Nat → Int → Option Int
 | 0, _ => none
 | n20 + 1, v20 =>
  AM ((decide (v20 < (p0.fd.length : Int))))
   ((B3 p0.fd v20).bind fun v23 =>
   (El N p0 v23).bind fun v24 =>
   AM ((v24 != 0))
    (some v24)
    (A2 N p0 j20 n20 (wI .i64 (v20 + 1))))
   (j20 ())
def BD (N : Nat) (p0 : Aa) : Option Int :=
 Bs (fun (v1 : Bool) =>
  AM v1
   (some 3)
   (Bs (fun (v4 : Bool) =>
    AM v4
     (some 6)
     (A8 N p0 (fun (_ : Unit) =>
      A2 N p0 (fun (_ : Unit) =>
       some 0) N 0) N 0))
   fun j4 =>
   AM (((p0.fm.length : Int) != (p0.fb.length : Int)))
    (j4 true)
    (j4 ((p0.fo.length : Int) != (p0.fb.length : Int)))))
 fun j1 =>
 AM ((decide (6 < (p0.fb.length : Int))))
  (j1 true)
  (j1 (decide (12 < (p0.fd.length : Int))))
def A1 (_ : Nat) (p0 : List Int) : Option ((List Int)) :=
 (Dd ((([] : List Int)).length + p0.length ≤ Dz)).bind fun _ =>
 some ((([] : List Int)) ++ p0)
def E0 (_ : Nat) (p0 : Int) (p1 : Int) : Option (Int × Int) :=
 some ((wI .u32 ((Ee .u64 ((wI .u64 ((wI .u64 p0) * (wI .u64 p1)))) 32))), (wI .u32 ((wI .u64 ((wI .u64 p0) * (wI .u64 p1))))))
def E1 (_ : Nat) (p0 : Int) (p1 : Int) : Option (Int × Int) :=
 some ((wI .u64 ((wI .u64 ((wI .u64 ((Ee .u64 p0 32) * (Ee .u64 p1 32))) + (Ee .u64 ((wI .u64 ((wI .u64 ((Ee .u64 p0 32) * (Ea .u64 p1 4294967295))) + (Ee .u64 ((wI .u64 ((Ea .u64 p0 4294967295) * (Ea .u64 p1 4294967295)))) 32)))) 32))) + (Ee .u64 ((wI .u64 ((Ea .u64 ((wI .u64 ((wI .u64 ((Ee .u64 p0 32) * (Ea .u64 p1 4294967295))) + (Ee .u64 ((wI .u64 ((Ea .u64 p0 4294967295) * (Ea .u64 p1 4294967295)))) 32)))) 4294967295) + (wI .u64 ((Ea .u64 p0 4294967295) * (Ee .u64 p1 32)))))) 32))), (wI .u64 (p0 * p1)))
def FF (N : Nat) (p0 : Int) (p1 : Int) : Option (Int × Int) :=
 AM false
  ((E0 N ((wI .u32 p0)) ((wI .u32 p1))).bind fun v2 =>
  some ((wI .u64 v2.1), (wI .u64 v2.2)))
  ((E1 N p0 p1).bind fun v3 =>
  some (v3.1, v3.2))
def Cd (N : Nat) (j9 : ((List Int)) → Option ((List Int))) : Nat → ((List Int) × Int) → Option ((List Int))
 | 0, _ => none
 | n9 + 1, v9 =>
  AM ((decide (v9.2 < (v9.1.length : Int))))
   ((Dd ((0 : Int) ≤ v9.2 ∧ (v9.2).toNat ≤ v9.1.length ∧ v9.1.length ≤ v9.1.length)).bind fun _ =>
   (Dd ((0 : Int) ≤ v9.2 ∧ 0 ≤ (v9.2).toNat ∧ (v9.2).toNat ≤ v9.1.length)).bind fun _ =>
   Cd N j9 n9 (FV v9.1 ((v9.2).toNat) ((((v9.1.drop 0).take ((v9.2).toNat))).take (Nat.min (((v9.1.drop 0).take ((v9.2).toNat))).length ((v9.1.length - (v9.2).toNat)))), (wI .i64 (v9.2 + (((Nat.min (((v9.1.drop 0).take ((v9.2).toNat))).length ((v9.1.length - (v9.2).toNat))) : Nat) : Int)))))
   (j9 v9.1)
def Du (N : Nat) (p0 : List Int) (p1 : Int) : Option ((List Int)) :=
 Bs (fun (_ : Unit) =>
  (FF N ((wI .u64 ((p0.length : Int)))) ((wI .u64 p1))).bind fun v3 =>
  Bs (fun (_ : Unit) =>
   (Dd ((0 : Int) ≤ (wI .i64 v3.2) ∧ (wI .i64 v3.2) ≤ (wI .i64 v3.2) ∧ (wI .i64 v3.2) ≤ (Dz : Int))).bind fun _ =>
   Cd N (fun (v10 : (List Int)) =>
    some v10) N (FV (List.replicate ((wI .i64 v3.2)).toNat ((0 : Int))) 0 (p0.take (Nat.min p0.length ((List.replicate ((wI .i64 v3.2)).toNat ((0 : Int))).length))), (((Nat.min p0.length ((List.replicate ((wI .i64 v3.2)).toNat ((0 : Int))).length)) : Nat) : Int)))
  fun j4 =>
  Bs (fun (v5 : Bool) =>
   AM v5
    (none)
    (j4 ()))
  fun j5 =>
  AM ((decide (0 < v3.1)))
   (j5 true)
   (j5 (decide (9223372036854775807 < v3.2))))
 fun j1 =>
 AM ((decide (p1 < 0)))
  (none)
  (j1 ())
def Dv (_ : Nat) (p0 : Aq) : Option Bool :=
 Bs (fun (v1 : Bool) =>
  some v1)
 fun j1 =>
 AM ((p0.ff == 3))
  (j1 true)
  (j1 (p0.ff == 4))
def EX (N : Nat) (p0 : Aa) (j6 : ((List Int)) → Option (Ad × Int)) : Nat → ((List Int) × Int) → Option (Ad × Int)
 | 0, _ => none
 | n6 + 1, v6 =>
  AM ((decide (v6.2 < (p0.fd.length : Int))))
   (Bs (fun (v9 : (List Int)) =>
    EX N p0 j6 n6 (v9, (wI .i64 (v6.2 + 1))))
   fun j9 =>
   (B3 p0.fd v6.2).bind fun v10 =>
   (Dv N v10).bind fun v11 =>
   AM v11
    ((B3 p0.fm v10.fg).bind fun v13 =>
    (Dd (0 ≤ v13)).bind fun _ =>
    (B3 v6.1 v6.2).bind fun _ =>
    j9 (v6.1.set ((v6.2).toNat) ((CJ .u8 1 v13))))
    (j9 v6.1))
   (j6 v6.1)
def Fj (N : Nat) (p0 : Aa) : Option (Ad × Int) :=
 (BD N p0).bind fun v1 =>
 AM ((v1 != 0))
  (some ((Ad.mk (([] : List Int)) (([] : List Int)) (([] : List Int))), v1))
  ((A1 N p0.fm).bind fun v3 =>
  (Du N (([(-1)] : List Int)) ((p0.fm.length : Int))).bind fun v4 =>
  (Dd ((0 : Int) ≤ (p0.fd.length : Int) ∧ (p0.fd.length : Int) ≤ (p0.fd.length : Int) ∧ (p0.fd.length : Int) ≤ (Dz : Int))).bind fun _ =>
  EX N p0 (fun (v7 : (List Int)) =>
   some ((Ad.mk v3 v4 v7), 0)) N (List.replicate ((p0.fd.length : Int)).toNat ((0 : Int)), 0))
def Dc (_ : Nat) (p0 : Ad) (p1 : Int) : Option Int :=
 (B3 p0.fe p1).bind fun v1 =>
 (Dd (0 ≤ v1)).bind fun _ =>
 Bs (fun (v3 : Int) =>
  some v3)
 fun j3 =>
 (B3 p0.fa p1).bind fun v4 =>
 AM ((decide (0 ≤ v4)))
  ((B3 p0.fa p1).bind fun v6 =>
  (Dd (0 ≤ v6)).bind fun _ =>
  j3 (Kc .u8 ((CJ .u8 1 v1)) ((CJ .u8 1 v6))))
  (j3 (CJ .u8 1 v1))
def Cx (N : Nat) (p0 : Aa) (p1 : Ad) (j7 : Unit → Option Int) : Nat → Int → Option Int
 | 0, _ => none
 | n7 + 1, v7 =>
  AM ((decide (v7 < (p0.fb.length : Int))))
   ((B3 p0.fb v7).bind fun v10 =>
   Bs (fun (v11 : Bool) =>
    AM v11
     (some 7)
     ((B3 p1.fe v7).bind fun v20 =>
     (B3 p1.fa v7).bind fun v21 =>
     AM ((v20 == v21))
      (some 1)
      (Cx N p0 p1 j7 n7 (wI .i64 (v7 + 1)))))
   fun j11 =>
   (B3 p1.fe v7).bind fun v12 =>
   AM ((decide (v12 < 0)))
    (j11 true)
    ((B3 p1.fe v7).bind fun v14 =>
    AM ((decide (v10 ≤ v14)))
     (j11 true)
     ((B3 p1.fa v7).bind fun v16 =>
     AM ((decide (v16 < (-1))))
      (j11 true)
      ((B3 p1.fa v7).bind fun v18 =>
      j11 (decide (v10 ≤ v18))))))
   (j7 ())
def B8 (N : Nat) (p0 : Aa) (p1 : Ad) (j23 : Unit → Option Int) : Nat → Int → Option Int
 | 0, _ => none
 | n23 + 1, v23 =>
  AM ((decide (v23 < (p0.fd.length : Int))))
   ((B3 p0.fd v23).bind fun v26 =>
   Bs (fun (v27 : Int × Int) =>
    Bs (fun (v33 : Bool) =>
     AM v33
      (some 1)
      (B8 N p0 p1 j23 n23 (wI .i64 (v23 + 1))))
    fun j33 =>
    (B3 p1.fc v23).bind fun v34 =>
    AM (((CH .u8 v27.1 v34) != 0))
     (j33 true)
     ((B3 p1.fc v23).bind fun v36 =>
     j33 ((CH .u8 v36 v27.2) != 0)))
   fun j27 =>
   (Dv N v26).bind fun v28 =>
   AM v28
    ((Dc N p1 v26.fg).bind fun v30 =>
    (B3 p0.fb v26.fg).bind fun v31 =>
    (Dd (0 ≤ v31)).bind fun _ =>
    j27 (v30, (wI .u8 ((CJ .u8 1 v31) - 1))))
    (j27 (0, 0)))
   (j23 ())
def Di (N : Nat) (p0 : Aa) (p1 : Ad) : Option Int :=
 (BD N p0).bind fun v1 =>
 AM ((v1 != 0))
  (some v1)
  (Bs (fun (v3 : Bool) =>
   AM v3
    (some 6)
    (Cx N p0 p1 (fun (_ : Unit) =>
     B8 N p0 p1 (fun (_ : Unit) =>
      some 0) N 0) N 0))
  fun j3 =>
  AM (((p1.fe.length : Int) != (p0.fb.length : Int)))
   (j3 true)
   (AM (((p1.fa.length : Int) != (p0.fb.length : Int)))
    (j3 true)
    (j3 ((p1.fc.length : Int) != (p0.fd.length : Int)))))
def A6 (_ : Nat) (p0 : List Int) : Option ((List Int)) :=
 (Dd ((([] : List Int)).length + p0.length ≤ Dz)).bind fun _ =>
 some ((([] : List Int)) ++ p0)
def Ca (N : Nat) (p1 : Ad) (j3 : ((List Int)) → Option ((List Ad) × Int)) : Nat → ((List Int) × Int) → Option ((List Ad) × Int)
 | 0, _ => none
 | n3 + 1, v3 =>
  AM ((decide (v3.2 < (p1.fa.length : Int))))
   (Bs (fun (v6 : (List Int)) =>
    Ca N p1 j3 n3 (v6, (wI .i64 (v3.2 + 1))))
   fun j6 =>
   (B3 p1.fa v3.2).bind fun v7 =>
   AM ((decide (0 ≤ v7)))
    ((Dd (v3.1.length + (([v3.2] : List Int)).length ≤ Dz)).bind fun _ =>
    j6 (v3.1 ++ (([v3.2] : List Int))))
    (j6 v3.1))
   (j3 v3.1)
def BI (N : Nat) (v4 : (List Int)) (v11 : (List Ad) × Int) (j17 : ((List Int)) → Option ((List Ad) × Int)) : Nat → ((List Int) × Int) → Option ((List Ad) × Int)
 | 0, _ => none
 | n17 + 1, v17 =>
  AM ((decide (v17.2 < (v4.length : Int))))
   (Bs (fun (v20 : (List Int)) =>
    BI N v4 v11 j17 n17 (v20, (wI .i64 (v17.2 + 1))))
   fun j20 =>
   (B3 v4 v17.2).bind fun v21 =>
   (Dd (0 ≤ v17.2)).bind fun _ =>
   AM (((Ea .i64 ((Ee .i64 v11.2 v17.2)) 1) == 1))
    ((B3 v17.1 v21).bind fun _ =>
    j20 (v17.1.set ((v21).toNat) ((-1))))
    (j20 v17.1))
   (j17 v17.1)
def BE (N : Nat) (p1 : Ad) (v4 : (List Int)) (j11 : ((List Ad)) → Option ((List Ad) × Int)) : Nat → ((List Ad) × Int) → Option ((List Ad) × Int)
 | 0, _ => none
 | n11 + 1, v11 =>
  AM ((decide (v11.2 < (CJ .i64 1 ((v4.length : Int))))))
   ((A1 N p1.fe).bind fun v14 =>
   (A1 N p1.fa).bind fun v15 =>
   (A6 N p1.fc).bind fun v16 =>
   BI N v4 v11 (fun (v18 : (List Int)) =>
    (Dd (v11.1.length + (([(Ad.mk v14 v18 v16)] : List Ad)).length ≤ Dz)).bind fun _ =>
    BE N p1 v4 j11 n11 (v11.1 ++ (([(Ad.mk v14 v18 v16)] : List Ad)), (wI .i64 (v11.2 + 1)))) N (v15, 0))
   (j11 v11.1)
def EM (N : Nat) (p0 : Aa) (p1 : Ad) : Option ((List Ad) × Int) :=
 (Di N p0 p1).bind fun v1 =>
 AM ((v1 != 0))
  (some (([] : List Ad), v1))
  (Ca N p1 (fun (v4 : (List Int)) =>
   (Dd (0 ≤ (v4.length : Int))).bind fun _ =>
   BE N p1 v4 (fun (v12 : (List Ad)) =>
    some (v12, 0)) N (([] : List Ad), 0)) N (([] : List Int), 0))
def A7 (N : Nat) (v1 : (List An) × Int) (v4 : Aq) (v6 : Int) (v11 : (List An) × Int) (v17 : List Bool) (j18 : ((List An) × Bool) → Option ((List An))) : Nat → ((List An) × Bool × Int) → Option ((List An))
 | 0, _ => none
 | n18 + 1, v18 =>
  AM ((decide (v18.2.2 < (v17.length : Int))))
   (Bs (fun (v21 : (List An) × Bool) =>
    A7 N v1 v4 v6 v11 v17 j18 n18 (v21.1, v21.2, (wI .i64 (v18.2.2 + 1))))
   fun j21 =>
   (B3 v17 v18.2.2).bind fun v22 =>
   (Dd (0 ≤ v18.2.2)).bind fun _ =>
   AM (((Ea .u8 ((Ee .u8 v6 v18.2.2)) 1) == 0))
    (j21 (v18.1, v18.2.1))
    (Bs (fun (v25 : Bool) =>
     Bs (fun (v27 : Bool) =>
      AM v27
       ((Dd (v18.1.length + (([(An.mk v1.2 v11.2 v18.2.2)] : List An)).length ≤ Dz)).bind fun _ =>
       j21 (v18.1 ++ (([(An.mk v1.2 v11.2 v18.2.2)] : List An)), v25))
       (j21 (v18.1, v25)))
     fun j27 =>
     AM ((!v22))
      (j27 (!v4.fq))
      (j27 false))
    fun j25 =>
    AM v18.2.1
     (j25 true)
     (j25 v22)))
   (j18 (v18.1, v18.2.1))
def Bo (N : Nat) (v1 : (List An) × Int) (v4 : Aq) (v6 : Int) (v7 : Int) (j11 : ((List An)) → Option ((List An))) : Nat → ((List An) × Int) → Option ((List An))
 | 0, _ => none
 | n11 + 1, v11 =>
  AM ((decide (v11.2 < (v4.fp.length : Int))))
   (Bs (fun (v14 : (List An)) =>
    Bo N v1 v4 v6 v7 j11 n11 (v14, (wI .i64 (v11.2 + 1))))
   fun j14 =>
   (Dd (0 ≤ v11.2)).bind fun _ =>
   AM (((Ea .u8 ((Ee .u8 v7 v11.2)) 1) == 0))
    (j14 v11.1)
    ((B3 v4.fp v11.2).bind fun v17 =>
    A7 N v1 v4 v6 v11 v17 (fun (v19 : (List An) × Bool) =>
     Bs (fun (v31 : Bool) =>
      AM v31
       ((Dd (v19.1.length + (([(An.mk v1.2 v11.2 ((-1)))] : List An)).length ≤ Dz)).bind fun _ =>
       j14 (v19.1 ++ (([(An.mk v1.2 v11.2 ((-1)))] : List An))))
       (j14 v19.1))
     fun j31 =>
     AM v4.fq
      (j31 (!v19.2))
      (j31 false)) N (v11.1, false, 0)))
   (j11 v11.1)
def BW (N : Nat) (p0 : Aa) (p1 : Ad) (j1 : ((List An)) → Option ((List An))) : Nat → ((List An) × Int) → Option ((List An))
 | 0, _ => none
 | n1 + 1, v1 =>
  AM ((decide (v1.2 < (p0.fd.length : Int))))
   ((B3 p0.fd v1.2).bind fun v4 =>
   (Dc N p1 v4.fg).bind fun v5 =>
   (Dc N p1 v4.fj).bind fun v6 =>
   Bs (fun (v7 : Int) =>
    Bo N v1 v4 v6 v7 (fun (v12 : (List An)) =>
     BW N p0 p1 j1 n1 (v12, (wI .i64 (v1.2 + 1)))) N (v1.1, 0))
   fun j7 =>
   (Dv N v4).bind fun v8 =>
   AM v8
    ((B3 p1.fc v1.2).bind fun v10 =>
    j7 v10)
    (j7 v5))
   (j1 v1.1)
def DF (N : Nat) (p0 : Aa) (p1 : Ad) : Option ((List An)) :=
 BW N p0 p1 (fun (v2 : (List An)) =>
  some v2) N (([] : List An), 0)
def CV (N : Nat) (p0 : Aa) (v1 : (List Ad) × Int) (j3 : Unit → Option (Ad × An × Int)) : Nat → Int → Option (Ad × An × Int)
 | 0, _ => none
 | n3 + 1, v3 =>
  AM ((decide (v3 < (v1.1.length : Int))))
   ((B3 v1.1 v3).bind fun v6 =>
   (DF N p0 v6).bind fun v7 =>
   AM ((decide (0 < (v7.length : Int))))
    ((B3 v7 0).bind fun v9 =>
    some (v6, v9, 0))
    (CV N p0 v1 j3 n3 (wI .i64 (v3 + 1))))
   (j3 ())
def D0 (N : Nat) (p0 : Aa) (p1 : Ad) : Option (Ad × An × Int) :=
 (EM N p0 p1).bind fun v1 =>
 AM ((v1.2 != 0))
  (some ((Ad.mk (([] : List Int)) (([] : List Int)) (([] : List Int))), (An.mk 0 0 0), v1.2))
  (CV N p0 v1 (fun (_ : Unit) =>
   some ((Ad.mk (([] : List Int)) (([] : List Int)) (([] : List Int))), (An.mk 0 0 0), 15)) N 0)
def D4 (_ : Nat) (p0 : Ac) : Option Bool :=
 Bs (fun (v1 : Bool) =>
  AM v1
   (some false)
   (Bs (fun (v5 : Bool) =>
    some v5)
   fun j5 =>
   AM ((p0.ff == 1))
    (j5 true)
    (j5 (p0.fi == 0))))
 fun j1 =>
 AM ((decide ((Nu p0.fh p0.fi) < 0)))
  (j1 true)
  (AM ((decide (p0.ff < 1)))
   (j1 true)
   (j1 (decide (4 < p0.ff))))
def Et (_ : Nat) (p0 : Aa) (p1 : Ac) : Option Bool :=
 AM ((p1.ff == 3))
  (some ((decide (p1.fh < (p0.fd.length : Int)))))
  (Bs (fun (v2 : Bool) =>
   some v2)
  fun j2 =>
  AM ((decide (p1.fh < (p0.fb.length : Int))))
   (AM ((p1.ff != 1))
    (j2 true)
    ((B3 p0.fb p1.fh).bind fun v5 =>
    j2 (decide (p1.fi < v5))))
   (j2 false))
def Ei (N : Nat) (p0 : Ad) : Option Ad :=
 (A1 N p0.fe).bind fun v1 =>
 (A1 N p0.fa).bind fun v2 =>
 (A6 N p0.fc).bind fun v3 =>
 some ((Ad.mk v1 v2 v3))
def DH (_ : Nat) (p0 : Aq) : Option Bool :=
 Bs (fun (v1 : Bool) =>
  some v1)
 fun j1 =>
 AM ((p0.ff == 3))
  (j1 true)
  (j1 (p0.ff == 4))
def Cc (N : Nat) (p0 : Aa) (p2 : Ac) (j7 : ((List Int)) → Option (Bool × (List Int) × (List Int))) : Nat → ((List Int) × Int) → Option (Bool × (List Int) × (List Int))
 | 0, _ => none
 | n7 + 1, v7 =>
  AM ((decide (v7.2 < (p0.fd.length : Int))))
   (Bs (fun (v10 : (List Int)) =>
    Cc N p0 p2 j7 n7 (v10, (wI .i64 (v7.2 + 1))))
   fun j10 =>
   (B3 p0.fd v7.2).bind fun v11 =>
   Bs (fun (v12 : Bool) =>
    AM v12
     ((B3 v7.1 v7.2).bind fun v16 =>
     (Dd (0 ≤ p2.fi)).bind fun _ =>
     (B3 v7.1 v7.2).bind fun _ =>
     j10 (v7.1.set ((v7.2).toNat) ((Kc .u8 v16 ((CJ .u8 1 p2.fi))))))
     (j10 v7.1))
   fun j12 =>
   AM ((v11.fg == p2.fh))
    ((DH N v11).bind fun v14 =>
    j12 v14)
    (j12 false))
   (j7 v7.1)
def FJ (N : Nat) (p0 : Aa) (p1 : Ad) (p2 : Ac) : Option (Bool × (List Int) × (List Int)) :=
 Bs (fun (v1 : Bool) =>
  AM v1
   (some (false, p1.fa, p1.fc))
   ((B3 p1.fa p2.fh).bind fun _ =>
   Cc N p0 p2 (fun (v8 : (List Int)) =>
    some (true, p1.fa.set ((p2.fh).toNat) p2.fi, v8)) N (p1.fc, 0)))
 fun j1 =>
 (B3 p1.fa p2.fh).bind fun v2 =>
 AM ((decide (0 ≤ v2)))
  (j1 true)
  ((B3 p1.fe p2.fh).bind fun v4 =>
  j1 (v4 == p2.fi))
def D2 (_ : Nat) (p0 : Ad) (p1 : Int) : Option Int :=
 (B3 p0.fe p1).bind fun v1 =>
 (Dd (0 ≤ v1)).bind fun _ =>
 Bs (fun (v3 : Int) =>
  some v3)
 fun j3 =>
 (B3 p0.fa p1).bind fun v4 =>
 AM ((decide (0 ≤ v4)))
  ((B3 p0.fa p1).bind fun v6 =>
  (Dd (0 ≤ v6)).bind fun _ =>
  j3 (Kc .u8 ((CJ .u8 1 v1)) ((CJ .u8 1 v6))))
  (j3 (CJ .u8 1 v1))
def BH (_ : Nat) (p0 : Int) : Option Int :=
 (Ro ((⟨⟨(List.append (List.append [8, 0, 1, 0, 2, 0, 1, 0, 3, 0, 1, 0, 2, 0, 1, 0, 4, 0, 1, 0, 2, 0, 1, 0, 3, 0, 1, 0, 2, 0, 1, 0, 5, 0, 1, 0, 2, 0, 1, 0, 3, 0, 1, 0, 2, 0, 1, 0, 4, 0, 1, 0, 2, 0, 1, 0, 3, 0, 1, 0, 2, 0, 1, 0] [6, 0, 1, 0, 2, 0, 1, 0, 3, 0, 1, 0, 2, 0, 1, 0, 4, 0, 1, 0, 2, 0, 1, 0, 3, 0, 1, 0, 2, 0, 1, 0, 5, 0, 1, 0, 2, 0, 1, 0, 3, 0, 1, 0, 2, 0, 1, 0, 4, 0, 1, 0, 2, 0, 1, 0, 3, 0, 1, 0, 2, 0, 1, 0]) (List.append [7, 0, 1, 0, 2, 0, 1, 0, 3, 0, 1, 0, 2, 0, 1, 0, 4, 0, 1, 0, 2, 0, 1, 0, 3, 0, 1, 0, 2, 0, 1, 0, 5, 0, 1, 0, 2, 0, 1, 0, 3, 0, 1, 0, 2, 0, 1, 0, 4, 0, 1, 0, 2, 0, 1, 0, 3, 0, 1, 0, 2, 0, 1, 0] [6, 0, 1, 0, 2, 0, 1, 0, 3, 0, 1, 0, 2, 0, 1, 0, 4, 0, 1, 0, 2, 0, 1, 0, 3, 0, 1, 0, 2, 0, 1, 0, 5, 0, 1, 0, 2, 0, 1, 0, 3, 0, 1, 0, 2, 0, 1, 0, 4, 0, 1, 0, 2, 0, 1, 0, 3, 0, 1, 0, 2, 0, 1, 0]))⟩⟩ : ByteArray)) p0).bind fun v1 =>
 some ((wI .i64 v1))
def B0 (N : Nat) (p0 : Aq) (p2 : Int) (j1 : Unit → Option Bool) : Nat → Int → Option Bool
 | 0, _ => none
 | n1 + 1, v1 =>
  AM ((v1 != 0))
   ((BH N v1).bind fun v4 =>
   (B3 p0.fk v4).bind fun v5 =>
   (B3 v5 p2).bind fun v6 =>
   AM ((!v6))
    (some false)
    (B0 N p0 p2 j1 n1 (Ea .u8 v1 ((wI .u8 (v1 - 1))))))
   (j1 ())
def DW (N : Nat) (p0 : Aq) (p1 : Int) (p2 : Int) : Option Bool :=
 B0 N p0 p2 (fun (_ : Unit) =>
  some true) N p1
def ES (N : Nat) (p0 : Aa) (p1 : Ad) (p2 : Int) : Option (Bool × (List Int)) :=
 (B3 p0.fd p2).bind fun v1 =>
 (DH N v1).bind fun v2 =>
 AM ((!v2))
  (some (false, p1.fc))
  ((D2 N p1 v1.fg).bind fun v4 =>
  (B3 p1.fc p2).bind fun v5 =>
  Bs (fun (v6 : Bool) =>
   AM v6
    (some (false, p1.fc))
    ((B3 p1.fc p2).bind fun _ =>
    some (true, p1.fc.set ((p2).toNat) v4)))
  fun j6 =>
  (B3 p1.fc p2).bind fun v7 =>
  AM ((v7 == v4))
   (j6 true)
   (AM ((v1.ff == 4))
    ((B3 p1.fe v1.fg).bind fun v10 =>
    (DW N v1 ((CH .u8 v5 v4)) v10).bind fun v11 =>
    j6 (!v11))
    (j6 false)))
def EH (N : Nat) (p0 : Aa) (p1 : Ad) (p2 : Ac) : Option (Ad × Bool) :=
 (Ei N p1).bind fun v1 =>
 AM ((p2.ff == 1))
  ((FJ N p0 v1 p2).bind fun v3 =>
  some ((Ad.mk v1.fe v3.2.1 v3.2.2), v3.1))
  (AM ((p2.ff == 3))
   ((ES N p0 v1 p2.fh).bind fun v5 =>
   some ((Ad.mk v1.fe v1.fa v5.2), v5.1))
   ((B3 v1.fa p2.fh).bind fun v6 =>
   AM ((decide (v6 < 0)))
    (some (v1, false))
    ((B3 v1.fa p2.fh).bind fun _ =>
    Bs (fun (v9 : (List Int)) =>
     some ((Ad.mk v9 (v1.fa.set ((p2.fh).toNat) ((-1))) v1.fc), true))
    fun j9 =>
    AM ((p2.ff == 2))
     ((B3 v1.fe p2.fh).bind fun _ =>
     j9 (v1.fe.set ((p2.fh).toNat) v6))
     (j9 v1.fe))))
def ER (N : Nat) (p0 : Aa) (p1 : Ad) (p2 : Ac) : Option (Ad × Int) :=
 (D4 N p2).bind fun v1 =>
 AM ((!v1))
  (some ((Ad.mk (([] : List Int)) (([] : List Int)) (([] : List Int))), 1))
  ((Et N p0 p2).bind fun v3 =>
  AM ((!v3))
   (some ((Ad.mk (([] : List Int)) (([] : List Int)) (([] : List Int))), 4))
   ((EH N p0 p1 p2).bind fun v5 =>
   AM ((!v5.2))
    (some ((Ad.mk (([] : List Int)) (([] : List Int)) (([] : List Int))), 11))
    (some (v5.1, 0))))
def D6 (N : Nat) (p0 : Aa) (p1 : Ad) (p2 : Ac) : Option (Ad × Int) :=
 (Di N p0 p1).bind fun v1 =>
 AM ((v1 != 0))
  (some ((Ad.mk (([] : List Int)) (([] : List Int)) (([] : List Int))), v1))
  ((ER N p0 p1 p2).bind fun v3 =>
  some (v3.1, v3.2))
def Cr (N : Nat) (p0 : List Int) (p1 : List Int) (j2 : Unit → Option Bool) : Nat → Int → Option Bool
 | 0, _ => none
 | n2 + 1, v2 =>
  AM ((decide (v2 < (p0.length : Int))))
   ((B3 p0 v2).bind fun v5 =>
   (B3 p1 v2).bind fun v6 =>
   AM ((v5 != v6))
    (some false)
    (Cr N p0 p1 j2 n2 (wI .i64 (v2 + 1))))
   (j2 ())
def DL (N : Nat) (p0 : List Int) (p1 : List Int) : Option Bool :=
 AM (((p0.length : Int) != (p1.length : Int)))
  (some false)
  (Cr N p0 p1 (fun (_ : Unit) =>
   some true) N 0)
def BP (N : Nat) (p0 : List Int) (p1 : Int → Option Bool) (j1 : Unit → Option Int) : Nat → Int → Option Int
 | 0, _ => none
 | n1 + 1, v1 =>
  AM ((decide (v1 < (p0.length : Int))))
   ((B3 p0 v1).bind fun v4 =>
   (p1 v4).bind fun v5 =>
   AM v5
    (some v1)
    (BP N p0 p1 j1 n1 (wI .i64 (v1 + 1))))
   (j1 ())
def C5 (N : Nat) (p0 : List Int) (p1 : Int → Option Bool) : Option Int :=
 BP N p0 p1 (fun (_ : Unit) =>
  some ((-1))) N 0
def CC (N : Nat) (p0 : List Int) (p1 : Int → Option Bool) : Option Bool :=
 (C5 N p0 p1).bind fun v1 =>
 some ((decide (0 ≤ v1)))
def FM (_ : Nat) (p0 : Int) : Option Bool :=
 some ((decide (0 ≤ p0)))
def GT (N : Nat) (p0 : Aa) (p1 : Ad) : Option Bool :=
 Bs (fun (v1 : Bool) =>
  some v1)
 fun j1 =>
 (Di N p0 p1).bind fun v2 =>
 AM ((v2 == 0))
  ((DL N p1.fe p0.fo).bind fun v4 =>
  AM v4
   ((CC N p1.fa ((fun (x : Int) => FM N x))).bind fun v6 =>
   j1 (!v6))
   (j1 false))
  (j1 false)
def D1 (N : Nat) (p0 : Aa) (p1 : List Ac) (j5 : Ad → Option (Int × Ad × An × Int)) : Nat → (Ad × Int) → Option (Int × Ad × An × Int)
 | 0, _ => none
 | n5 + 1, v5 =>
  AM ((decide (v5.2 < (p1.length : Int))))
   ((B3 p1 v5.2).bind fun v8 =>
   (D6 N p0 v5.1 v8).bind fun v9 =>
   Bs (fun (v10 : Bool) =>
    AM v10
     (some (v5.2, (Ad.mk (([] : List Int)) (([] : List Int)) (([] : List Int))), (An.mk 0 0 0), 0))
     ((D0 N p0 v9.1).bind fun v13 =>
     AM ((v13.2.2 == 0))
      (some (v5.2, v13.1, v13.2.1, 0))
      (D1 N p0 p1 j5 n5 (v9.1, (wI .i64 (v5.2 + 1))))))
   fun j10 =>
   AM ((v9.2 != 0))
    (j10 true)
    (j10 (v8.ff == 4)))
   (j5 v5.1)
def FZ (N : Nat) (p0 : Aa) (p1 : List Ac) : Option (Int × Ad × An × Int) :=
 (Fj N p0).bind fun v1 =>
 AM ((v1.2 != 0))
  (some (0, (Ad.mk (([] : List Int)) (([] : List Int)) (([] : List Int))), (An.mk 0 0 0), v1.2))
  ((D0 N p0 v1.1).bind fun v3 =>
  AM ((v3.2.2 == 0))
   (some ((-1), v3.1, v3.2.1, 0))
   (D1 N p0 p1 (fun (v6 : Ad) =>
    (GT N p0 v6).bind fun v15 =>
    AM ((!v15))
     (some ((p1.length : Int), (Ad.mk (([] : List Int)) (([] : List Int)) (([] : List Int))), (An.mk 0 0 0), 14))
     (some (0, (Ad.mk (([] : List Int)) (([] : List Int)) (([] : List Int))), (An.mk 0 0 0), 15))) N (v1.1, 0)))
def G1 (N : Nat) (p0 : Aa) (p1 : List Ac) : Option Bool :=
 (FZ N p0 p1).bind fun v1 =>
 some ((v1.2.2.2 == 15))
def Dt (N : Nat) (p0 : Aa) (p1 : Ad) : Option (Bool × Int) :=
 (D0 N p0 p1).bind fun v1 =>
 AM ((v1.2.2 == 0))
  (some (false, 0))
  (AM ((v1.2.2 == 15))
   (some (true, 0))
   (some (false, v1.2.2)))
def Do (_ : Nat) (p0 : Int) : Option ByteArray :=
 (B3 (([(⟨#[]⟩ : ByteArray), (⟨#[115, 116, 97, 114, 116]⟩ : ByteArray), (⟨#[102, 105, 110, 105, 115, 104]⟩ : ByteArray), (⟨#[99, 108, 101, 97, 114]⟩ : ByteArray), (⟨#[97, 98, 111, 114, 116]⟩ : ByteArray)] : List ByteArray)) p0).bind fun v1 =>
 some v1
def EW (_ : Nat) (p0 : Int) : Option ByteArray := Np p0
def Ek (N : Nat) (p0 : Ac) : Option (ByteArray × Int) :=
 (D4 N p0).bind fun v1 =>
 AM ((!v1))
  (some ((⟨#[]⟩ : ByteArray), 1))
  ((Do N p0.ff).bind fun v3 =>
  (Dd (v3.size + ((⟨#[32]⟩ : ByteArray)).size ≤ 9223372036854775807)).bind fun _ =>
  (EW N p0.fh).bind fun v5 =>
  (Dd (((v3 ++ (⟨#[32]⟩ : ByteArray))).size + v5.size ≤ 9223372036854775807)).bind fun _ =>
  Bs (fun (v7 : ByteArray) =>
   some (v7, 0))
  fun j7 =>
  AM ((p0.ff == 1))
   ((EW N p0.fi).bind fun v9 =>
   (Dd (((⟨#[32]⟩ : ByteArray)).size + v9.size ≤ 9223372036854775807)).bind fun _ =>
   (Dd ((((v3 ++ (⟨#[32]⟩ : ByteArray)) ++ v5)).size + (((⟨#[32]⟩ : ByteArray) ++ v9)).size ≤ 9223372036854775807)).bind fun _ =>
   j7 (((v3 ++ (⟨#[32]⟩ : ByteArray)) ++ v5) ++ ((⟨#[32]⟩ : ByteArray) ++ v9)))
   (j7 ((v3 ++ (⟨#[32]⟩ : ByteArray)) ++ v5)))
def AL (N : Nat) (p0 : List Ac) (p1 : Ac) (j1 : Unit → Option Int) : Nat → Int → Option Int
 | 0, _ => none
 | n1 + 1, v1 =>
  AM ((decide (v1 < (p0.length : Int))))
   ((B3 p0 v1).bind fun v4 =>
   AM (((p1.ff == v4.ff) && ((p1.fh == v4.fh) && ((p1.fi == v4.fi) && true))))
    (some v1)
    (AL N p0 p1 j1 n1 (wI .i64 (v1 + 1))))
   (j1 ())
def Bi (N : Nat) (p0 : List Ac) (p1 : Ac) : Option Int :=
 AL N p0 p1 (fun (_ : Unit) =>
  some ((-1))) N 0
def A4 (N : Nat) (p0 : List Ac) (p1 : Ac) : Option Bool :=
 (Bi N p0 p1).bind fun v1 =>
 some ((decide (0 ≤ v1)))
def CD (N : Nat) (p0 : List Ac) (j4 : Unit → Option Int) : Nat → Int → Option Int
 | 0, _ => none
 | n4 + 1, v4 =>
  AM ((decide (v4 < (p0.length : Int))))
   ((B3 p0 v4).bind fun v7 =>
   (Ek N v7).bind fun v8 =>
   Bs (fun (v9 : Bool) =>
    AM v9
     (some 1)
     (CD N p0 j4 n4 (wI .i64 (v4 + 1))))
   fun j9 =>
   AM ((v8.2 != 0))
    (j9 true)
    (AM ((v7.ff == 4))
     (j9 true)
     ((Dd ((0 : Int) ≤ v4 ∧ 0 ≤ (v4).toNat ∧ (v4).toNat ≤ p0.length)).bind fun _ =>
     (A4 N (((p0.drop 0).take ((v4).toNat - 0))) v7).bind fun v13 =>
     j9 v13)))
   (j4 ())
def EG (N : Nat) (p0 : List Ac) : Option Int :=
 Bs (fun (v1 : Bool) =>
  AM v1
   (some 6)
   (CD N p0 (fun (_ : Unit) =>
    some 0) N 0))
 fun j1 =>
 AM ((decide ((p0.length : Int) < 1)))
  (j1 true)
  (j1 (decide (5 < (p0.length : Int))))
def Cv (N : Nat) (p0 : Aa) (p2 : List Ac) (j1 : Ad → Option (Ad × Bool)) : Nat → ((List Int) × (List Int) × (List Int) × Int) → Option (Ad × Bool)
 | 0, _ => none
 | n1 + 1, v1 =>
  AM ((decide (v1.2.2.2 < (p2.length : Int))))
   ((B3 p2 v1.2.2.2).bind fun v4 =>
   (D6 N p0 ((Ad.mk v1.1 v1.2.1 v1.2.2.1)) v4).bind fun v5 =>
   AM ((v5.2 != 0))
    (some ((Ad.mk (([] : List Int)) (([] : List Int)) (([] : List Int))), false))
    ((Dt N p0 v5.1).bind fun v7 =>
    Bs (fun (v8 : Bool) =>
     AM v8
      (some ((Ad.mk (([] : List Int)) (([] : List Int)) (([] : List Int))), false))
      (Cv N p0 p2 j1 n1 (v5.1.fe, v5.1.fa, v5.1.fc, (wI .i64 (v1.2.2.2 + 1)))))
    fun j8 =>
    AM ((v7.2 != 0))
     (j8 true)
     (j8 (!v7.1))))
   (j1 (Ad.mk v1.1 v1.2.1 v1.2.2.1))
def BR (N : Nat) (p0 : Aa) (p1 : Ad) (p2 : List Ac) : Option (Ad × Bool) :=
 Cv N p0 p2 (fun (v2 : Ad) =>
  some (v2, true)) N (p1.fe, p1.fa, p1.fc, 0)
def AJ (_ : Nat) (p0 : List Ac) : Option ((List Ac)) :=
 (Dd ((([] : List Ac)).length + p0.length ≤ Dz)).bind fun _ =>
 some ((([] : List Ac)) ++ p0)
def DK (_ : Nat) (p0 : Int) : Option Bool :=
 some ((p0 != p0))
def Db (N : Nat) (p0 : Int) (p1 : Int) : Option Int :=
 (DK N p0).bind fun v1 =>
 (DK N p1).bind fun v2 =>
 AM v1
  (AM v2
   (some 0)
   (some ((-1))))
  (AM v2
   (some 1)
   (AM ((decide (p0 < p1)))
    (some ((-1)))
    (AM ((decide (p1 < p0)))
     (some 1)
     (some 0))))
def Bk (N : Nat) (p0 : List Int) (p1 : List Int) (j1 : Unit → Option Int) : Nat → Int → Option Int
 | 0, _ => none
 | n1 + 1, v1 =>
  AM ((decide (v1 < (p0.length : Int))))
   ((B3 p0 v1).bind fun v4 =>
   AM ((decide ((p1.length : Int) ≤ v1)))
    (some 1)
    ((B3 p1 v1).bind fun v6 =>
    (Db N v4 v6).bind fun v7 =>
    AM ((v7 != 0))
     (some v7)
     (Bk N p0 p1 j1 n1 (wI .i64 (v1 + 1)))))
   (j1 ())
def By (N : Nat) (p0 : List Int) (p1 : List Int) : Option Int :=
 Bk N p0 p1 (fun (_ : Unit) =>
  AM ((decide ((p0.length : Int) < (p1.length : Int))))
   (some ((-1)))
   (some 0)) N 0
def CL (_ : Nat) (p0 : Int) : Option Bool :=
 some ((p0 != p0))
def Cm (N : Nat) (p0 : Int) (p1 : Int) : Option Int :=
 (CL N p0).bind fun v1 =>
 (CL N p1).bind fun v2 =>
 AM v1
  (AM v2
   (some 0)
   (some ((-1))))
  (AM v2
   (some 1)
   (AM ((decide (p0 < p1)))
    (some ((-1)))
    (AM ((decide (p1 < p0)))
     (some 1)
     (some 0))))
def AW (N : Nat) (p0 : List Int) (p1 : List Int) (j1 : Unit → Option Int) : Nat → Int → Option Int
 | 0, _ => none
 | n1 + 1, v1 =>
  AM ((decide (v1 < (p0.length : Int))))
   ((B3 p0 v1).bind fun v4 =>
   AM ((decide ((p1.length : Int) ≤ v1)))
    (some 1)
    ((B3 p1 v1).bind fun v6 =>
    (Cm N v4 v6).bind fun v7 =>
    AM ((v7 != 0))
     (some v7)
     (AW N p0 p1 j1 n1 (wI .i64 (v1 + 1)))))
   (j1 ())
def Bf (N : Nat) (p0 : List Int) (p1 : List Int) : Option Int :=
 AW N p0 p1 (fun (_ : Unit) =>
  AM ((decide ((p0.length : Int) < (p1.length : Int))))
   (some ((-1)))
   (some 0)) N 0
def C8 (N : Nat) (p0 : List Int) (j1 : Unit → Option Int) : Nat → Int → Option Int
 | 0, _ => none
 | n1 + 1, v1 =>
  AM ((decide (v1 < (p0.length : Int))))
   ((B3 p0 v1).bind fun v4 =>
   AM ((v4 != 0))
    (some v4)
    (C8 N p0 j1 n1 (wI .i64 (v1 + 1))))
   (j1 ())
def EJ (N : Nat) (p0 : List Int) : Option Int :=
 C8 N p0 (fun (_ : Unit) =>
  some 0) N 0
def DI (N : Nat) (p0 : Ad) (p1 : Ad) : Option Int :=
 (By N p0.fe p1.fe).bind fun v1 =>
 (By N p0.fa p1.fa).bind fun v2 =>
 (Bf N p0.fc p1.fc).bind fun v3 =>
 (EJ N (([v1, v2, v3] : List Int))).bind fun v4 =>
 some v4
def Em (N : Nat) (p0 : List Ac) (p1 : List Int) (p2 : List Int) (p3 : List Int) (p4 : List Aq) (p5 : List Int) (p6 : List Int) (p7 : List Int) (p8 : List Int) (p9 : List Int) (p10 : List Int) (p11 : Option (List Ac)) : Option (Bool × (Option (List Ac))) :=
 (BR N ((Aa.mk p1 p2 p3 p4)) ((Ad.mk p5 p6 p7)) p0).bind fun v1 =>
 Bs (fun (v2 : Bool) =>
  AM v2
   (some (false, (some p0)))
   (some (true, p11)))
 fun j2 =>
 AM ((!v1.2))
  (j2 true)
  ((DI N v1.1 ((Ad.mk p8 p9 p10))).bind fun v4 =>
  j2 (v4 != 0))
def Bb (_ : Nat) (p0 : List Ac) (p1 : Int) (p2 : Int) : Option (Nat × (List Ac)) :=
 (Dd ((0 : Int) ≤ p1 ∧ (p1).toNat ≤ (p2).toNat ∧ 0 ≤ p2 ∧ (p2).toNat ≤ ((p0.length : Int)).toNat ∧ 0 ≤ (p0.length : Int) ∧ ((p0.length : Int)).toNat ≤ p0.length)).bind fun _ =>
 AM ((p1 == p2))
  (some (p0.length, p0))
  ((Dd ((0 : Int) ≤ p1 ∧ 0 ≤ (p1).toNat ∧ (p1).toNat ≤ p0.length)).bind fun _ =>
  (Dd ((0 : Int) ≤ p2 ∧ (p2).toNat ≤ p0.length ∧ p0.length ≤ p0.length)).bind fun _ =>
  (Dd ((p1).toNat + (((p0.drop ((p2).toNat)).take ((p0.length - (p2).toNat)))).length ≤ p0.length)).bind fun _ =>
  (Dd ((0 : Int) ≤ (((((p1).toNat + (((p0.drop ((p2).toNat)).take ((p0.length - (p2).toNat)))).length)) : Nat) : Int) ∧ (0 : Int) ≤ (p0.length : Int) ∧ ((((((p1).toNat + (((p0.drop ((p2).toNat)).take ((p0.length - (p2).toNat)))).length)) : Nat) : Int)).toNat ≤ ((p0.length : Int)).toNat ∧ ((p0.length : Int)).toNat ≤ (FV p0 (0 + ((p1).toNat)) (((p0.drop ((p2).toNat)).take ((p0.length - (p2).toNat))))).length)).bind fun _ =>
  some (((p1).toNat + (((p0.drop ((p2).toNat)).take ((p0.length - (p2).toNat)))).length), FV (FV p0 (0 + ((p1).toNat)) (((p0.drop ((p2).toNat)).take ((p0.length - (p2).toNat))))) (((((((p1).toNat + (((p0.drop ((p2).toNat)).take ((p0.length - (p2).toNat)))).length)) : Nat) : Int)).toNat) (List.replicate ((((p0.length : Int)).toNat - ((((((p1).toNat + (((p0.drop ((p2).toNat)).take ((p0.length - (p2).toNat)))).length)) : Nat) : Int)).toNat)) ((Ac.mk 0 0 0)))))
def Cb (N : Nat) (p0 : List Ac) (p1 : List Ac) (p2 : List Int) (p3 : List Int) (p4 : List Int) (p5 : List Aq) (p6 : List Int) (p7 : List Int) (p8 : List Int) (p9 : List Int) (p10 : List Int) (p11 : List Int) (rc : (List Ac) → (List Ac) → (List Int) → (List Int) → (List Int) → (List Aq) → (List Int) → (List Int) → (List Int) → (List Int) → (List Int) → (List Int) → (Option (List Ac)) → Option (Bool × (Option (List Ac)))) (j3 : ((Option (List Ac))) → Option (Bool × (Option (List Ac)))) : Nat → ((Option (List Ac)) × Int) → Option (Bool × (Option (List Ac)))
 | 0, _ => none
 | n3 + 1, v3 =>
  AM ((decide (v3.2 < (p1.length : Int))))
   ((B3 p1 v3.2).bind fun v6 =>
   (AJ N p0).bind fun v7 =>
   (Dd (v7.length + (([v6] : List Ac)).length ≤ Dz)).bind fun _ =>
   (AJ N p1).bind fun v9 =>
   (Bb N v9 v3.2 ((wI .i64 (v3.2 + 1)))).bind fun v10 =>
   (Dd (v10.1 ≤ v10.2.length)).bind fun _ =>
   (rc ((v7 ++ (([v6] : List Ac)))) ((v10.2.take v10.1)) p2 p3 p4 p5 p6 p7 p8 p9 p10 p11 v3.1).bind fun v13 =>
   AM ((!v13.1))
    (some (false, v13.2))
    (Cb N p0 p1 p2 p3 p4 p5 p6 p7 p8 p9 p10 p11 rc j3 n3 (v13.2, (wI .i64 (v3.2 + 1)))))
   (j3 v3.1)
def DA (N : Nat) (rc : (List Ac) → (List Ac) → (List Int) → (List Int) → (List Int) → (List Aq) → (List Int) → (List Int) → (List Int) → (List Int) → (List Int) → (List Int) → (Option (List Ac)) → Option (Bool × (Option (List Ac)))) (p0 : List Ac) (p1 : List Ac) (p2 : List Int) (p3 : List Int) (p4 : List Int) (p5 : List Aq) (p6 : List Int) (p7 : List Int) (p8 : List Int) (p9 : List Int) (p10 : List Int) (p11 : List Int) (p12 : Option (List Ac)) : Option (Bool × (Option (List Ac))) :=
 AM (((p1.length : Int) == 0))
  ((Em N p0 p2 p3 p4 p5 p6 p7 p8 p9 p10 p11 p12).bind fun v2 =>
  some (v2.1, v2.2))
  (Cb N p0 p1 p2 p3 p4 p5 p6 p7 p8 p9 p10 p11 rc (fun (v4 : (Option (List Ac))) =>
   some (true, v4)) N (p12, 0))
def BU (N : Nat) : Nat → (List Ac) → (List Ac) → (List Int) → (List Int) → (List Int) → (List Aq) → (List Int) → (List Int) → (List Int) → (List Int) → (List Int) → (List Int) → (Option (List Ac)) → Option (Bool × (Option (List Ac)))
 | 0, _, _, _, _, _, _, _, _, _, _, _, _, _ => none
 | k + 1, p0, p1, p2, p3, p4, p5, p6, p7, p8, p9, p10, p11, p12 => DA N (BU N k) p0 p1 p2 p3 p4 p5 p6 p7 p8 p9 p10 p11 p12
def Fh (N : Nat) (p0 : List Ac) (p1 : List Ac) (p2 : List Int) (p3 : List Int) (p4 : List Int) (p5 : List Aq) (p6 : List Int) (p7 : List Int) (p8 : List Int) (p9 : List Int) (p10 : List Int) (p11 : List Int) (p12 : Option (List Ac)) : Option (Bool × (Option (List Ac))) := BU N N p0 p1 p2 p3 p4 p5 p6 p7 p8 p9 p10 p11 p12
def EB (N : Nat) (p0 : Aa) (p1 : Ad) (p2 : List Ac) : Option ((List Ac) × Int) :=
 (Dt N p0 p1).bind fun v1 =>
 AM ((v1.2 != 0))
  (some (([] : List Ac), v1.2))
  ((EG N p2).bind fun v3 =>
  AM ((v3 != 0))
   (some (([] : List Ac), v3))
   ((BR N p0 p1 p2).bind fun v5 =>
   Bs (fun (v6 : Bool) =>
    AM v6
     ((AJ N p2).bind fun v9 =>
     some (v9, 0))
     ((Fh N (([] : List Ac)) p2 p0.fb p0.fm p0.fo p0.fd p1.fe p1.fa p1.fc v5.1.fe v5.1.fa v5.1.fc ((none : Option (List Ac)))).bind fun v10 =>
     (Dd (Tc v10.2 = true)).bind fun _ =>
     AM v10.2.isNone
      (some (([] : List Ac), 15))
      (some ((v10.2.getD []), 0))))
   fun j6 =>
   AM ((!v1.1))
    (j6 true)
    (j6 (!v5.2))))
def Ch (N : Nat) (p0 : Aa) (p1 : Ad) (p2 : List Ac) : Option (Bool × Int) :=
 (Di N p0 p1).bind fun v1 =>
 AM ((v1 != 0))
  (some (false, v1))
  ((EB N p0 p1 p2).bind fun v3 =>
  some ((v3.2 == 15), 0))
def Fs (N : Nat) (p0 : Aa) (v5 : (List Int) × (List Int) × (List Int) × (List Ac) × (List (List Ac))) (j8 : Int → Option ((List (List Ac)) × Int)) : Nat → Int → Option ((List (List Ac)) × Int)
 | 0, _ => none
 | n8 + 1, v8 =>
  AM ((decide (1 < v8)))
   ((Dd ((0 : Int) ≤ v8 ∧ 0 ≤ (v8).toNat ∧ (v8).toNat ≤ v5.2.2.2.1.length)).bind fun _ =>
   (Ch N p0 ((Ad.mk v5.1 v5.2.1 v5.2.2.1)) (((v5.2.2.2.1.drop 0).take ((v8).toNat - 0)))).bind fun v12 =>
   AM v12.1
    (j8 v8)
    (Fs N p0 v5 j8 n8 (wI .i64 (v8 - 1))))
   (j8 v8)
def Fr (N : Nat) (p0 : Aa) (j5 : ((List (List Ac))) → Option ((List (List Ac)) × Int)) : Nat → ((List Int) × (List Int) × (List Int) × (List Ac) × (List (List Ac))) → Option ((List (List Ac)) × Int)
 | 0, _ => none
 | n5 + 1, v5 =>
  AM ((decide (0 < (v5.2.2.2.1.length : Int))))
   (Fs N p0 v5 (fun (v9 : Int) =>
    (Dd ((0 : Int) ≤ v9 ∧ 0 ≤ (v9).toNat ∧ (v9).toNat ≤ v5.2.2.2.1.length)).bind fun _ =>
    (AJ N (((v5.2.2.2.1.drop 0).take ((v9).toNat - 0)))).bind fun v15 =>
    (Dd (v5.2.2.2.2.length + (([v15] : List (List Ac))).length ≤ Dz)).bind fun _ =>
    (Dd ((0 : Int) ≤ v9 ∧ 0 ≤ (v9).toNat ∧ (v9).toNat ≤ v5.2.2.2.1.length)).bind fun _ =>
    (BR N p0 ((Ad.mk v5.1 v5.2.1 v5.2.2.1)) (((v5.2.2.2.1.drop 0).take ((v9).toNat - 0)))).bind fun v18 =>
    (Dd ((0 : Int) ≤ v9 ∧ (v9).toNat ≤ v5.2.2.2.1.length ∧ v5.2.2.2.1.length ≤ v5.2.2.2.1.length)).bind fun _ =>
    Fr N p0 j5 n5 (v18.1.fe, v18.1.fa, v18.1.fc, ((v5.2.2.2.1.drop (v9).toNat).take (v5.2.2.2.1.length - (v9).toNat)), v5.2.2.2.2 ++ (([v15] : List (List Ac))))) N (Nu 5 ((v5.2.2.2.1.length : Int))))
   (j5 v5.2.2.2.2)
def HT (N : Nat) (p0 : Aa) (p1 : List Ac) : Option ((List (List Ac)) × Int) :=
 (Fj N p0).bind fun v1 =>
 AM ((v1.2 != 0))
  (some (([] : List (List Ac)), v1.2))
  ((G1 N p0 p1).bind fun v3 =>
  AM ((!v3))
   (some (([] : List (List Ac)), 13))
   (Fr N p0 (fun (v6 : (List (List Ac))) =>
    some (v6, 0)) N (v1.1.fe, v1.1.fa, v1.1.fc, p1, ([] : List (List Ac)))))
def CF (N : Nat) (p0 : List (List Bool)) (p1 : Int) (p2 : Int) (j2 : Unit → Option Bool) : Nat → Int → Option Bool
 | 0, _ => none
 | n2 + 1, v2 =>
  AM ((decide (v2 < p1)))
   ((B3 p0 v2).bind fun v5 =>
   AM (((v5.length : Int) != p2))
    (some false)
    (CF N p0 p1 p2 j2 n2 (wI .i64 (v2 + 1))))
   (j2 ())
def De (N : Nat) (p0 : List (List Bool)) (p1 : Int) (p2 : Int) : Option Bool :=
 AM (((p0.length : Int) != p1))
  (some false)
  (CF N p0 p1 p2 (fun (_ : Unit) =>
   some true) N 0)
def CG (N : Nat) (p1 : Aq) (j22 : Unit → Option Int) : Nat → Int → Option Int
 | 0, _ => none
 | n22 + 1, v22 =>
  AM ((decide (v22 < (p1.fk.length : Int))))
   ((B3 p1.fk v22).bind fun v25 =>
   (B3 v25 v22).bind fun v26 =>
   AM ((!v26))
    (some 1)
    (CG N p1 j22 n22 (wI .i64 (v22 + 1))))
   (j22 ())
def Eh (N : Nat) (p0 : Aa) (p1 : Aq) : Option Int :=
 Bs (fun (v1 : Bool) =>
  AM v1
   (some 1)
   (Bs (fun (v7 : Bool) =>
    AM v7
     (some 4)
     ((B3 p0.fb p1.fg).bind fun v12 =>
     (B3 p0.fb p1.fj).bind fun v13 =>
     (De N p1.fp v12 v13).bind fun v14 =>
     AM ((!v14))
      (some 6)
      (AM ((p1.ff != 4))
       (AM (((p1.fk.length : Int) != 0))
        (some 6)
        (some 0))
       ((B3 p0.fb p1.fg).bind fun v18 =>
       (B3 p0.fb p1.fg).bind fun v19 =>
       (De N p1.fk v18 v19).bind fun v20 =>
       AM ((!v20))
        (some 6)
        (CG N p1 (fun (_ : Unit) =>
         some 0) N 0)))))
   fun j7 =>
   AM ((decide (p1.fg < 0)))
    (j7 true)
    (AM ((decide ((p0.fb.length : Int) ≤ p1.fg)))
     (j7 true)
     (AM ((decide (p1.fj < 0)))
      (j7 true)
      (j7 (decide ((p0.fb.length : Int) ≤ p1.fj)))))))
 fun j1 =>
 AM ((decide (p1.ff < 1)))
  (j1 true)
  (AM ((decide (4 < p1.ff)))
   (j1 true)
   (AM p1.fq
    ((Bd N p1).bind fun v5 =>
    j1 v5)
    (j1 false)))
def BQ (N : Nat) (p0 : Aa) (j7 : Unit → Option Int) : Nat → Int → Option Int
 | 0, _ => none
 | n7 + 1, v7 =>
  AM ((decide (v7 < (p0.fb.length : Int))))
   ((B3 p0.fb v7).bind fun v10 =>
   Bs (fun (v11 : Bool) =>
    AM v11
     (some 7)
     (BQ N p0 j7 n7 (wI .i64 (v7 + 1))))
   fun j11 =>
   AM ((decide (v10 < 1)))
    (j11 true)
    (AM ((decide (6 < v10)))
     (j11 true)
     ((B3 p0.fm v7).bind fun v14 =>
     AM ((decide (v14 < 0)))
      (j11 true)
      ((B3 p0.fm v7).bind fun v16 =>
      AM ((decide (v10 ≤ v16)))
       (j11 true)
       ((B3 p0.fo v7).bind fun v18 =>
       AM ((decide (v18 < 0)))
        (j11 true)
        ((B3 p0.fo v7).bind fun v20 =>
        j11 (decide (v10 ≤ v20))))))))
   (j7 ())
def BK (N : Nat) (p0 : Aa) (j22 : Unit → Option Int) : Nat → Int → Option Int
 | 0, _ => none
 | n22 + 1, v22 =>
  AM ((decide (v22 < (p0.fd.length : Int))))
   ((B3 p0.fd v22).bind fun v25 =>
   (Eh N p0 v25).bind fun v26 =>
   AM ((v26 != 0))
    (some v26)
    (BK N p0 j22 n22 (wI .i64 (v22 + 1))))
   (j22 ())
def C7 (N : Nat) (p0 : Aa) : Option Int :=
 Bs (fun (v1 : Bool) =>
  AM v1
   (some 3)
   (Bs (fun (v4 : Bool) =>
    AM v4
     (some 6)
     (BQ N p0 (fun (_ : Unit) =>
      BK N p0 (fun (_ : Unit) =>
       some 0) N 0) N 0))
   fun j4 =>
   AM (((p0.fm.length : Int) != (p0.fb.length : Int)))
    (j4 true)
    (j4 ((p0.fo.length : Int) != (p0.fb.length : Int)))))
 fun j1 =>
 AM ((decide (6 < (p0.fb.length : Int))))
  (j1 true)
  (j1 (decide (12 < (p0.fd.length : Int))))
def CS (N : Nat) (p0 : Aa) (j3 : ((List Int) × (List Int)) → Option (Ad × Int)) : Nat → ((List Int) × (List Int) × Int) → Option (Ad × Int)
 | 0, _ => none
 | n3 + 1, v3 =>
  AM ((decide (v3.2.2 < (p0.fb.length : Int))))
   ((B3 p0.fm v3.2.2).bind fun v6 =>
   (Dd (v3.1.length + (([v6] : List Int)).length ≤ Dz)).bind fun _ =>
   (Dd (v3.2.1.length + (([(-1)] : List Int)).length ≤ Dz)).bind fun _ =>
   CS N p0 j3 n3 (v3.1 ++ (([v6] : List Int)), v3.2.1 ++ (([(-1)] : List Int)), (wI .i64 (v3.2.2 + 1))))
   (j3 (v3.1, v3.2.1))
def CN (N : Nat) (p0 : Aa) (j9 : ((List Int)) → Option (Ad × Int)) : Nat → ((List Int) × Int) → Option (Ad × Int)
 | 0, _ => none
 | n9 + 1, v9 =>
  AM ((decide (v9.2 < (p0.fd.length : Int))))
   (Bs (fun (v12 : Int) =>
    (Dd (v9.1.length + (([v12] : List Int)).length ≤ Dz)).bind fun _ =>
    CN N p0 j9 n9 (v9.1 ++ (([v12] : List Int)), (wI .i64 (v9.2 + 1))))
   fun j12 =>
   (B3 p0.fd v9.2).bind fun v13 =>
   (Bd N v13).bind fun v14 =>
   AM v14
    ((B3 p0.fd v9.2).bind fun v16 =>
    (B3 p0.fm v16.fg).bind fun v17 =>
    (Dd (0 ≤ v17)).bind fun _ =>
    j12 (CJ .u8 1 v17))
    (j12 0))
   (j9 v9.1)
def Ej (N : Nat) (p0 : Aa) : Option (Ad × Int) :=
 (C7 N p0).bind fun v1 =>
 AM ((v1 != 0))
  (some ((Ad.mk (([] : List Int)) (([] : List Int)) (([] : List Int))), v1))
  (CS N p0 (fun (v4 : (List Int) × (List Int)) =>
   CN N p0 (fun (v10 : (List Int)) =>
    some ((Ad.mk v4.1 v4.2 v10), 0)) N (([] : List Int), 0)) N (([] : List Int), ([] : List Int), 0))
def Eb (N : Nat) (p0 : Aa) (p1 : List (List Ac)) (j5 : ((List Ad)) → Option ((List Ad) × Int)) : Nat → (Ad × (List Ad) × Int) → Option ((List Ad) × Int)
 | 0, _ => none
 | n5 + 1, v5 =>
  AM ((decide (v5.2.2 < (p1.length : Int))))
   ((B3 p1 v5.2.2).bind fun v8 =>
   (Ch N p0 v5.1 v8).bind fun v9 =>
   Bs (fun (v10 : Bool) =>
    AM v10
     (some (([] : List Ad), 13))
     ((BR N p0 v5.1 v8).bind fun v13 =>
     (Dd (v5.2.1.length + (([v13.1] : List Ad)).length ≤ Dz)).bind fun _ =>
     Eb N p0 p1 j5 n5 (v13.1, v5.2.1 ++ (([v13.1] : List Ad)), (wI .i64 (v5.2.2 + 1)))))
   fun j10 =>
   AM ((v9.2 != 0))
    (j10 true)
    (j10 (!v9.1)))
   (j5 v5.2.1)
def Fo (N : Nat) (p0 : Aa) (p1 : List (List Ac)) : Option ((List Ad) × Int) :=
 (BD N p0).bind fun v1 =>
 AM ((v1 != 0))
  (some (([] : List Ad), v1))
  ((Fj N p0).bind fun v3 =>
  AM ((v3.2 != 0))
   (some (([] : List Ad), v3.2))
   (Eb N p0 p1 (fun (v6 : (List Ad)) =>
    some (v6, 0)) N (v3.1, ([v3.1] : List Ad), 0)))
def C1 (N : Nat) (p0 : List Ac) (p1 : List Ac) (j2 : Unit → Option Bool) : Nat → Int → Option Bool
 | 0, _ => none
 | n2 + 1, v2 =>
  AM ((decide (v2 < (p0.length : Int))))
   ((B3 p0 v2).bind fun v5 =>
   (B3 p1 v2).bind fun v6 =>
   AM ((!((v5.ff == v6.ff) && ((v5.fh == v6.fh) && ((v5.fi == v6.fi) && true)))))
    (some false)
    (C1 N p0 p1 j2 n2 (wI .i64 (v2 + 1))))
   (j2 ())
def DB (N : Nat) (p0 : List Ac) (p1 : List Ac) : Option Bool :=
 AM (((p0.length : Int) != (p1.length : Int)))
  (some false)
  (C1 N p0 p1 (fun (_ : Unit) =>
   some true) N 0)
def C2 (N : Nat) (p0 : List (List Ac)) (p1 : List (List Ac)) (j2 : Unit → Option Bool) : Nat → Int → Option Bool
 | 0, _ => none
 | n2 + 1, v2 =>
  AM ((decide (v2 < (p0.length : Int))))
   ((B3 p0 v2).bind fun v5 =>
   (B3 p1 v2).bind fun v6 =>
   (DB N v5 v6).bind fun v7 =>
   AM ((!v7))
    (some false)
    (C2 N p0 p1 j2 n2 (wI .i64 (v2 + 1))))
   (j2 ())
def ED (N : Nat) (p0 : List (List Ac)) (p1 : List (List Ac)) : Option Bool :=
 AM (((p0.length : Int) != (p1.length : Int)))
  (some false)
  (C2 N p0 p1 (fun (_ : Unit) =>
   some true) N 0)
def Gy (N : Nat) (p0 : Aa) (p1 : List (List Ac)) : Option Bool :=
 (Fo N p0 p1).bind fun v1 =>
 AM ((v1.2 != 0))
  (some false)
  ((B3 v1.1 0).bind fun v3 =>
  (Dt N p0 v3).bind fun v4 =>
  Bs (fun (v5 : Bool) =>
   some v5)
  fun j5 =>
  AM ((v4.2 == 0))
   (AM v4.1
    ((B3 v1.1 ((wI .i64 ((v1.1.length : Int) - 1)))).bind fun v8 =>
    (GT N p0 v8).bind fun v9 =>
    j5 v9)
    (j5 false))
   (j5 false))
def DT (N : Nat) (v4 : List Ac) (j5 : Int → Option Int) : Nat → (Int × Int) → Option Int
 | 0, _ => none
 | n5 + 1, v5 =>
  AM ((decide (v5.2 < (v4.length : Int))))
   (DT N v4 j5 n5 ((Nu 1000000000000000 ((wI .i64 (v5.1 * (Nu ((wI .i64 (v5.2 + 1))) 1000))))), (wI .i64 (v5.2 + 1))))
   (j5 v5.1)
def DX (N : Nat) (p0 : List (List Ac)) (j1 : Int → Option Int) : Nat → (Int × Int) → Option Int
 | 0, _ => none
 | n1 + 1, v1 =>
  AM ((decide (v1.2 < (p0.length : Int))))
   ((B3 p0 v1.2).bind fun v4 =>
   DT N v4 (fun (v6 : Int) =>
    DX N p0 j1 n1 (v6, (wI .i64 (v1.2 + 1)))) N (v1.1, 0))
   (j1 v1.1)
def F4 (N : Nat) (p0 : List (List Ac)) : Option Int :=
 DX N p0 (fun (v2 : Int) =>
  some v2) N (1, 0)
def CK (N : Nat) : Option Bool :=
 (DY N).bind fun v1 =>
 (HT N v1.1 v1.2).bind fun v2 =>
 (Ej N v1.1).bind fun v3 =>
 (EB N v1.1 v3.1 v1.2).bind fun v4 =>
 (Dd ((0 : Int) ≤ 2 ∧ 0 ≤ (2 : Int).toNat ∧ (2 : Int).toNat ≤ v1.2.length)).bind fun _ =>
 (Ch N v1.1 v3.1 (((v1.2.drop 0).take ((2 : Int).toNat - 0)))).bind fun v6 =>
 (Fo N v1.1 v2.1).bind fun v7 =>
 Bs (fun (v8 : Bool) =>
  some v8)
 fun j8 =>
 AM ((v2.2 == 0))
  ((Dd ((0 : Int) ≤ 2 ∧ 0 ≤ (2 : Int).toNat ∧ (2 : Int).toNat ≤ v1.2.length)).bind fun _ =>
  (Dd ((0 : Int) ≤ 2 ∧ (2 : Int).toNat ≤ v1.2.length ∧ v1.2.length ≤ v1.2.length)).bind fun _ =>
  (ED N v2.1 (([((v1.2.drop 0).take ((2 : Int).toNat - 0)), ((v1.2.drop (2 : Int).toNat).take (v1.2.length - (2 : Int).toNat))] : List (List Ac)))).bind fun v12 =>
  AM v12
   (AM ((v4.2 == 0))
    ((B3 v1.2 0).bind fun v15 =>
    (B3 v1.2 2).bind fun v16 =>
    (B3 v1.2 3).bind fun v17 =>
    (B3 v1.2 1).bind fun v18 =>
    (DB N v4.1 (([v15, v16, v17, v18] : List Ac))).bind fun v19 =>
    AM v19
     (AM v6.1
      (AM ((v6.2 == 0))
       (AM ((v7.2 == 0))
        (AM (((v7.1.length : Int) == 3))
         ((Gy N v1.1 v2.1).bind fun v25 =>
         AM v25
          ((F4 N v2.1).bind fun v27 =>
          j8 (v27 == 4))
          (j8 false))
         (j8 false))
        (j8 false))
       (j8 false))
      (j8 false))
     (j8 false))
    (j8 false))
   (j8 false))
  (j8 false)
def BX (_ : Nat) (p0 : List Int) (p1 : Int) : Option Int :=
 AM ((decide (p1 < (p0.length : Int))))
  ((B3 p0 p1).bind fun v2 =>
  some ((wI .i64 v2)))
  (some 0)
def Cp (_ : Nat) (p0 : Ad) (p1 : Int) : Option Int :=
 (B3 p0.fe p1).bind fun v1 =>
 (Dd (0 ≤ v1)).bind fun _ =>
 Bs (fun (v3 : Int) =>
  some v3)
 fun j3 =>
 (B3 p0.fa p1).bind fun v4 =>
 AM ((decide (0 ≤ v4)))
  ((B3 p0.fa p1).bind fun v6 =>
  (Dd (0 ≤ v6)).bind fun _ =>
  j3 (Kc .u8 ((CJ .u8 1 v1)) ((CJ .u8 1 v6))))
  (j3 (CJ .u8 1 v1))
def Bw (N : Nat) (p0 : Aa) (p1 : AZ) (j1 : ((List Int) × (List Int)) → Option Ad) : Nat → ((List Int) × (List Int) × Int) → Option Ad
 | 0, _ => none
 | n1 + 1, v1 =>
  AM ((decide (v1.2.2 < (p0.fb.length : Int))))
   ((B3 p0.fb v1.2.2).bind fun v4 =>
   (BX N p1.fe v1.2.2).bind fun v5 =>
   (Dd (v4 ≠ 0)).bind fun _ =>
   Bs (fun (v7 : Int) =>
    (Dd (v1.1.length + (([(Int.tmod v5 v4)] : List Int)).length ≤ Dz)).bind fun _ =>
    (Dd (v1.2.1.length + (([v7] : List Int)).length ≤ Dz)).bind fun _ =>
    Bw N p0 p1 j1 n1 (v1.1 ++ (([(Int.tmod v5 v4)] : List Int)), v1.2.1 ++ (([v7] : List Int)), (wI .i64 (v1.2.2 + 1))))
   fun j7 =>
   (BX N p1.fa v1.2.2).bind fun v8 =>
   (Dd (v4 ≠ 0)).bind fun _ =>
   AM ((decide (0 < (Int.tmod v8 v4))))
    ((Dd (v4 ≠ 0)).bind fun _ =>
    j7 (Int.tmod ((wI .i64 ((Int.tmod v5 v4) + (Int.tmod v8 v4)))) v4))
    (j7 (-1)))
   (j1 (v1.1, v1.2.1))
def AT (N : Nat) (p0 : Aa) (p1 : AZ) (v2 : (List Int) × (List Int)) (j14 : ((List Int)) → Option Ad) : Nat → ((List Int) × Int) → Option Ad
 | 0, _ => none
 | n14 + 1, v14 =>
  AM ((decide (v14.2 < (p0.fd.length : Int))))
   ((B3 p0.fd v14.2).bind fun v17 =>
   Bs (fun (v18 : Int) =>
    (Dd (v14.1.length + (([v18] : List Int)).length ≤ Dz)).bind fun _ =>
    AT N p0 p1 v2 j14 n14 (v14.1 ++ (([v18] : List Int)), (wI .i64 (v14.2 + 1))))
   fun j18 =>
   (Bd N v17).bind fun v19 =>
   AM v19
    ((B3 p0.fb v17.fg).bind fun v21 =>
    (Dd (0 ≤ v21)).bind fun _ =>
    (Cp N ((Ad.mk v2.1 v2.2 v14.1)) v17.fg).bind fun v23 =>
    (BX N p1.fc v14.2).bind fun v24 =>
    j18 (Kc .u8 v23 ((Ea .u8 ((wI .u8 v24)) ((wI .u8 ((CJ .u8 1 v21) - 1)))))))
    (j18 0))
   (j14 v14.1)
def CP (N : Nat) (p0 : Aa) (p1 : AZ) : Option Ad :=
 Bw N p0 p1 (fun (v2 : (List Int) × (List Int)) =>
  AT N p0 p1 v2 (fun (v15 : (List Int)) =>
   some ((Ad.mk v2.1 v2.2 v15))) N (([] : List Int), 0)) N (([] : List Int), ([] : List Int), 0)
def Be (N : Nat) (p2 : List Ac) (j10 : ((List Ac)) → Option Bool) : Nat → ((List Ac) × Int) → Option Bool
 | 0, _ => none
 | n10 + 1, v10 =>
  AM ((decide (v10.2 < (p2.length : Int))))
   ((B3 p2 ((wI .i64 ((wI .i64 ((p2.length : Int) - 1)) - v10.2)))).bind fun v13 =>
   (Dd (v10.1.length + (([v13] : List Ac)).length ≤ Dz)).bind fun _ =>
   Be N p2 j10 n10 (v10.1 ++ (([v13] : List Ac)), (wI .i64 (v10.2 + 1))))
   (j10 v10.1)
def BS (N : Nat) (p0 : A9) (p1 : AZ) (p2 : List Ac) : Option Bool :=
 (CR N p0).bind fun v1 =>
 Bs (fun (v2 : Bool) =>
  AM v2
   ((CK N).bind fun v7 =>
   some v7)
   ((CP N v1.1 p1).bind fun v8 =>
   (Ch N v1.1 v8 p2).bind fun v9 =>
   Be N p2 (fun (v11 : (List Ac)) =>
    (Ch N v1.1 v8 v11).bind fun v15 =>
    Bs (fun (v16 : Bool) =>
     some v16)
    fun j16 =>
    AM ((v9.1 == v15.1))
     (j16 (v9.2 == v15.2))
     (j16 false)) N (([] : List Ac), 0)))
 fun j2 =>
 (CK N).bind fun v3 =>
 AM ((!v3))
  (j2 true)
  (AM ((!v1.2))
   (j2 true)
   (j2 (decide (5 < (p2.length : Int)))))
def JY {α : Type} (w : α → Prop) (xs : List α) : Prop := ∀ x, x ∈ xs → w x
def RK (n : Int) : Prop := (Lit.int .i64 n).wf = true
def IY (n : Int) : Prop := (Lit.int .u8 n).wf = true
def Tl (n : Int) : Prop := (Lit.int .u16 n).wf = true
def FC (x : ET) : Prop := IY x.ff ∧ IY x.fg ∧ IY x.fj ∧ (fun _ => True) x.fq ∧ Tl x.ft ∧ Tl x.fu ∧ True
def Dj (x : A9) : Prop := (JY IY) x.fb ∧ (JY IY) x.fm ∧ (JY IY) x.fo ∧ (JY FC) x.fr ∧ True
def Dm (x : AZ) : Prop := (JY IY) x.fe ∧ (JY IY) x.fa ∧ (JY IY) x.fc ∧ True
def HU (x : Ac) : Prop := RK x.ff ∧ RK x.fh ∧ RK x.fi ∧ True
open Go.RowKit
open Go.Proofs
abbrev JK (x : ET) : List C := [.pure (.val (.int .u8 x.ff)), .pure (.val (.int .u8 x.fg)), .pure (.val (.int .u8 x.fj)), .pure (.val (.bool x.fq)), .pure (.val (.int .u16 x.ft)), .pure (.val (.int .u16 x.fu))]
abbrev BJ (x : A9) : List C := [sC (x.fb.map B5), sC (x.fm.map B5), sC (x.fo.map B5), sC (x.fr.map EA)]
abbrev BZ (x : AZ) : List C := [sC (x.fe.map B5), sC (x.fa.map B5), sC (x.fc.map B5)]
abbrev C0 (x : Ac) : List C := [iC x.ff, iC x.fh, iC x.fi]
abbrev Bz (x : Aq) : List C := [iC x.ff, iC x.fg, iC x.fj, .pure (.val (.bool x.fq)), sC (x.fp.map (FW eB)), sC (x.fk.map (FW eB))]
abbrev Al (x : Aa) : List C := [sC (x.fb.map Ak), sC (x.fm.map Ak), sC (x.fo.map Ak), sC (x.fd.map AC)]
abbrev AE (x : Ad) : List C := [sC (x.fe.map Ak), sC (x.fa.map Ak), sC (x.fc.map B5)]
abbrev Ff (x : An) : List C := [iC x.fv, iC x.fw, iC x.fy]
theorem Az : Tryd.prog.follows .mixedOrders = true := by kernel_rfl
theorem wq {X : Gi} {y : Code} {id : Nat} {ops : Array Oper} {dr : Bool} {Q : Exit → St → Prop} {st : St} {n : Nat} (hn : ops.size = n) (h : AS Tryd.prog X ops dr (fun st' => W Tryd.prog X y Q st') n 0 st []) : W Tryd.prog X (.seq (.region id ops dr) y) Q st := VR Az hn h
theorem wp {X : Gi} {y z : Code} {id : Nat} {ops : Array Oper} {dr : Bool} {Q : Exit → St → Prop} {st : St} {n : Nat} (hn : ops.size = n) (h : AS Tryd.prog X ops dr (fun st' => W Tryd.prog X y (L2 (W Tryd.prog X z Q) Q) st') n 0 st []) : W Tryd.prog X (.seq (.seq (.region id ops dr) y) z) Q st := AG (VR Az hn h)
theorem Nl : Df Tryd.prog 22 false = true := by kernel_rfl
theorem Tz : Df Tryd.prog 23 false = true := by kernel_rfl
theorem Vj : Df Tryd.prog 25 true = true := by kernel_rfl
theorem Vo : Df Tryd.prog 27 true = true := by kernel_rfl
theorem Pl : Df Tryd.prog 28 false = true := by kernel_rfl
theorem Bh : Df Tryd.prog 29 false = true := by kernel_rfl
theorem B6 : Df Tryd.prog 3 false = true := by kernel_rfl
theorem Hq : Df Tryd.prog 30 false = true := by kernel_rfl
theorem CI : Df Tryd.prog 32 true = true := by kernel_rfl
theorem IW : Df Tryd.prog 36 false = true := by kernel_rfl
theorem Br : Df Tryd.prog 38 true = true := by kernel_rfl
theorem Sg : Df Tryd.prog 4 false = true := by kernel_rfl
theorem FY : Df Tryd.prog 44 true = true := by kernel_rfl
theorem TH : Df Tryd.prog 5 false = true := by kernel_rfl
theorem Uk : Df Tryd.prog 61 false = true := by kernel_rfl
theorem U5 : Df Tryd.prog 63 true = true := by kernel_rfl
theorem Jp : Df Tryd.prog 64 false = true := by kernel_rfl
theorem Hc : Df Tryd.prog 66 true = true := by kernel_rfl
theorem NH : Df Tryd.prog 75 false = true := by kernel_rfl
theorem Pk : Df Tryd.prog 79 false = true := by kernel_rfl
theorem VV : Df Tryd.prog 9 false = true := by kernel_rfl
theorem Kl : Df Tryd.prog 93 true = true := by kernel_rfl
theorem VZ : LV Tryd.prog 4 = true := by kernel_rfl
theorem Uf : DZ Tryd.prog 28 24 = true := by kernel_rfl
theorem Li : DZ Tryd.prog 3 8 = true := by kernel_rfl
theorem So : DZ Tryd.prog 38 72 = true := by kernel_rfl
theorem SW : DZ Tryd.prog 4 1 = true := by kernel_rfl
theorem Qx : DZ Tryd.prog 44 24 = true := by kernel_rfl
theorem Uc : DZ Tryd.prog 66 80 = true := by kernel_rfl
theorem OU : DZ Tryd.prog 75 1 = true := by kernel_rfl
theorem Uz : DZ Tryd.prog 79 24 = true := by kernel_rfl
theorem SG : DZ Tryd.prog 93 24 = true := by kernel_rfl
theorem My : BN Tryd.prog 25 0 0 = true := by kernel_rfl
theorem RI : BN Tryd.prog 25 1 1 = true := by kernel_rfl
theorem Q7 : BN Tryd.prog 25 2 2 = true := by kernel_rfl
theorem MD : BN Tryd.prog 25 3 3 = true := by kernel_rfl
theorem RS : BN Tryd.prog 27 0 0 = true := by kernel_rfl
theorem RF : BN Tryd.prog 27 1 1 = true := by kernel_rfl
theorem RW : BN Tryd.prog 27 2 2 = true := by kernel_rfl
theorem Bn : BN Tryd.prog 32 0 0 = true := by kernel_rfl
theorem EV : BN Tryd.prog 32 1 1 = true := by kernel_rfl
theorem GM : BN Tryd.prog 32 2 2 = true := by kernel_rfl
theorem CO : BN Tryd.prog 32 3 3 = true := by kernel_rfl
theorem C3 : BN Tryd.prog 38 0 0 = true := by kernel_rfl
theorem B2 : BN Tryd.prog 38 1 1 = true := by kernel_rfl
theorem Dn : BN Tryd.prog 38 2 2 = true := by kernel_rfl
theorem Fg : BN Tryd.prog 44 0 0 = true := by kernel_rfl
theorem Ez : BN Tryd.prog 44 1 1 = true := by kernel_rfl
theorem HA : BN Tryd.prog 44 2 2 = true := by kernel_rfl
theorem RZ : BN Tryd.prog 63 0 0 = true := by kernel_rfl
theorem R2 : BN Tryd.prog 63 1 1 = true := by kernel_rfl
theorem RD : BN Tryd.prog 63 2 2 = true := by kernel_rfl
theorem Rz : BN Tryd.prog 63 3 3 = true := by kernel_rfl
theorem Q3 : BN Tryd.prog 63 4 4 = true := by kernel_rfl
theorem R1 : BN Tryd.prog 63 5 5 = true := by kernel_rfl
theorem Ex : BN Tryd.prog 66 0 0 = true := by kernel_rfl
theorem CQ : BN Tryd.prog 66 1 1 = true := by kernel_rfl
theorem Hn : BN Tryd.prog 66 2 2 = true := by kernel_rfl
theorem Ii : BN Tryd.prog 66 3 3 = true := by kernel_rfl
theorem I5 : BN Tryd.prog 66 4 4 = true := by kernel_rfl
theorem Ft : BN Tryd.prog 66 5 5 = true := by kernel_rfl
theorem VP : Ay Tryd.prog 10 = true := by kernel_rfl
theorem UN : Ay Tryd.prog 12 = true := by kernel_rfl
theorem TP : Ay Tryd.prog 13 = true := by kernel_rfl
theorem UG : Ay Tryd.prog 14 = true := by kernel_rfl
theorem UV : Ay Tryd.prog 15 = true := by kernel_rfl
theorem UX : Ay Tryd.prog 16 = true := by kernel_rfl
theorem TV : Ay Tryd.prog 18 = true := by kernel_rfl
theorem R5 : Ay Tryd.prog 19 = true := by kernel_rfl
theorem TR : Ay Tryd.prog 20 = true := by kernel_rfl
theorem Vs : Ay Tryd.prog 21 = true := by kernel_rfl
theorem Vg : Ay Tryd.prog 22 = true := by kernel_rfl
theorem U7 : Ay Tryd.prog 23 = true := by kernel_rfl
theorem Ul : Ay Tryd.prog 24 = true := by kernel_rfl
theorem Tj : Ay Tryd.prog 25 = true := by kernel_rfl
theorem UJ : Ay Tryd.prog 26 = true := by kernel_rfl
theorem RE : Ay Tryd.prog 27 = true := by kernel_rfl
theorem Vp : Ay Tryd.prog 28 = true := by kernel_rfl
theorem Te : Ay Tryd.prog 29 = true := by kernel_rfl
theorem UR : Ay Tryd.prog 30 = true := by kernel_rfl
theorem Rw : Ay Tryd.prog 31 = true := by kernel_rfl
theorem RP : Ay Tryd.prog 32 = true := by kernel_rfl
theorem TB : Ay Tryd.prog 33 = true := by kernel_rfl
theorem U0 : Ay Tryd.prog 34 = true := by kernel_rfl
theorem UH : Ay Tryd.prog 35 = true := by kernel_rfl
theorem U6 : Ay Tryd.prog 36 = true := by kernel_rfl
theorem Vz : Ay Tryd.prog 37 = true := by kernel_rfl
theorem TD : Ay Tryd.prog 38 = true := by kernel_rfl
theorem TQ : Ay Tryd.prog 39 = true := by kernel_rfl
theorem TA : Ay Tryd.prog 40 = true := by kernel_rfl
theorem SQ : Ay Tryd.prog 41 = true := by kernel_rfl
theorem TW : Ay Tryd.prog 42 = true := by kernel_rfl
theorem Qd : Ay Tryd.prog 43 = true := by kernel_rfl
theorem U4 : Ay Tryd.prog 44 = true := by kernel_rfl
theorem U3 : Ay Tryd.prog 45 = true := by kernel_rfl
theorem Ux : Ay Tryd.prog 46 = true := by kernel_rfl
theorem S8 : Ay Tryd.prog 47 = true := by kernel_rfl
theorem UY : Ay Tryd.prog 48 = true := by kernel_rfl
theorem Vk : Ay Tryd.prog 49 = true := by kernel_rfl
theorem VG : Ay Tryd.prog 50 = true := by kernel_rfl
theorem Vr : Ay Tryd.prog 51 = true := by kernel_rfl
theorem Ug : Ay Tryd.prog 52 = true := by kernel_rfl
theorem UO : Ay Tryd.prog 53 = true := by kernel_rfl
theorem RB : Ay Tryd.prog 54 = true := by kernel_rfl
theorem UK : Ay Tryd.prog 55 = true := by kernel_rfl
theorem Vc : Ay Tryd.prog 56 = true := by kernel_rfl
theorem VD : Ay Tryd.prog 57 = true := by kernel_rfl
theorem Vu : Ay Tryd.prog 58 = true := by kernel_rfl
theorem U9 : Ay Tryd.prog 59 = true := by kernel_rfl
theorem V0 : Ay Tryd.prog 6 = true := by kernel_rfl
theorem UL : Ay Tryd.prog 60 = true := by kernel_rfl
theorem VN : Ay Tryd.prog 61 = true := by kernel_rfl
theorem Vm : Ay Tryd.prog 62 = true := by kernel_rfl
theorem Uw : Ay Tryd.prog 63 = true := by kernel_rfl
theorem Vw : Ay Tryd.prog 64 = true := by kernel_rfl
theorem Ud : Ay Tryd.prog 65 = true := by kernel_rfl
theorem VM : Ay Tryd.prog 66 = true := by kernel_rfl
theorem UP : Ay Tryd.prog 67 = true := by kernel_rfl
theorem VE : Ay Tryd.prog 68 = true := by kernel_rfl
theorem VB : Ay Tryd.prog 69 = true := by kernel_rfl
theorem VT : Ay Tryd.prog 7 = true := by kernel_rfl
theorem T9 : Ay Tryd.prog 70 = true := by kernel_rfl
theorem VC : Ay Tryd.prog 71 = true := by kernel_rfl
theorem VJ : Ay Tryd.prog 72 = true := by kernel_rfl
theorem Vl : Ay Tryd.prog 73 = true := by kernel_rfl
theorem UW : Ay Tryd.prog 74 = true := by kernel_rfl
theorem Vq : Ay Tryd.prog 75 = true := by kernel_rfl
theorem Uq : Ay Tryd.prog 76 = true := by kernel_rfl
theorem T8 : Ay Tryd.prog 78 = true := by kernel_rfl
theorem UF : Ay Tryd.prog 79 = true := by kernel_rfl
theorem VY : Ay Tryd.prog 8 = true := by kernel_rfl
theorem VA : Ay Tryd.prog 80 = true := by kernel_rfl
theorem VH : Ay Tryd.prog 81 = true := by kernel_rfl
theorem UM : Ay Tryd.prog 82 = true := by kernel_rfl
theorem U2 : Ay Tryd.prog 83 = true := by kernel_rfl
theorem U8 : Ay Tryd.prog 84 = true := by kernel_rfl
theorem Vn : Ay Tryd.prog 86 = true := by kernel_rfl
theorem Uh : Ay Tryd.prog 87 = true := by kernel_rfl
theorem UZ : Ay Tryd.prog 88 = true := by kernel_rfl
theorem VO : Ay Tryd.prog 89 = true := by kernel_rfl
theorem UA : Ay Tryd.prog 9 = true := by kernel_rfl
theorem Vy : Ay Tryd.prog 94 = true := by kernel_rfl
theorem O6 : Lv Tryd.prog 110 .u64 = true := by kernel_rfl
theorem OT : Lv Tryd.prog 123 .u32 = true := by kernel_rfl
theorem Sy : Lv Tryd.prog 126 .u64 = true := by kernel_rfl
theorem Sr : Lv Tryd.prog 3 .i64 = true := by kernel_rfl
theorem VK : Lv Tryd.prog 75 .u8 = true := by kernel_rfl
theorem T4 : GK Tryd.prog 32 = some [(0, 1), (1, 1), (2, 1), (3, 1)] := by kernel_rfl
theorem H5 : GK Tryd.prog 38 = some [(0, 1), (1, 1), (2, 1)] := by kernel_rfl
theorem Sm : GK Tryd.prog 44 = some [(0, 1), (1, 1), (2, 1)] := by kernel_rfl
theorem Vh : GK Tryd.prog 66 = some [(0, 1), (1, 1), (2, 1), (3, 1), (4, 1), (5, 1)] := by kernel_rfl
theorem NY : GK Tryd.prog 93 = some [(0, 1), (1, 1), (2, 1)] := by kernel_rfl
theorem Sz : P6 Tryd.prog 44 = some [0, 0, 0] := by kernel_rfl
theorem H6 : sliceB Tryd.prog 114 93 = true := by kernel_rfl
theorem Qm : sliceB Tryd.prog 132 9 = true := by kernel_rfl
theorem K2 : sliceB Tryd.prog 22 5 = true := by kernel_rfl
theorem Qa : sliceB Tryd.prog 23 63 = true := by kernel_rfl
theorem Bg : sliceB Tryd.prog 28 44 = true := by kernel_rfl
theorem Ax : sliceB Tryd.prog 29 3 = true := by kernel_rfl
theorem DP : sliceB Tryd.prog 30 66 = true := by kernel_rfl
theorem DD : sliceB Tryd.prog 36 75 = true := by kernel_rfl
theorem Hd : sliceB Tryd.prog 48 28 = true := by kernel_rfl
theorem Ha : sliceB Tryd.prog 53 38 = true := by kernel_rfl
theorem Fz : sliceB Tryd.prog 64 79 = true := by kernel_rfl
theorem F5 : sliceB Tryd.prog 79 4 = true := by kernel_rfl
theorem Qi : (Tryd.prog.underlying 110).isSome = true := by kernel_rfl
theorem O4 : (Tryd.prog.underlying 123).isSome = true := by kernel_rfl
theorem SF : (Tryd.prog.underlying 126).isSome = true := by kernel_rfl
theorem Vi : (Tryd.prog.underlying 3).isSome = true := by kernel_rfl
theorem Tn : (Tryd.prog.underlying 5).isSome = true := by kernel_rfl
theorem Vx : OZ Tryd.prog 9 = true := by kernel_rfl
theorem VI : Fk Tryd.prog 25 4 = true := by kernel_rfl
theorem VF : Fk Tryd.prog 27 3 = true := by kernel_rfl
theorem Nn : Fk Tryd.prog 28 1 = true := by kernel_rfl
theorem N9 : Fk Tryd.prog 29 1 = true := by kernel_rfl
theorem Dk : Fk Tryd.prog 3 1 = true := by kernel_rfl
theorem US : Fk Tryd.prog 30 1 = true := by kernel_rfl
theorem Ce : Fk Tryd.prog 32 4 = true := by kernel_rfl
theorem UE : Fk Tryd.prog 36 1 = true := by kernel_rfl
theorem AH : Fk Tryd.prog 38 3 = true := by kernel_rfl
theorem PK : Fk Tryd.prog 4 1 = true := by kernel_rfl
theorem B9 : Fk Tryd.prog 44 3 = true := by kernel_rfl
theorem UU : Fk Tryd.prog 5 1 = true := by kernel_rfl
theorem Ts : Fk Tryd.prog 63 6 = true := by kernel_rfl
theorem T3 : Fk Tryd.prog 64 1 = true := by kernel_rfl
theorem DN : Fk Tryd.prog 66 6 = true := by kernel_rfl
theorem GZ : Fk Tryd.prog 75 1 = true := by kernel_rfl
theorem NE : Fk Tryd.prog 79 1 = true := by kernel_rfl
theorem VU : Fk Tryd.prog 9 1 = true := by kernel_rfl
theorem E7 : Fk Tryd.prog 93 3 = true := by kernel_rfl
theorem Q8 : CZ Tryd.prog 28 = some (.slice none 0 0) := by kernel_rfl
theorem Ks : CZ Tryd.prog 3 = some (.int .i64 0) := by kernel_rfl
theorem NZ : CZ Tryd.prog 32 = some (.agg #[.slice none 0 0, .slice none 0 0, .slice none 0 0, .slice none 0 0]) := by kernel_rfl
theorem CM : CZ Tryd.prog 38 = some (.agg #[.slice none 0 0, .slice none 0 0, .slice none 0 0]) := by kernel_rfl
theorem TI : CZ Tryd.prog 4 = some (.bool false) := by kernel_rfl
theorem H1 : CZ Tryd.prog 44 = some (.agg #[.int .i64 0, .int .i64 0, .int .i64 0]) := by kernel_rfl
theorem UQ : CZ Tryd.prog 63 = some (.agg #[.int .u8 0, .int .u8 0, .int .u8 0, .bool false, .int .u16 0, .int .u16 0]) := by kernel_rfl
theorem KQ : CZ Tryd.prog 66 = some (.agg #[.int .i64 0, .int .i64 0, .int .i64 0, .bool false, .slice none 0 0, .slice none 0 0]) := by kernel_rfl
theorem Of : CZ Tryd.prog 75 = some (.int .u8 0) := by kernel_rfl
theorem Un : CZ Tryd.prog 79 = some (.slice none 0 0) := by kernel_rfl
theorem VW : CZ Tryd.prog 9 = some (.string ⟨#[]⟩) := by kernel_rfl
theorem HL : CZ Tryd.prog 93 = some (.agg #[.int .i64 0, .int .i64 0, .int .i64 0]) := by kernel_rfl
set_option maxRecDepth 10000
theorem Gn (N : Nat) (p0 : List Int) (p1 : Int) (r : Int) (h : Cs N p0 p1 = some r) : Ar Tryd.prog 18 [pD (.sl (p0.map B5)), iD p1] [] (iD r) := by
 unfold Cs at h
 refine cw (n := 14) (rs := [.tmp 4]) Tryd.func18 fun w0 S0 => ?_
 refine wq rfl (qa rfl (Ab (wp rfl (qw 2 rfl (AA K2 rfl (A3 rfl (Ab ?_)))))))
 refine Bp h (fun h => ?_) fun h => ?_
 ·refine wq rfl (qw 2 rfl ?_)
  refine CB h fun v2 a2 b2 h => qi K2 UU a2 (Aj b2) rfl (qk TH rfl (Hv Tn Sr rfl (qe rfl ?_)))
  obtain rfl := sj h
  refine Af (sm [] [(4, iD ((wI .i64 v2)))] [] rfl rfl) (Ap ?_)
  exact ⟨⟨[_], tm, rfl⟩, tv⟩
 ·refine Am (wq rfl (qe rfl ?_))
  obtain rfl := sj h
  refine Af (sm [] [(4, iD 0)] [] rfl rfl) (Ap ?_)
  exact ⟨⟨[_], tm, rfl⟩, tv⟩
theorem Dl (N : Nat) (p0 : Aq) (r : Bool) (h : Bd N p0 = some r) : Ar Tryd.prog 19 [.e (.agg (Bz p0))] [] (bD r) := by
 unfold Bd at h
 refine cw (n := 11) (rs := [.tmp 2]) Tryd.func19 fun w0 S0 => ?_
 refine wq rfl (qb rfl (qe rfl ?_))
 refine AO h (fun v1 => mk [(2, bD v1)] []) (fun j1 h => ?_) (fun v1 h => ?_)
 ·refine Ai Az rfl (qf Ex rfl (ql B6 rfl (BC rfl (qm rfl ?_))))
  refine DO 6 h rfl (fun h => ?_) fun h => ?_
  ·refine qw 3 rfl (qp rfl (qe rfl ?_))
   exact sn [] h
  ·refine qf Ex rfl (ql B6 rfl (BC rfl (qp rfl (qe rfl ?_))))
   exact sn [] h
 ·obtain rfl := sj h
  refine Af (sm [] [(2, bD v1)] [] rfl rfl) (Ap ?_)
  exact ⟨⟨[_], tm, rfl⟩, tv⟩
theorem Gx (N : Nat) (p0 : Int) (p1 : Int) (p2 : Int) (p3 : Bool) (r : (List (List Bool))) (h : Ct N p0 p1 p2 p3 = some r) : Ar Tryd.prog 20 [iD p0, iD p1, pD (.val (.int .u16 p2)), bD p3] [(1, r.map (FW eB))] (oD (.own 0)) := by
 unfold Ct at h
 refine cw (n := 47) (rs := [.tmp 8]) Tryd.func20 fun w0 S0 => ?_
 refine wq rfl (qa rfl (Ab (wq rfl (qa rfl (Ab (wp rfl (qe rfl ?_)))))))
 refine AF (L := Bm N p0 p1 p2 p3) h (fun v1 => mk [(0, iD p0), (1, iD p1), (2, pD (.val (.int .u16 p2))), (3, bD p3), (9, oD (.own 2001)), (10, iD v1.2)] [(2001, .vec 1 (v1.1.map (FW eB)))]) (fun v2 => mk [(9, oD (.own 2002))] [(2002, .vec 1 (v2.map (FW eB)))]) (fun _ _ => rfl) ((BV 9 2010 1 rfl rfl rfl).trans (sm [(2001, 2010)] _ _ rfl rfl)) (fun j1 n1 v1 h => ?_) (fun v2 s h hs => ?_)
 ·unfold Bm at h
  refine wp rfl (qw 2 rfl (A3 rfl (Ab ?_)))
  refine Bp h (fun h => ?_) fun h => ?_
  ·refine Am (AG (AP (wq rfl (qa rfl (Ab (wp rfl (qe rfl ?_)))))))
   refine AF (L := Bl N p1 p2 p3 v1) h (fun v4 => mk [(0, iD p0), (1, iD p1), (2, pD (.val (.int .u16 p2))), (3, bD p3), (9, oD (.own 2003)), (10, iD v1.2), (11, oD (.own 2004)), (12, iD v4.2)] [(2003, .vec 1 (v1.1.map (FW eB))), (2004, .vec 1 (v4.1.map eB))]) (fun v5 => mk [(0, iD p0), (1, iD p1), (2, pD (.val (.int .u16 p2))), (3, bD p3), (9, oD (.own 2005)), (10, iD v1.2), (11, oD (.own 2006))] [(2005, .vec 1 (v1.1.map (FW eB))), (2006, .vec 1 (v5.map eB))]) (fun _ _ => rfl) ((BV 11 2009 1 rfl rfl rfl).trans (sm [(2003, 2001), (2004, 2009)] _ _ rfl rfl)) (fun j4 n4 v4 h => ?_) (fun v5 s h hs => ?_)
   ·unfold Bl at h
    refine wp rfl (qw 2 rfl (A3 rfl (Ab ?_)))
    refine Bp h (fun h => ?_) fun h => ?_
    ·refine Am ?_
     refine AO h (fun v7 => mk [(0, iD p0), (1, iD p1), (2, pD (.val (.int .u16 p2))), (3, bD p3), (9, oD (.own 2007)), (10, iD v1.2), (11, oD (.own 2008)), (12, iD v4.2)] [(2007, .vec 1 (v1.1.map (FW eB))), (2008, .vec 1 (v7.map eB))]) (fun j7 h => ?_) (fun v7 h => ?_)
     ·refine AP (Ai Az rfl (qw 3 rfl ?_))
      refine DO 25 h rfl (fun h => ?_) fun h => ?_
      ·refine qw 2 rfl (BC rfl (qp rfl (qm rfl ?_)))
       refine DO 30 h rfl (fun h => ?_) fun h => ?_
       ·refine qw 8 rfl (qp rfl (Ev F5 PK TI rfl ?_))
        refine EN h fun c10 h => Dp (f := eB) F5 F5 PK SW TI c10 rfl (qe rfl ?_)
        exact sn [(2007, 2003), (2008, 41)] h
       ·refine qw 2 rfl (I3 rfl (qm rfl (Bt rfl ?_)))
        refine EN h fun c11 h => Ib rfl c11 (H3 rfl (by decide) (BC rfl (qp rfl (Ev F5 PK TI rfl ?_))))
        refine EN h fun c12 h => Dp (f := eB) F5 F5 PK SW TI c12 rfl (qe rfl ?_)
        exact sn [(2007, 2003), (2008, 41)] h
      ·refine qw 3 rfl (qp rfl (qw 3 rfl (I3 rfl (qm rfl (Bt rfl ?_)))))
       refine EN h fun c13 h => Ib rfl c13 (H3 rfl (by decide) (BC rfl (qp rfl (Ev F5 PK TI rfl ?_))))
       refine EN h fun c14 h => Dp (f := eB) F5 F5 PK SW TI c14 rfl (qe rfl ?_)
       exact sn [(2007, 2003), (2008, 41)] h
     ·refine Ai Az rfl (qm rfl (Bt rfl (qe rfl ?_)))
      exact sn [(2003, 2007), (2004, 2008)] h
    ·refine A5 ?_
     exact sn [(2005, 2003), (2006, 2004)] h
   ·refine Af hs (Ai Az rfl (qw 2 rfl (Dy (Ba 2006 _ _ rfl rfl) (Ev Fz NE Un rfl ?_))))
    refine EN h fun c15 h => Dp (f := (FW eB)) Fz Fz NE Uz Un c15 rfl (qa rfl (Ab (Ai Az rfl (qm rfl (Bt rfl (qe rfl ?_))))))
    exact sn [(2001, 45)] h
  ·refine A5 ?_
   exact sn [(2002, 2001)] h
 ·refine Af hs (wq rfl (qm rfl (qe rfl ?_)))
  obtain rfl := sj h
  refine Af (sm [(1000, 2002)] [(8, oD (.own 1000))] [(1000, .vec 1 (v2.map (FW eB)))] rfl rfl) (Ap ?_)
  exact ⟨⟨[_], tm, rfl⟩, ⟨rfl, tv⟩⟩
theorem Jy (N : Nat) (p0 : A9) (r : Aa × Bool) (h : CR N p0 = some r) : Ar Tryd.prog 6 [.e (.agg (BJ p0))] [(1, r.1.fb.map Ak), (1, r.1.fm.map Ak), (1, r.1.fo.map Ak), (6, r.1.fd.map AC)] (.tup [.agg [.own 0, .own 1, .own 2, .own 3], .one (.pure (.val (.bool r.2)))]) := by
 unfold CR at h
 refine cw (n := 152) (rs := [.cell 2 32, .tmp 3]) Tryd.func6 fun w0 S0 => ?_
 refine wq rfl (qb rfl (qz NZ rfl (qa rfl (Ab (AG ?_)))))
 refine AO h (fun v1 => mk [(1, oD (.ptr 1 0)), (2, oD (.ptr 2 0)), (19, bD v1)] [(1, .box (BJ p0)), (2, .box [.pure (.nil0), .pure (.nil0), .pure (.nil0), .pure (.nil0)])]) (fun j1 h => ?_) (fun v1 h => ?_)
 ·refine Ai Az rfl (qf My rfl (ql Nl rfl (AA K2 rfl (Ew rfl (qm rfl ?_)))))
  refine DO 14 h rfl (fun h => ?_) fun h => ?_
  ·refine qw 4 rfl (qp rfl (Ab ?_))
   exact sn [] h
  ·refine qf MD rfl (ql Tz rfl (AA Qa rfl (Ew rfl (qp rfl (Ab ?_)))))
   exact sn [] h
 ·refine Bp h (fun h => ?_) fun h => ?_
  ·refine wq rfl (Bv NZ T4 rfl (qs Ce rfl (qe rfl ?_)))
   obtain rfl := sj h
   refine Af ((AD 2 0 2001 1 _ rfl rfl rfl rfl).trans ((AD 2 1 2002 1 _ rfl rfl rfl rfl).trans ((AD 2 2 2003 1 _ rfl rfl rfl rfl).trans ((AD 2 3 2004 6 _ rfl rfl rfl rfl).trans (sm [(1000, 2001), (1001, 2002), (1002, 2003), (1003, 2004)] [(2, oD (.ptr 2 0)), (3, bD false)] [(2, .box [.own 1000, .own 1001, .own 1002, .own 1003]), (1000, .vec 1 ((([] : List Int)).map Ak)), (1001, .vec 1 ((([] : List Int)).map Ak)), (1002, .vec 1 ((([] : List Int)).map Ak)), (1003, .vec 6 ((([] : List Aq)).map AC))] rfl rfl))))) (Ap ?_)
   exact ⟨⟨[_, _], ⟨.cellN _ _ _ _ _ _ _ rfl rfl CI Ce rfl rfl (Hi rfl), tm⟩, rfl⟩, ⟨rfl, rfl, rfl, rfl, tv⟩⟩
  ·refine Am (wq rfl (qz NZ rfl (Ab (wp rfl (qe rfl ?_)))))
   refine AF (L := Bx N p0) h (fun v4 => mk [(1, oD (.ptr 1 0)), (2, oD (.ptr 2 0)), (4, oD (.ptr 4 0)), (5, iD v4.2.2.2)] [(1, .box (BJ p0)), (2, .box [.pure (.nil0), .pure (.nil0), .pure (.nil0), .pure (.nil0)]), (4, .box [.own 2005, .own 2006, .own 2007, .pure (.nil0)]), (2005, .vec 1 (v4.1.map Ak)), (2006, .vec 1 (v4.2.1.map Ak)), (2007, .vec 1 (v4.2.2.1.map Ak))]) (fun v5 => mk [(1, oD (.ptr 1 0)), (2, oD (.ptr 2 0)), (4, oD (.ptr 4 0))] [(1, .box (BJ p0)), (2, .box [.pure (.nil0), .pure (.nil0), .pure (.nil0), .pure (.nil0)]), (4, .box [.own 2008, .own 2009, .own 2010, .pure (.nil0)]), (2008, .vec 1 (v5.1.map Ak)), (2009, .vec 1 (v5.2.1.map Ak)), (2010, .vec 1 (v5.2.2.map Ak))]) (fun _ _ => rfl) ((AD 4 0 2011 1 _ rfl rfl rfl rfl).trans ((AD 4 1 2012 1 _ rfl rfl rfl rfl).trans ((AD 4 2 2013 1 _ rfl rfl rfl rfl).trans (sm [(2005, 2011), (2006, 2012), (2007, 2013)] _ _ rfl rfl)))) (fun j4 n4 v4 h => ?_) (fun v5 s h hs => ?_)
   ·unfold Bx at h
    refine wp rfl (qm rfl (qf My rfl (ql Nl rfl (AA K2 rfl (A3 rfl (Ab ?_))))))
    refine Bp h (fun h => ?_) fun h => ?_
    ·refine Am (AG (AP (wq rfl (qf My rfl (ql Nl rfl (qm rfl ?_))))))
     refine CB h fun v7 a7 b7 h => qi K2 UU a7 (Aj b7) rfl (qk TH rfl (H3 rfl (by decide) (Hv Tn Sr rfl (Bt rfl (qa rfl (Ab (wq rfl (qf Bn rfl (ql Bh rfl (qm rfl (Ev Ax Dk Ks rfl ?_)))))))))))
     refine EN h fun c8 h => Dp (f := Ak) Ax Ax Dk Li Ks c8 rfl (qf Bn rfl (qs N9 rfl (Ab (wq rfl (qf EV rfl (ql Bh rfl (qf RI rfl (ql Nl rfl (qm rfl ?_)))))))))
     refine BT h fun v9 a9 h => As [] (Gn N p0.fm v4.2.2.2 v9 a9) TV rfl (qm rfl ?_)
     refine EN h fun c10 h => H3 rfl c10 (Ev Ax Dk Ks rfl ?_)
     refine EN h fun c11 h => Dp (f := Ak) Ax Ax Dk Li Ks c11 rfl (qf EV rfl (qs N9 rfl (AI (by kernel_rfl) (Ai Az rfl (qf GM rfl (ql Bh rfl (qf Q7 rfl (ql Nl rfl (qm rfl ?_)))))))))
     refine BT h fun v12 a12 h => As [] (Gn N p0.fo v4.2.2.2 v12 a12) TV rfl (qm rfl ?_)
     refine EN h fun c13 h => H3 rfl c13 (Ev Ax Dk Ks rfl ?_)
     refine EN h fun c14 h => Dp (f := Ak) Ax Ax Dk Li Ks c14 rfl (qf GM rfl (qs N9 rfl (AI (by kernel_rfl) (Ai Az rfl (qm rfl (Bt rfl (qe rfl ?_)))))))
     exact sn [(2005, 40), (2006, 51), (2007, 62)] h
    ·refine A5 ?_
     exact sn [(2008, 2005), (2009, 2006), (2010, 2007)] h
   ·refine Af hs (wp rfl (qe rfl ?_))
    refine AF (L := AX N p0 v5) h (fun v15 => mk [(1, oD (.ptr 1 0)), (2, oD (.ptr 2 0)), (4, oD (.ptr 4 0)), (7, iD v15.2)] [(1, .box (BJ p0)), (2, .box [.pure (.nil0), .pure (.nil0), .pure (.nil0), .pure (.nil0)]), (4, .box [.own 2014, .own 2015, .own 2016, .own 2017]), (2014, .vec 1 (v5.1.map Ak)), (2015, .vec 1 (v5.2.1.map Ak)), (2016, .vec 1 (v5.2.2.map Ak)), (2017, .vec 6 (v15.1.map AC))]) (fun v16 => mk [(2, oD (.ptr 2 0)), (4, oD (.ptr 4 0))] [(2, .box [.pure (.nil0), .pure (.nil0), .pure (.nil0), .pure (.nil0)]), (4, .box [.own 2018, .own 2019, .own 2020, .own 2021]), (2018, .vec 1 (v5.1.map Ak)), (2019, .vec 1 (v5.2.1.map Ak)), (2020, .vec 1 (v5.2.2.map Ak)), (2021, .vec 6 (v16.map AC))]) (fun _ _ => rfl) ((AD 4 3 2039 6 _ rfl rfl rfl rfl).trans (sm [(2014, 2008), (2015, 2009), (2016, 2010), (2017, 2039)] _ _ rfl rfl)) (fun j15 n15 v15 h => ?_) (fun v16 s h hs => ?_)
    ·unfold AX at h
     refine AG ?_
     refine AO h (fun v17 => mk [(1, oD (.ptr 1 0)), (2, oD (.ptr 2 0)), (4, oD (.ptr 4 0)), (7, iD v15.2), (74, bD v17)] [(1, .box (BJ p0)), (2, .box [.pure (.nil0), .pure (.nil0), .pure (.nil0), .pure (.nil0)]), (4, .box [.own 2022, .own 2023, .own 2024, .own 2025]), (2022, .vec 1 (v5.1.map Ak)), (2023, .vec 1 (v5.2.1.map Ak)), (2024, .vec 1 (v5.2.2.map Ak)), (2025, .vec 6 (v15.1.map AC))]) (fun j17 h => ?_) (fun v17 h => ?_)
     ·refine Ai Az rfl (qm rfl (qf MD rfl (ql Tz rfl (AA Qa rfl (A3 rfl (qm rfl ?_))))))
      refine DO 69 h rfl (fun h => ?_) fun h => ?_
      ·refine qf Bn rfl (ql Bh rfl (FX Ax rfl (Ew rfl (qp rfl (Ab ?_)))))
       exact sn [(2022, 2014), (2023, 2015), (2024, 2016), (2025, 2017)] h
      ·refine qw 4 rfl (qp rfl (Ab ?_))
       exact sn [(2022, 2014), (2023, 2015), (2024, 2016), (2025, 2017)] h
     ·refine Bp h (fun h => ?_) fun h => ?_
      ·refine Am (AG (AP (wq rfl (qf MD rfl (ql Tz rfl (qm rfl ?_))))))
       refine CB h fun v20 a20 b20 h => qi Qa Ts a20 (Aj b20) rfl (qK U5 Ts rfl (qz UQ rfl (qs Ts rfl (Ab (wq rfl (qf RZ rfl (ql TH rfl (H3 rfl (by decide) (Hv Tn Sr rfl (Bt rfl (qf R2 rfl (ql TH rfl (Hv Tn Sr rfl (qf Bn rfl (ql Bh rfl (FX Ax rfl ?_))))))))))))))))
       refine EN h fun c21 h => H3 rfl c21 (qf RD rfl (ql TH rfl (Hv Tn Sr rfl (qf Bn rfl (ql Bh rfl (FX Ax rfl ?_))))))
       refine EN h fun c22 h => H3 rfl c22 (Bv KQ Vh rfl (qz KQ rfl (qs DN rfl (AI (by kernel_rfl) ?_))))
       refine AO h (fun v23 => mk [(1, oD (.ptr 1 0)), (2, oD (.ptr 2 0)), (4, oD (.ptr 4 0)), (7, iD v15.2), (8, oD (.ptr 8 0)), (9, oD (.ptr 9 0))] [(1, .box (BJ p0)), (2, .box [.pure (.nil0), .pure (.nil0), .pure (.nil0), .pure (.nil0)]), (4, .box [.own 2026, .own 2027, .own 2028, .own 2029]), (8, .box (JK v20)), (9, .box [iC ((wI .i64 (1 + (wI .i64 ((Int.tmod v20.ff 4)))))), iC ((Int.tmod ((wI .i64 v20.fg)) ((v5.1.length : Int)))), iC ((Int.tmod ((wI .i64 v20.fj)) ((v5.1.length : Int)))), .pure (.val (.bool v23)), .pure (.nil0), .pure (.nil0)]), (2026, .vec 1 (v5.1.map Ak)), (2027, .vec 1 (v5.2.1.map Ak)), (2028, .vec 1 (v5.2.2.map Ak)), (2029, .vec 6 (v15.1.map AC))]) (fun j23 h => ?_) (fun v23 h => ?_)
       ·refine Ai Az rfl (qf Rz rfl (ql Sg rfl (qm rfl ?_)))
        refine DO 104 h rfl (fun h => ?_) fun h => ?_
        ·refine qL Hc DN rfl ?_
         refine BT h fun v25 a25 h => As [] (Dl N ((Aq.mk ((wI .i64 (1 + (wI .i64 ((Int.tmod v20.ff 4)))))) ((Int.tmod ((wI .i64 v20.fg)) ((v5.1.length : Int)))) ((Int.tmod ((wI .i64 v20.fj)) ((v5.1.length : Int)))) false (([] : List (List Bool))) (([] : List (List Bool))))) v25 a25) R5 rfl (Ck rfl (qp rfl (qf Ii rfl (qs PK rfl (Ab ?_)))))
         exact sn [(2026, 2022), (2027, 2023), (2028, 2024), (2029, 2025)] h
        ·refine qw 3 rfl (qp rfl (qf Ii rfl (qs PK rfl (Ab ?_))))
         exact sn [(2026, 2022), (2027, 2023), (2028, 2024), (2029, 2025)] h
       ·refine wq rfl (qf Bn rfl (ql Bh rfl (qf CQ rfl (ql B6 rfl ?_))))
        refine CB h fun v26 a26 b26 h => qI Ax Dk a26 (Aj b26) rfl (qj B6 (Aj b26) rfl (qf Bn rfl (ql Bh rfl (qf Hn rfl (ql B6 rfl ?_)))))
        refine CB h fun v27 a27 b27 h => qI Ax Dk a27 (Aj b27) rfl (qj B6 (Aj b27) rfl (qf Q3 rfl (ql Uk rfl ?_)))
        refine BT h fun v28 a28 h => As [2030] (Gx N v26 v27 v20.ft false v28 a28) TR rfl (qf I5 rfl (qs T3 rfl (AI (by kernel_rfl) ?_)))
        refine AO h (fun v29 => mk [(1, oD (.ptr 1 0)), (2, oD (.ptr 2 0)), (4, oD (.ptr 4 0)), (7, iD v15.2), (9, oD (.ptr 9 0))] [(1, .box (BJ p0)), (2, .box [.pure (.nil0), .pure (.nil0), .pure (.nil0), .pure (.nil0)]), (4, .box [.own 2031, .own 2032, .own 2033, .own 2034]), (9, .box [iC ((wI .i64 (1 + (wI .i64 ((Int.tmod v20.ff 4)))))), iC ((Int.tmod ((wI .i64 v20.fg)) ((v5.1.length : Int)))), iC ((Int.tmod ((wI .i64 v20.fj)) ((v5.1.length : Int)))), .pure (.val (.bool v23)), .own 2035, .own 2036]), (2031, .vec 1 (v5.1.map Ak)), (2032, .vec 1 (v5.2.1.map Ak)), (2033, .vec 1 (v5.2.2.map Ak)), (2034, .vec 6 (v15.1.map AC)), (2035, .vec 1 (v28.map (FW eB))), (2036, .vec 1 (v29.map (FW eB)))]) (fun j29 h => ?_) (fun v29 h => ?_)
        ·refine wq rfl (qf Ex rfl (ql B6 rfl (BC rfl (Ab ?_))))
         refine Bp h (fun h => ?_) fun h => ?_
         ·refine Ai Az rfl (qf Bn rfl (ql Bh rfl (qf CQ rfl (ql B6 rfl ?_))))
          refine CB h fun v31 a31 b31 h => qI Ax Dk a31 (Aj b31) rfl (qj B6 (Aj b31) rfl (qf Bn rfl (ql Bh rfl (qf CQ rfl (ql B6 rfl ?_)))))
          refine CB h fun v32 a32 b32 h => qI Ax Dk a32 (Aj b32) rfl (qj B6 (Aj b32) rfl (qf R1 rfl (ql Uk rfl ?_)))
          refine BT h fun v33 a33 h => As [2037] (Gx N v31 v32 v20.fu true v33 a33) TR rfl (qf Ft rfl (qs T3 rfl (AI (by kernel_rfl) ?_)))
          exact sn [(2031, 2026), (2032, 2027), (2033, 2028), (2034, 2029), (2035, 2030), (2036, 2037)] h
         ·refine Am ?_
          exact Us _ h ((AD 9 5 2038 1 _ rfl rfl rfl rfl).trans (sm [(2031, 2026), (2032, 2027), (2033, 2028), (2034, 2029), (2035, 2030), (2036, 2038)] _ _ rfl rfl))
        ·refine Ai Az rfl (qf CO rfl (ql Hq rfl (qL Hc DN rfl (Dy (Ba 2035 _ _ rfl rfl) (Dy (Ba 2036 _ _ rfl rfl) (Ev DP DN KQ rfl ?_))))))
         refine EN h fun c34 h => Dp (f := AC) DP DP DN Uc KQ c34 rfl (qf CO rfl (qs US rfl (Ab (Ai Az rfl (qm rfl (Bt rfl (qe rfl ?_)))))))
         exact sn [(2014, 2031), (2015, 2032), (2016, 2033), (2017, 149)] h
      ·refine A5 ?_
       exact sn [(2018, 2022), (2019, 2023), (2020, 2024), (2021, 2025)] h
    ·refine Af hs (wq rfl (qL CI Ce rfl (qs Ce rfl (qe rfl ?_))))
     obtain rfl := sj h
     refine Af (sm [(1000, 2018), (1001, 2019), (1002, 2020), (1003, 2021)] [(2, oD (.ptr 2 0)), (3, bD true)] [(2, .box [.own 1000, .own 1001, .own 1002, .own 1003]), (1000, .vec 1 (v5.1.map Ak)), (1001, .vec 1 (v5.2.1.map Ak)), (1002, .vec 1 (v5.2.2.map Ak)), (1003, .vec 6 (v16.map AC))] rfl rfl) (Ap ?_)
     exact ⟨⟨[_, _], ⟨.cellN _ _ _ _ _ _ _ rfl rfl CI Ce rfl rfl (Hi rfl), tm⟩, rfl⟩, ⟨rfl, rfl, rfl, rfl, tv⟩⟩
theorem HO (N : Nat) (r : Aa × (List Ac)) (h : DY N = some r) : Ar Tryd.prog 21 [] [(1, r.1.fb.map Ak), (1, r.1.fm.map Ak), (1, r.1.fo.map Ak), (3, r.2.map Ah)] (.tup [.agg [.own 0, .own 1, .own 2, sC (r.1.fd.map AC)], .one (.own 3)]) := by
 unfold DY at h
 refine cw (n := 13) (rs := [.cell 0 32, .tmp 1]) Tryd.func21 fun w0 S0 => ?_
 refine wq rfl (qz NZ rfl (qa rfl (Ab (wq rfl (Ev Ax Dk Ks rfl (Ev Ax Dk Ks rfl (Ev Ax Dk Ks rfl (Bv NZ T4 rfl (qz NZ rfl (qs Ce rfl (Ab (wq rfl (qL CI Ce rfl (Bv H1 Sm rfl (Bv H1 Sm rfl (Bv H1 Sm rfl (Bv H1 Sm rfl (Ev Bg B9 H1 rfl (qs Ce rfl (qe rfl ?_))))))))))))))))))))
 obtain rfl := sj h
 refine Af ((Ey 0 _ rfl).trans (sm [(1000, 3), (1001, 4), (1002, 5), (1003, 12)] [(0, oD (.ptr 0 0)), (1, oD (.own 1003))] [(0, .box [.own 1000, .own 1001, .own 1002, sC ((([] : List Aq)).map AC)]), (1000, .vec 1 ((([2, 2] : List Int)).map Ak)), (1001, .vec 1 ((([0, 0] : List Int)).map Ak)), (1002, .vec 1 ((([1, 1] : List Int)).map Ak)), (1003, .vec 3 ((([(Ac.mk 1 0 1), (Ac.mk 1 1 1), (Ac.mk 2 0 0), (Ac.mk 2 1 0)] : List Ac)).map Ah))] rfl rfl)) (Ap ?_)
 exact ⟨⟨[_, _], ⟨.cellN _ _ _ _ _ _ _ rfl rfl CI Ce rfl rfl (Hi rfl), tm⟩, rfl⟩, ⟨rfl, rfl, rfl, rfl, tv⟩⟩
theorem Fc (N : Nat) (p0 : Int) (p1 : Int) (r : Bool) (h : Cw N p0 p1 = some r) : Ar Tryd.prog 54 [iD p0, iD p1] [] (bD r) := by
 unfold Cw at h
 refine cw (n := 12) (rs := [.tmp 4]) Tryd.func54 fun w0 S0 => ?_
 refine wq rfl (qe rfl ?_)
 refine AO h (fun v1 => mk [(4, bD v1)] []) (fun j1 h => ?_) (fun v1 h => ?_)
 ·refine Ai Az rfl (qm rfl (FA rfl (qm rfl ?_)))
  refine DO 7 h rfl (fun h => ?_) fun h => ?_
  ·refine qw 2 rfl (A3 rfl (qp rfl (qe rfl ?_)))
   exact sn [] h
  ·refine qw 3 rfl (qp rfl (qe rfl ?_))
   exact sn [] h
 ·obtain rfl := sj h
  refine Af (sm [] [(4, bD v1)] [] rfl rfl) (Ap ?_)
  exact ⟨⟨[_], tm, rfl⟩, tv⟩
theorem Mw (N : Nat) (p0 : Int) (p1 : Bool) (r : Bool) (h : EF N p0 p1 = some r) : Ar Tryd.prog 69 [iD p0, bD p1] [] (bD r) := by
 unfold EF at h
 refine cw (n := 23) (rs := [.tmp 4]) Tryd.func69 fun w0 S0 => ?_
 refine wq rfl (qe rfl ?_)
 refine AO h (fun v1 => mk [(4, bD v1)] []) (fun j1 h => ?_) (fun v1 h => ?_)
 ·refine Ai Az rfl (qm rfl (BC rfl (qm rfl ?_)))
  refine DO 7 h rfl (fun h => ?_) fun h => ?_
  ·refine qw 2 rfl (qp rfl (qw 4 rfl (qu rfl (qu rfl (qw 2 rfl (qu rfl (qu rfl (qn rfl (qp rfl (qe rfl ?_))))))))))
   exact sn [] h
  ·refine qm rfl (BC rfl (qp rfl (qm rfl ?_)))
   refine DO 11 h rfl (fun h => ?_) fun h => ?_
   ·refine qw 3 rfl (qu rfl (qu rfl (qw 2 rfl (qu rfl (qu rfl (qn rfl (qp rfl (qe rfl ?_))))))))
    exact sn [] h
   ·refine qm rfl (BC rfl (qm rfl ?_))
    refine DO 14 h rfl (fun h => ?_) fun h => ?_
    ·refine qw 2 rfl (qp rfl (qw 2 rfl (Ck rfl (qp rfl (qp rfl (qe rfl ?_))))))
     exact sn [] h
    ·refine qm rfl (BC rfl (qp rfl (qm rfl ?_)))
     refine DO 18 h rfl (fun h => ?_) fun h => ?_
     ·refine qm rfl (Ck rfl (qp rfl (qp rfl (qe rfl ?_))))
      exact sn [] h
     ·refine qw 2 rfl (qp rfl (qp rfl (qe rfl ?_)))
      exact sn [] h
 ·obtain rfl := sj h
  refine Af (sm [] [(4, bD v1)] [] rfl rfl) (Ap ?_)
  exact ⟨⟨[_], tm, rfl⟩, tv⟩
theorem JD (N : Nat) (p0 : List Bool) (p1 : Int) (r : Bool) (h : Cj N p0 p1 = some r) : Ar Tryd.prog 81 [pD (.sl (p0.map eB)), oD (.rop [.val (.int .i64 p1)])] [] (bD r) := by
 unfold Cj at h
 refine cw (n := 8) (rs := [.tmp 3]) Tryd.func81 fun w0 S0 => ?_
 refine wq rfl (qa rfl (Ab (wq rfl (qm rfl (AA F5 rfl (qk B6 rfl (BM rfl (qe rfl ?_))))))))
 obtain rfl := sj h
 refine Af (sm [] [(3, bD (((p0.length : Int) != p1)))] [] rfl rfl) (Ap ?_)
 exact ⟨⟨[_], tm, rfl⟩, tv⟩
theorem F3 (N : Nat) (p0 : List (List Bool)) (p1 : (List Bool) → Option Bool) (r : Int) (h : BY N p0 p1 = some r) : Ar Tryd.prog 86 [pD (.sl (p0.map (FW eB))), oD (.clo (KT (PH false (FW eB)) tB p1))] [] (iD r) := by
 unfold BY at h
 refine cw (n := 19) (rs := [.tmp 4]) Tryd.func86 fun w0 S0 => ?_
 refine wq rfl (qa rfl (Ab (wp rfl (qm rfl (AA Fz rfl (qm rfl (Ab ?_)))))))
 refine AF (L := AV N p0 p1) h (fun v1 => mk [(0, pD (.sl (p0.map (FW eB)))), (1, oD (.clo (KT (PH false (FW eB)) tB p1))), (7, iD ((p0.length : Int))), (8, iD v1)] []) (fun v2 => mk [] []) (fun _ _ => rfl) (sm [] _ _ rfl rfl) (fun j1 n1 v1 h => ?_) (fun v2 s h hs => ?_)
 ·unfold AV at h
  refine wq rfl (A3 rfl (Ab (AG ?_)))
  refine Bp h (fun h => ?_) fun h => ?_
  ·refine Am (AG (AP (wq rfl (qm rfl (qa rfl (Ab (wq rfl (qw 3 rfl ?_))))))))
   refine CB h fun v4 a4 b4 h => qi Fz NE a4 (Aj b4) rfl (qk Pk rfl ?_)
   refine BT h fun v5 a5 h => Pd (ds0 := [_]) (ar := (PH false (FW eB)) v4) (.p rfl) rfl rfl ⟨rfl, tv⟩ rfl rfl rfl (OX (O8 _ _ (T7 Vt)) a5) ?_
   refine Ab ?_
   refine Bp h (fun h => ?_) fun h => ?_
   ·refine wq rfl (qm rfl (qe rfl ?_))
    obtain rfl := sj h
    refine Af (sm [] [(4, iD v1)] [] rfl rfl) (Ap ?_)
    exact ⟨⟨[_], tm, rfl⟩, tv⟩
   ·refine Am (Ai Az rfl (Bt rfl (qm rfl (Ab ?_))))
    exact sn [] h
  ·refine A5 ?_
   exact sn [] h
 ·refine Af hs (wq rfl (qe rfl ?_))
  obtain rfl := sj h
  refine Af (sm [] [(4, iD ((-1)))] [] rfl rfl) (Ap ?_)
  exact ⟨⟨[_], tm, rfl⟩, tv⟩
theorem Fx (N : Nat) (p0 : List (List Bool)) (p1 : (List Bool) → Option Bool) (r : Bool) (h : BG N p0 p1 = some r) : Ar Tryd.prog 80 [pD (.sl (p0.map (FW eB))), oD (.clo (KT (PH false (FW eB)) tB p1))] [] (bD r) := by
 unfold BG at h
 refine cw (n := 9) (rs := [.tmp 4]) Tryd.func80 fun w0 S0 => ?_
 refine wq rfl (qa rfl (Ab (wq rfl (qw 2 rfl ?_))))
 refine BT h fun v1 a1 h => As [] (F3 N p0 p1 v1 a1) Vn rfl (FA rfl (qe rfl ?_))
 obtain rfl := sj h
 refine Af (sm [] [(4, bD ((decide (0 ≤ v1))))] [] rfl rfl) (Ap ?_)
 exact ⟨⟨[_], tm, rfl⟩, tv⟩
theorem H2 (N : Nat) (p0 : List (List Bool)) (p1 : Int) (p2 : Int) (r : Bool) (h : Dh N p0 p1 p2 = some r) : Ar Tryd.prog 70 [pD (.sl (p0.map (FW eB))), iD p1, iD p2] [] (bD r) := by
 unfold Dh at h
 refine cw (n := 17) (rs := [.tmp 6]) Tryd.func70 fun w0 S0 => ?_
 refine wq rfl (qb rfl (qe rfl ?_))
 refine AO h (fun v1 => mk [(6, bD v1)] []) (fun j1 h => ?_) (fun v1 h => ?_)
 ·refine Ai Az rfl (qm rfl (AA Fz rfl (qm rfl (BC rfl (qm rfl ?_)))))
  refine DO 11 h rfl (fun h => ?_) fun h => ?_
  ·refine qm rfl (Dy (Jk 5 [.val (.int .i64 p2)] rfl rfl) ?_)
   refine OH (capD := [_]) (KT (PH false (FW eB)) tB ((fun (x : List Bool) => Cj N x p2))) (.g rfl rfl) VH rfl ⟨rfl, tv⟩ rfl (fun ar t ht => by obtain ⟨x, r, rfl, hq, rfl⟩ := L7 ht; exact JD N x p2 r hq) ?_
   refine BT h fun v3 a3 h => As [] (Fx N p0 ((fun (x : List Bool) => Cj N x p2)) v3 a3) VA rfl (Ck rfl (qp rfl (qe rfl ?_)))
   exact sn [] h
  ·refine qw 4 rfl (qp rfl (qe rfl ?_))
   exact sn [] h
 ·obtain rfl := sj h
  refine Af (sm [] [(6, bD v1)] [] rfl rfl) (Ap ?_)
  exact ⟨⟨[_], tm, rfl⟩, tv⟩
theorem Ly (N : Nat) (p0 : Aa) (p1 : Aq) (r : Int) (h : El N p0 p1 = some r) : Ar Tryd.prog 55 [.e (.agg (Al p0)), .e (.agg (Bz p1))] [] (iD r) := by
 unfold El at h
 refine cw (n := 87) (rs := [.tmp 4]) Tryd.func55 fun w0 S0 => ?_
 refine wq rfl (qb rfl (qb rfl (qa rfl (Ab (wp rfl (qf Ex rfl (ql B6 rfl (qf Ii rfl (ql Sg rfl ?_)))))))))
 refine BT h fun v1 a1 h => As [] (Mw N p1.ff p1.fq v1 a1) VB rfl (Ck rfl (Ab ?_))
 refine Bp h (fun h => ?_) fun h => ?_
 ·refine wq rfl (qe rfl ?_)
  obtain rfl := sj h
  refine Af (sm [] [(4, iD 1)] [] rfl rfl) (Ap ?_)
  exact ⟨⟨[_], tm, rfl⟩, tv⟩
 ·refine Am (AG ?_)
  refine AO h (fun v3 => mk [(2, oD (.ptr 2 0)), (3, oD (.ptr 3 0)), (29, bD v3)] [(2, .box (Al p0)), (3, .box (Bz p1))]) (fun j3 h => ?_) (fun v3 h => ?_)
  ·refine Ai Az rfl (qf CQ rfl (ql B6 rfl (qf Bn rfl (ql Bh rfl (AA Ax rfl ?_)))))
   refine BT h fun v4 a4 h => As [] (Fc N p1.fg ((p0.fb.length : Int)) v4 a4) RB rfl (Ck rfl (qm rfl ?_))
   refine DO 21 h rfl (fun h => ?_) fun h => ?_
   ·refine qw 7 rfl (qp rfl (Ab ?_))
    exact sn [] h
   ·refine qf Hn rfl (ql B6 rfl (qf Bn rfl (ql Bh rfl (AA Ax rfl ?_))))
    refine BT h fun v6 a6 h => As [] (Fc N p1.fj ((p0.fb.length : Int)) v6 a6) RB rfl (Ck rfl (qp rfl (Ab ?_)))
    exact sn [] h
  ·refine Bp h (fun h => ?_) fun h => ?_
   ·refine wq rfl (qe rfl ?_)
    obtain rfl := sj h
    refine Af (sm [] [(4, iD 4)] [] rfl rfl) (Ap ?_)
    exact ⟨⟨[_], tm, rfl⟩, tv⟩
   ·refine Am (wq rfl (qf Bn rfl (ql Bh rfl (qf CQ rfl (ql B6 rfl ?_)))))
    refine CB h fun v8 a8 b8 h => qi Ax Dk a8 (Aj b8) rfl (qk B6 rfl (qa rfl (Ab (wq rfl (qf Ex rfl (ql B6 rfl (BC rfl (qa rfl (Ab (AG ?_))))))))))
    refine AO h (fun v9 => mk [(3, oD (.ptr 3 0)), (70, bD v9)] [(3, .box (Bz p1))]) (fun j9 h => ?_) (fun v9 h => ?_)
    ·refine Ai Az rfl (qf I5 rfl (ql Jp rfl (qm rfl (qf Bn rfl (ql Bh rfl (qf Hn rfl (ql B6 rfl ?_)))))))
     refine CB h fun v10 a10 b10 h => qi Ax Dk a10 (Aj b10) rfl (qk B6 rfl ?_)
     refine BT h fun v11 a11 h => As [] (H2 N p1.fp v8 v10 v11 a11) T9 rfl (Ck rfl (qm rfl ?_))
     refine DO 50 h rfl (fun h => ?_) fun h => ?_
     ·refine qw 2 rfl (qu rfl (qu rfl (qu rfl (qu rfl (qu rfl (qu rfl (qn rfl (qp rfl (qw 4 rfl (qu rfl (qu rfl (qu rfl (qu rfl (qn rfl (qp rfl (AI (by kernel_rfl) ?_))))))))))))))))
      exact sn [] h
     ·refine qw 2 rfl ?_
      refine DO 52 h rfl (fun h => ?_) fun h => ?_
      ·refine qf Ft rfl (ql Jp rfl (qw 2 rfl ?_))
       refine BT h fun v14 a14 h => As [] (H2 N p1.fk v8 v8 v14 a14) T9 rfl (Ck rfl (qp rfl (qp rfl (qm rfl ?_))))
       refine DO 61 h rfl (fun h => ?_) fun h => ?_
       ·refine qw 3 rfl (qu rfl (qu rfl (qu rfl (qu rfl (qn rfl (qp rfl (AI (by kernel_rfl) ?_)))))))
        exact sn [] h
       ·refine qm rfl (Ck rfl (qm rfl ?_))
        refine DO 64 h rfl (fun h => ?_) fun h => ?_
        ·refine qf Ft rfl (ql Jp rfl (AA Fz rfl (Ew rfl (qp rfl (qp rfl (AI (by kernel_rfl) ?_))))))
         exact sn [] h
        ·refine qw 4 rfl (qp rfl (qp rfl (AI (by kernel_rfl) ?_)))
         exact sn [] h
      ·refine qw 6 rfl (qp rfl (qp rfl (qw 2 rfl (Ck rfl (qm rfl ?_)))))
       refine DO 64 h rfl (fun h => ?_) fun h => ?_
       ·refine qf Ft rfl (ql Jp rfl (AA Fz rfl (Ew rfl (qp rfl (qp rfl (AI (by kernel_rfl) ?_))))))
        exact sn [] h
       ·refine qw 4 rfl (qp rfl (qp rfl (AI (by kernel_rfl) ?_)))
        exact sn [] h
    ·refine Bp h (fun h => ?_) fun h => ?_
     ·refine wq rfl (qe rfl ?_)
      obtain rfl := sj h
      refine Af (sm [] [(4, iD 6)] [] rfl rfl) (Ap ?_)
      exact ⟨⟨[_], tm, rfl⟩, tv⟩
     ·refine Am (wp rfl (qf Ft rfl (ql Jp rfl (AA Fz rfl (qm rfl (Ab ?_))))))
      refine AF (L := BO N p1) h (fun v19 => mk [(3, oD (.ptr 3 0)), (73, iD ((p1.fk.length : Int))), (74, iD v19)] [(3, .box (Bz p1))]) (fun v20 => mk [] []) (fun _ _ => rfl) (sm [] _ _ rfl rfl) (fun j19 n19 v19 h => ?_) (fun v20 s h hs => ?_)
      ·unfold BO at h
       refine wq rfl (A3 rfl (Ab (AG ?_)))
       refine Bp h (fun h => ?_) fun h => ?_
       ·refine Am (AG (AP (wq rfl (qm rfl (qa rfl (Ab (wq rfl (qf Ft rfl (ql Jp rfl (qm rfl ?_))))))))))
        refine CB h fun v22 a22 b22 h => qi Fz NE a22 (Aj b22) rfl (qk Pk rfl (qm rfl ?_))
        refine CB h fun v23 a23 b23 h => qi F5 PK a23 (Aj b23) rfl (qk Sg rfl (Ck rfl (Ab ?_)))
        refine Bp h (fun h => ?_) fun h => ?_
        ·refine wq rfl (qe rfl ?_)
         obtain rfl := sj h
         refine Af (sm [] [(4, iD 1)] [] rfl rfl) (Ap ?_)
         exact ⟨⟨[_], tm, rfl⟩, tv⟩
        ·refine Am (Ai Az rfl (Bt rfl (qm rfl (Ab ?_))))
         exact sn [] h
       ·refine A5 ?_
        exact sn [] h
      ·refine Af hs (wq rfl (qe rfl ?_))
       obtain rfl := sj h
       refine Af (sm [] [(4, iD 0)] [] rfl rfl) (Ap ?_)
       exact ⟨⟨[_], tm, rfl⟩, tv⟩
theorem Eu (N : Nat) (p0 : Aa) (r : Int) (h : BD N p0 = some r) : Ar Tryd.prog 38 [.e (.agg (Al p0))] [] (iD r) := by
 unfold BD at h
 refine cw (n := 81) (rs := [.tmp 2]) Tryd.func38 fun w0 S0 => ?_
 refine wq rfl (qb rfl (qa rfl (Ab (wq rfl (qf Bn rfl (ql Bh rfl (AA Ax rfl (qa rfl (Ab (AG ?_))))))))))
 refine AO h (fun v1 => mk [(1, oD (.ptr 1 0)), (3, iD ((p0.fb.length : Int))), (19, bD v1)] [(1, .box (Al p0))]) (fun j1 h => ?_) (fun v1 h => ?_)
 ·refine Ai Az rfl (qm rfl (Ew rfl (qm rfl ?_)))
  refine DO 14 h rfl (fun h => ?_) fun h => ?_
  ·refine qw 4 rfl (qp rfl (Ab ?_))
   exact sn [] h
  ·refine qf CO rfl (ql Hq rfl (AA DP rfl (Ew rfl (qp rfl (Ab ?_)))))
   exact sn [] h
 ·refine Bp h (fun h => ?_) fun h => ?_
  ·refine wq rfl (qe rfl ?_)
   obtain rfl := sj h
   refine Af (sm [] [(2, iD 3)] [] rfl rfl) (Ap ?_)
   exact ⟨⟨[_], tm, rfl⟩, tv⟩
  ·refine Am (AG ?_)
   refine AO h (fun v4 => mk [(1, oD (.ptr 1 0)), (31, bD v4)] [(1, .box (Al p0))]) (fun j4 h => ?_) (fun v4 h => ?_)
   ·refine Ai Az rfl (qf EV rfl (ql Bh rfl (AA Ax rfl (qm rfl (BM rfl (qm rfl ?_))))))
    refine DO 25 h rfl (fun h => ?_) fun h => ?_
    ·refine qw 5 rfl (qp rfl (Ab ?_))
     exact sn [] h
    ·refine qf GM rfl (ql Bh rfl (AA Ax rfl (qm rfl (BM rfl (qp rfl (Ab ?_))))))
     exact sn [] h
   ·refine Bp h (fun h => ?_) fun h => ?_
    ·refine wq rfl (qe rfl ?_)
     obtain rfl := sj h
     refine Af (sm [] [(2, iD 6)] [] rfl rfl) (Ap ?_)
     exact ⟨⟨[_], tm, rfl⟩, tv⟩
    ·refine Am (wp rfl (qf Bn rfl (ql Bh rfl (AA Ax rfl (qm rfl (Ab ?_))))))
     refine AF (L := A8 N p0) h (fun v7 => mk [(1, oD (.ptr 1 0)), (33, pD (.sl (p0.fb.map Ak))), (34, iD ((p0.fb.length : Int))), (35, iD v7)] [(1, .box (Al p0))]) (fun v8 => mk [(1, oD (.ptr 1 0))] [(1, .box (Al p0))]) (fun _ _ => rfl) (sm [] _ _ rfl rfl) (fun j7 n7 v7 h => ?_) (fun v8 s h hs => ?_)
     ·unfold A8 at h
      refine wq rfl (A3 rfl (Ab (AG ?_)))
      refine Bp h (fun h => ?_) fun h => ?_
      ·refine Am (AG (AP (wq rfl (qm rfl ?_))))
       refine CB h fun v10 a10 b10 h => qi Ax Dk a10 (Aj b10) rfl (qk B6 rfl (qa rfl (qe rfl ?_)))
       refine AO h (fun v11 => mk [(1, oD (.ptr 1 0)), (33, pD (.sl (p0.fb.map Ak))), (34, iD ((p0.fb.length : Int))), (35, iD v7), (65, bD v11)] [(1, .box (Al p0))]) (fun j11 h => ?_) (fun v11 h => ?_)
       ·refine Ai Az rfl (qm rfl (A3 rfl (qm rfl ?_)))
        refine DO 42 h rfl (fun h => ?_) fun h => ?_
        ·refine qw 2 rfl (qp rfl (qw 9 rfl (qp rfl (qw 9 rfl (qp rfl (Ab ?_))))))
         exact sn [] h
        ·refine qm rfl (Ew rfl (qp rfl (qm rfl ?_)))
         refine DO 46 h rfl (fun h => ?_) fun h => ?_
         ·refine qw 8 rfl (qp rfl (qw 9 rfl (qp rfl (Ab ?_))))
          exact sn [] h
         ·refine qf EV rfl (ql Bh rfl (qm rfl ?_))
          refine CB h fun v14 a14 b14 h => qi Ax Dk a14 (Aj b14) rfl (qk B6 rfl (qm rfl ?_))
          refine BT h fun v15 a15 h => As [] (Fc N v14 v10 v15 a15) RB rfl (Ck rfl (qp rfl (qm rfl ?_)))
          refine DO 56 h rfl (fun h => ?_) fun h => ?_
          ·refine qw 8 rfl (qp rfl (Ab ?_))
           exact sn [] h
          ·refine qf GM rfl (ql Bh rfl (qm rfl ?_))
           refine CB h fun v17 a17 b17 h => qi Ax Dk a17 (Aj b17) rfl (qk B6 rfl (qm rfl ?_))
           refine BT h fun v18 a18 h => As [] (Fc N v17 v10 v18 a18) RB rfl (Ck rfl (qp rfl (Ab ?_)))
           exact sn [] h
       ·refine Bp h (fun h => ?_) fun h => ?_
        ·refine wq rfl (qe rfl ?_)
         obtain rfl := sj h
         refine Af (sm [] [(2, iD 7)] [] rfl rfl) (Ap ?_)
         exact ⟨⟨[_], tm, rfl⟩, tv⟩
        ·refine Am (Ai Az rfl (Bt rfl (qm rfl (Ab ?_))))
         exact sn [] h
      ·refine A5 ?_
       exact sn [] h
     ·refine Af hs (wp rfl (qf CO rfl (ql Hq rfl (AA DP rfl (qm rfl (Ab ?_))))))
      refine AF (L := A2 N p0) h (fun v20 => mk [(1, oD (.ptr 1 0)), (68, pD (.sl (p0.fd.map AC))), (69, iD ((p0.fd.length : Int))), (70, iD v20)] [(1, .box (Al p0))]) (fun v21 => mk [] []) (fun _ _ => rfl) (sm [] _ _ rfl rfl) (fun j20 n20 v20 h => ?_) (fun v21 s h hs => ?_)
      ·unfold A2 at h
       refine wq rfl (A3 rfl (Ab (AG ?_)))
       refine Bp h (fun h => ?_) fun h => ?_
       ·refine Am (AG (AP (wq rfl ?_)))
        refine CB h fun v23 a23 b23 h => qi DP DN a23 (Aj b23) rfl (qK Hc DN rfl (qz KQ rfl (qs DN rfl (Ab (wq rfl (qL CI Ce rfl (qL Hc DN rfl ?_)))))))
        refine BT h fun v24 a24 h => As [] (Ly N p0 v23 v24 a24) UK rfl (qa rfl (Ab (wq rfl (qm rfl (BM rfl (Ab ?_))))))
        refine Bp h (fun h => ?_) fun h => ?_
        ·refine wq rfl (qm rfl (qe rfl ?_))
         obtain rfl := sj h
         refine Af (sm [] [(2, iD v24)] [] rfl rfl) (Ap ?_)
         exact ⟨⟨[_], tm, rfl⟩, tv⟩
        ·refine Am (Ai Az rfl (Bt rfl (qm rfl (Ab ?_))))
         exact sn [] h
       ·refine A5 ?_
        exact sn [] h
      ·refine Af hs (wq rfl (qe rfl ?_))
       obtain rfl := sj h
       refine Af (sm [] [(2, iD 0)] [] rfl rfl) (Ap ?_)
       exact ⟨⟨[_], tm, rfl⟩, tv⟩
theorem Cl (N : Nat) (p0 : List Int) (r : (List Int)) (h : A1 N p0 = some r) : Ar Tryd.prog 43 [pD (.sl (p0.map Ak))] [(1, r.map Ak)] (oD (.own 0)) := by
 unfold A1 at h
 refine cw (n := 8) (rs := [.tmp 2]) Tryd.func43 fun w0 S0 => ?_
 refine wq rfl (qa rfl (Ab (wp rfl (qm rfl ?_))))
 refine MG (.p rfl) rfl Ax ?_
 refine Ab ?_
 refine MM rfl (fun c2 => ?_) ?_
 ·have c2 := List.map_eq_nil_iff.1 c2
  rw [c2] at h
  have h : (some (([] : List Int))) = some r := h
  refine wq rfl (qe rfl ?_)
  obtain rfl := sj h
  refine Af ((BV 2 2001 1 rfl rfl rfl).trans (sm [(1000, 2001)] [(2, oD (.own 1000))] [(1000, .vec 1 ((([] : List Int)).map Ak))] rfl rfl)) (Ap ?_)
  exact ⟨⟨[_], tm, rfl⟩, ⟨rfl, tv⟩⟩
 ·refine Am (wq rfl (Ev Ax Dk Ks rfl (qm rfl ?_)))
  refine EN h fun c1 h => N8 (f := Ak) Ax Ax Dk Li Ks (fun _ => rfl) c1 rfl (qe rfl ?_)
  obtain rfl := sj h
  refine Af (sm [(1000, 7)] [(2, oD (.own 1000))] [(1000, .vec 1 (((([] : List Int)) ++ p0).map Ak))] rfl rfl) (Ap ?_)
  exact ⟨⟨[_], tm, rfl⟩, ⟨rfl, tv⟩⟩
theorem Jr (N : Nat) (p0 : Int) (p1 : Int) (r : Int × Int) (h : E0 N p0 p1 = some r) : Ar Tryd.prog 72 [pD (.val (.int .u32 p0)), pD (.val (.int .u32 p1))] [] (.tup [.one (.pure (.val (.int .u32 r.1))), .one (.pure (.val (.int .u32 r.2)))]) := by
 unfold E0 at h
 refine cw (n := 17) (rs := [.tmp 4, .tmp 5]) Tryd.func72 fun w0 S0 => ?_
 refine wq rfl (qa rfl (qa rfl (Ab (wq rfl (qm rfl (Hv O4 Sy rfl (qm rfl (Hv O4 Sy rfl (I3 rfl (qa rfl (Ab (wq rfl (qm rfl (Ib rfl (by decide) (Hv SF OT rfl (qm rfl (Hv SF OT rfl (qa rfl (qe rfl ?_)))))))))))))))))))
 obtain rfl := sj h
 refine Af (sm [] [(4, pD (.val (.int .u32 ((wI .u32 ((Ee .u64 ((wI .u64 ((wI .u64 p0) * (wI .u64 p1)))) 32))))))), (5, pD (.val (.int .u32 ((wI .u32 ((wI .u64 ((wI .u64 p0) * (wI .u64 p1)))))))))] [] rfl rfl) (Ap ?_)
 exact ⟨⟨[_, _], ⟨.tmp _ _ rfl, tm⟩, rfl⟩, tv⟩
theorem Jd (N : Nat) (p0 : Int) (p1 : Int) (r : Int × Int) (h : E1 N p0 p1 = some r) : Ar Tryd.prog 73 [pD (.val (.int .u64 p0)), pD (.val (.int .u64 p1))] [] (.tup [.one (.pure (.val (.int .u64 r.1))), .one (.pure (.val (.int .u64 r.2)))]) := by
 unfold E1 at h
 refine cw (n := 51) (rs := [.tmp 4, .tmp 5]) Tryd.func73 fun w0 S0 => ?_
 refine wq rfl (qa rfl (qa rfl (Ab (wq rfl (qm rfl (JZ rfl (qa rfl (Ab (wq rfl (qm rfl (Ib rfl (by decide) (qa rfl (Ab (wq rfl (qm rfl (JZ rfl (qa rfl (Ab (wq rfl (qm rfl (Ib rfl (by decide) (qa rfl (Ab (wq rfl (qw 2 rfl (I3 rfl (qa rfl (Ab (wq rfl (qw 2 rfl ?_))))))))))))))))))))))))))))))
 refine I3 rfl (qm rfl (Ib rfl (by decide) (Bt rfl (qa rfl (Ab (wq rfl (qm rfl (JZ rfl (qa rfl (Ab (wq rfl (qm rfl (Ib rfl (by decide) (qa rfl (Ab (wq rfl (qw 3 rfl (I3 rfl (Bt rfl (qa rfl (Ab (wq rfl (qw 2 rfl (I3 rfl (qm rfl (Bt rfl (qm rfl (Ib rfl (by decide) (Bt rfl (qa rfl (Ab (AG ?_))))))))))))))))))))))))))))))))
 refine Ai Az rfl (qw 2 rfl (I3 rfl (qe rfl ?_)))
 obtain rfl := sj h
 refine Af (sm [] [(4, pD (.val (.int .u64 ((wI .u64 ((wI .u64 ((wI .u64 ((Ee .u64 p0 32) * (Ee .u64 p1 32))) + (Ee .u64 ((wI .u64 ((wI .u64 ((Ee .u64 p0 32) * (Ea .u64 p1 4294967295))) + (Ee .u64 ((wI .u64 ((Ea .u64 p0 4294967295) * (Ea .u64 p1 4294967295)))) 32)))) 32))) + (Ee .u64 ((wI .u64 ((Ea .u64 ((wI .u64 ((wI .u64 ((Ee .u64 p0 32) * (Ea .u64 p1 4294967295))) + (Ee .u64 ((wI .u64 ((Ea .u64 p0 4294967295) * (Ea .u64 p1 4294967295)))) 32)))) 4294967295) + (wI .u64 ((Ea .u64 p0 4294967295) * (Ee .u64 p1 32)))))) 32))))))), (5, pD (.val (.int .u64 ((wI .u64 (p0 * p1))))))] [] rfl rfl) (Ap ?_)
 exact ⟨⟨[_, _], ⟨.tmp _ _ rfl, tm⟩, rfl⟩, tv⟩
theorem Ki (N : Nat) (p0 : Int) (p1 : Int) (r : Int × Int) (h : FF N p0 p1 = some r) : Ar Tryd.prog 59 [pD (.val (.int .u64 p0)), pD (.val (.int .u64 p1))] [] (.tup [.one (.pure (.val (.int .u64 r.1))), .one (.pure (.val (.int .u64 r.2)))]) := by
 unfold FF at h
 refine cw (n := 30) (rs := [.tmp 4, .tmp 5]) Tryd.func59 fun w0 S0 => ?_
 refine wq rfl (qa rfl (qa rfl (Ab (AG ?_))))
 refine Bp h (fun h => ?_) fun h => ?_
 ·refine wq rfl (qm rfl (Hv Qi OT rfl (qm rfl (Hv Qi OT rfl ?_))))
  refine BT h fun v2 a2 h => As [] (Jr N ((wI .u32 p0)) ((wI .u32 p1)) v2 a2) VJ rfl (qm rfl (qx rfl (qx rfl (qa rfl (qa rfl (Ab (wq rfl (qm rfl (Hv O4 O6 rfl (qm rfl (Hv O4 O6 rfl (qa rfl (qe rfl ?_)))))))))))))
  obtain rfl := sj h
  refine Af (sm [] [(4, pD (.val (.int .u64 ((wI .u64 v2.1))))), (5, pD (.val (.int .u64 ((wI .u64 v2.2)))))] [] rfl rfl) (Ap ?_)
  exact ⟨⟨[_, _], ⟨.tmp _ _ rfl, tm⟩, rfl⟩, tv⟩
 ·refine Am (wq rfl (qw 2 rfl ?_))
  refine BT h fun v3 a3 h => As [] (Jd N p0 p1 v3 a3) Vl rfl (qm rfl (qx rfl (qx rfl (qa rfl (qa rfl (Ab (wq rfl (qw 2 rfl (qa rfl (qe rfl ?_))))))))))
  obtain rfl := sj h
  refine Af (sm [] [(4, pD (.val (.int .u64 v3.1))), (5, pD (.val (.int .u64 v3.2)))] [] rfl rfl) (Ap ?_)
  exact ⟨⟨[_, _], ⟨.tmp _ _ rfl, tm⟩, rfl⟩, tv⟩
theorem G8 (N : Nat) (p0 : List Int) (p1 : Int) (r : (List Int)) (h : Du N p0 p1 = some r) : Ar Tryd.prog 44 [pD (.sl (p0.map Ak)), iD p1] [(1, r.map Ak)] (oD (.own 0)) := by
 unfold Du at h
 refine cw (n := 48) (rs := [.tmp 4]) Tryd.func44 fun w0 S0 => ?_
 refine wq rfl (qe rfl ?_)
 refine AO h (fun v1 => mk [(0, pD (.sl (p0.map Ak))), (1, iD p1)] []) (fun j1 h => ?_) (fun v1 h => ?_)
 ·refine wq rfl (qm rfl (A3 rfl (Ab ?_)))
  refine Bp h (fun h => ?_) fun h => ?_
  ·refine Ai Az rfl ?_
   cases h
  ·refine Am ?_
   exact sn [] h
 ·refine wq rfl (qm rfl (AA Ax rfl (Hv Vi O6 rfl (qm rfl (Hv Vi O6 rfl ?_)))))
  refine BT h fun v3 a3 h => As [] (Ki N ((wI .u64 ((p0.length : Int)))) ((wI .u64 p1)) v3 a3) U9 rfl (qm rfl (qx rfl (qx rfl (qa rfl (qe rfl ?_)))))
  refine AO h (fun v4 => mk [(0, pD (.sl (p0.map Ak))), (6, pD (.val (.int .u64 v3.2)))] []) (fun j4 h => ?_) (fun v4 h => ?_)
  ·refine AO h (fun v5 => mk [(0, pD (.sl (p0.map Ak))), (6, pD (.val (.int .u64 v3.2))), (26, bD v5)] []) (fun j5 h => ?_) (fun v5 h => ?_)
   ·refine Ai Az rfl (qm rfl (Ew rfl (qm rfl ?_)))
    refine DO 23 h rfl (fun h => ?_) fun h => ?_
    ·refine qw 2 rfl (qp rfl (Ab ?_))
     exact sn [] h
    ·refine qm rfl (Ew rfl (qp rfl (Ab ?_)))
     exact sn [] h
   ·refine Bp h (fun h => ?_) fun h => ?_
    ·refine Ai Az rfl ?_
     cases h
    ·refine Am ?_
     exact sn [] h
  ·refine wq rfl (qm rfl (Hv Qi Sr rfl ?_))
   refine EN h fun c8 h => J2 (.p rfl) rfl rfl rfl Ax Dk Li (Iz rfl) Ks rfl rfl rfl c8.1 c8.2.1 c8.2.2 (OW Ak _ ((0 : Int))) ?_
   refine qa rfl (Ab (wq rfl (qw 2 rfl ?_)))
   refine Pa Ak (List.replicate ((wI .i64 v3.2)).toNat ((0 : Int))) p0 (.p rfl) rfl (HY Ak _ _ (List.replicate ((wI .i64 v3.2)).toNat ((0 : Int)))) rfl rfl (RC Ak _ _ (fun _ => rfl)) tv Ax Dk ?_
   refine qa rfl (Ab (AG ?_))
   refine AF (L := Cd N) h (fun v9 => mk [(7, oD (.own 2001)), (8, iD v9.2)] [(2001, .vec 1 (v9.1.map Ak))]) (fun v10 => mk [(7, oD (.own 2002))] [(2002, .vec 1 (v10.map Ak))]) (fun _ _ => rfl) (sm [(2001, 30)] _ _ rfl rfl) (fun j9 n9 v9 h => ?_) (fun v10 s h hs => ?_)
   ·unfold Cd at h
    refine wp rfl (qw 2 rfl (FX Ax rfl (A3 rfl (Ab ?_))))
    refine Bp h (fun h => ?_) fun h => ?_
    ·refine Am (AP (Ai Az rfl (qw 3 rfl ?_)))
     obtain ⟨c12, h⟩ := Fd h
     have w13 : ((v9.2).toNat) + ((v9.1.length - (v9.2).toNat)) ≤ v9.1.length := by have := c12.2.1; have := c12.2.2; omega
     refine H7 Ak v9.1 (.p rfl) rfl (HY Ak _ _ v9.1) rfl Ax Dk (.some _ _ _ _ c12.1) (.none _) ⟨rfl, tv⟩ tv c12.2.1 (by rw [Nat.zero_add]; exact c12.2.2) (Nat.zero_add _) rfl ?_
     refine qw 2 rfl ?_
     obtain ⟨c14, h⟩ := Fd h
     have w15 : 0 + ((v9.2).toNat) ≤ v9.1.length := by have := c14.2.1; have := c14.2.2; omega
     refine H7 Ak v9.1 (.p rfl) rfl (HY Ak _ _ v9.1) rfl Ax Dk (.none _) (.some _ _ _ _ c14.1) tv ⟨rfl, tv⟩ c14.2.1 (by rw [Nat.zero_add]; exact c14.2.2) (Nat.zero_add _) rfl ?_
     refine Pa Ak v9.1 (((v9.1.drop 0).take ((v9.2).toNat))) (.p rfl) rfl (Ij Ak _ _ ((v9.2).toNat) ((v9.1.length - (v9.2).toNat)) v9.1 w13) rfl rfl (LS Ak _ _ 0 ((v9.2).toNat) v9.1 w15) ⟨rfl, tv⟩ Ax Dk ?_
     refine Bt rfl (qa rfl (AI (by kernel_rfl) ?_))
     exact sn [] h
    ·refine A5 ?_
     exact sn [(2002, 2001)] h
   ·refine Af hs (wq rfl (qm rfl (qe rfl ?_)))
    obtain rfl := sj h
    refine Af (sm [(1000, 2002)] [(4, oD (.own 1000))] [(1000, .vec 1 (v10.map Ak))] rfl rfl) (Ap ?_)
    exact ⟨⟨[_], tm, rfl⟩, ⟨rfl, tv⟩⟩
theorem HB (N : Nat) (p0 : Aq) (r : Bool) (h : Dv N p0 = some r) : Ar Tryd.prog 40 [.e (.agg (Bz p0))] [] (bD r) := by
 unfold Dv at h
 refine cw (n := 11) (rs := [.tmp 2]) Tryd.func40 fun w0 S0 => ?_
 refine wq rfl (qb rfl (qe rfl ?_))
 refine AO h (fun v1 => mk [(2, bD v1)] []) (fun j1 h => ?_) (fun v1 h => ?_)
 ·refine Ai Az rfl (qf Ex rfl (ql B6 rfl (BC rfl (qm rfl ?_))))
  refine DO 6 h rfl (fun h => ?_) fun h => ?_
  ·refine qw 3 rfl (qp rfl (qe rfl ?_))
   exact sn [] h
  ·refine qf Ex rfl (ql B6 rfl (BC rfl (qp rfl (qe rfl ?_))))
   exact sn [] h
 ·obtain rfl := sj h
  refine Af (sm [] [(2, bD v1)] [] rfl rfl) (Ap ?_)
  exact ⟨⟨[_], tm, rfl⟩, tv⟩
theorem HX (N : Nat) (p0 : Aa) (r : Ad × Int) (h : Fj N p0 = some r) : Ar Tryd.prog 29 [.e (.agg (Al p0))] [(1, r.1.fe.map Ak), (1, r.1.fa.map Ak), (1, r.1.fc.map B5)] (.tup [.agg [.own 0, .own 1, .own 2], .one (iC r.2)]) := by
 unfold Fj at h
 refine cw (n := 50) (rs := [.cell 2 38, .tmp 3]) Tryd.func29 fun w0 S0 => ?_
 refine wq rfl (qb rfl (qz CM rfl (qa rfl (Ab (wp rfl (qL CI Ce rfl ?_))))))
 refine BT h fun v1 a1 h => As [] (Eu N p0 v1 a1) TD rfl (qa rfl (Ab (wq rfl (qm rfl (BM rfl (Ab ?_))))))
 refine Bp h (fun h => ?_) fun h => ?_
 ·refine wq rfl (Bv CM H5 rfl (qm rfl (qs AH rfl (qe rfl ?_))))
  obtain rfl := sj h
  refine Af ((AD 2 0 2001 1 _ rfl rfl rfl rfl).trans ((AD 2 1 2002 1 _ rfl rfl rfl rfl).trans ((AD 2 2 2003 1 _ rfl rfl rfl rfl).trans (sm [(1000, 2001), (1001, 2002), (1002, 2003)] [(2, oD (.ptr 2 0)), (3, iD v1)] [(2, .box [.own 1000, .own 1001, .own 1002]), (1000, .vec 1 ((([] : List Int)).map Ak)), (1001, .vec 1 ((([] : List Int)).map Ak)), (1002, .vec 1 ((([] : List Int)).map B5))] rfl rfl)))) (Ap ?_)
  exact ⟨⟨[_, _], ⟨.cellN _ _ _ _ _ _ _ rfl rfl Br AH rfl rfl (Hi rfl), tm⟩, rfl⟩, ⟨rfl, rfl, rfl, tv⟩⟩
 ·refine Am (wq rfl (qf EV rfl (ql Bh rfl ?_)))
  refine BT h fun v3 a3 h => As [2004] (Cl N p0.fm v3 a3) Qd rfl (Ev Ax Dk Ks rfl (qf EV rfl (ql Bh rfl (AA Ax rfl ?_))))
  refine BT h fun v4 a4 h => FL [2005] [17] (G8 N (([(-1)] : List Int)) ((p0.fm.length : Int)) v4 a4) U4 (Hx (fun _ => rfl) D7) rfl (qf CO rfl (ql Hq rfl (AA DP rfl ?_)))
  refine EN h fun c5 h => J2 (.p rfl) rfl rfl rfl DD GZ OU (Iz rfl) Of rfl rfl rfl c5.1 c5.2.1 c5.2.2 (OW B5 _ ((0 : Int))) ?_
  refine Bv CM H5 rfl (qz CM rfl (qs AH rfl (AI (by kernel_rfl) (wp rfl (qf CO rfl (ql Hq rfl (AA DP rfl (qm rfl (Ab ?_)))))))))
  refine AF (L := EX N p0) h (fun v6 => mk [(1, oD (.ptr 1 0)), (2, oD (.ptr 2 0)), (5, oD (.ptr 5 0)), (28, pD (.sl (p0.fd.map AC))), (29, iD ((p0.fd.length : Int))), (30, iD v6.2)] [(1, .box (Al p0)), (2, .box [.pure (.nil0), .pure (.nil0), .pure (.nil0)]), (5, .box [.own 2006, .own 2007, .own 2008]), (2006, .vec 1 (v3.map Ak)), (2007, .vec 1 (v4.map Ak)), (2008, .vec 1 (v6.1.map B5))]) (fun v7 => mk [(2, oD (.ptr 2 0)), (5, oD (.ptr 5 0))] [(2, .box [.pure (.nil0), .pure (.nil0), .pure (.nil0)]), (5, .box [.own 2009, .own 2010, .own 2011]), (2009, .vec 1 (v3.map Ak)), (2010, .vec 1 (v4.map Ak)), (2011, .vec 1 (v7.map B5))]) (fun _ _ => rfl) (sm [(2006, 2004), (2007, 2005), (2008, 25)] _ _ rfl rfl) (fun j6 n6 v6 h => ?_) (fun v7 s h hs => ?_)
  ·unfold EX at h
   refine wq rfl (A3 rfl (Ab (AG ?_)))
   refine Bp h (fun h => ?_) fun h => ?_
   ·refine Am ?_
    refine AO h (fun v9 => mk [(1, oD (.ptr 1 0)), (2, oD (.ptr 2 0)), (5, oD (.ptr 5 0)), (28, pD (.sl (p0.fd.map AC))), (29, iD ((p0.fd.length : Int))), (30, iD v6.2)] [(1, .box (Al p0)), (2, .box [.pure (.nil0), .pure (.nil0), .pure (.nil0)]), (5, .box [.own 2012, .own 2013, .own 2014]), (2012, .vec 1 (v3.map Ak)), (2013, .vec 1 (v4.map Ak)), (2014, .vec 1 (v9.map B5))]) (fun j9 h => ?_) (fun v9 h => ?_)
    ·refine AP (wq rfl (qm rfl ?_))
     refine CB h fun v10 a10 b10 h => qi DP DN a10 (Aj b10) rfl (qK Hc DN rfl (qz KQ rfl (qa rfl (qs DN rfl (Ab (wq rfl (qL Hc DN rfl ?_)))))))
     refine BT h fun v11 a11 h => As [] (HB N v10 v11 a11) TA rfl (Ab ?_)
     refine Bp h (fun h => ?_) fun h => ?_
     ·refine Ai Az rfl (qf Dn rfl (ql IW rfl (qm rfl (qf EV rfl (ql Bh rfl (qf CQ rfl (ql B6 rfl ?_)))))))
      refine CB h fun v13 a13 b13 h => qi Ax Dk a13 (Aj b13) rfl (qk B6 rfl ?_)
      refine EN h fun c14 h => HJ rfl c14 ?_
      refine CB h fun v15 a15 b15 h => qI DD GZ a15 (Aj b15) rfl ?_
      refine GH rfl rfl rfl rfl (Aj b15) rfl GZ rfl (Iz rfl) (Gs B5 v6.1 _ ((CJ .u8 1 v13))) ?_
      refine AI (by kernel_rfl) ?_
      exact sn [(2012, 2006), (2013, 2007), (2014, 2008)] h
     ·refine Am ?_
      exact sn [(2012, 2006), (2013, 2007), (2014, 2008)] h
    ·refine Ai Az rfl (Bt rfl (qm rfl (Ab ?_)))
     exact sn [(2006, 2012), (2007, 2013), (2008, 2014)] h
   ·refine A5 ?_
    exact sn [(2009, 2006), (2010, 2007), (2011, 2008)] h
  ·refine Af hs (wq rfl (qL Br AH rfl (qs AH rfl (qe rfl ?_))))
   obtain rfl := sj h
   refine Af (sm [(1000, 2009), (1001, 2010), (1002, 2011)] [(2, oD (.ptr 2 0)), (3, iD 0)] [(2, .box [.own 1000, .own 1001, .own 1002]), (1000, .vec 1 (v3.map Ak)), (1001, .vec 1 (v4.map Ak)), (1002, .vec 1 (v7.map B5))] rfl rfl) (Ap ?_)
   exact ⟨⟨[_, _], ⟨.cellN _ _ _ _ _ _ _ rfl rfl Br AH rfl rfl (Hi rfl), tm⟩, rfl⟩, ⟨rfl, rfl, rfl, tv⟩⟩
theorem GY (N : Nat) (p0 : Ad) (p1 : Int) (r : Int) (h : Dc N p0 p1 = some r) : Ar Tryd.prog 41 [.e (.agg (AE p0)), iD p1] [] (pD (.val (.int .u8 r))) := by
 unfold Dc at h
 refine cw (n := 27) (rs := [.tmp 4]) Tryd.func41 fun w0 S0 => ?_
 refine wq rfl (qb rfl (qa rfl (Ab (wq rfl (qf C3 rfl (ql Bh rfl (qm rfl ?_)))))))
 refine CB h fun v1 a1 b1 h => qi Ax Dk a1 (Aj b1) rfl (qk B6 rfl ?_)
 refine EN h fun c2 h => HJ rfl c2 (qe rfl ?_)
 refine AO h (fun v3 => mk [(5, pD (.val (.int .u8 v3)))] []) (fun j3 h => ?_) (fun v3 h => ?_)
 ·refine wq rfl (qf B2 rfl (ql Bh rfl (qm rfl ?_)))
  refine CB h fun v4 a4 b4 h => qi Ax Dk a4 (Aj b4) rfl (qk B6 rfl (FA rfl (Ab ?_)))
  refine Bp h (fun h => ?_) fun h => ?_
  ·refine Ai Az rfl (qm rfl (qf B2 rfl (ql Bh rfl (qm rfl ?_))))
   refine CB h fun v6 a6 b6 h => qi Ax Dk a6 (Aj b6) rfl (qk B6 rfl ?_)
   refine EN h fun c7 h => HJ rfl c7 (P7 rfl (qe rfl ?_))
   exact sn [] h
  ·refine Am ?_
   exact sn [] h
 ·refine wq rfl (qm rfl (qe rfl ?_))
  obtain rfl := sj h
  refine Af (sm [] [(4, pD (.val (.int .u8 v3)))] [] rfl rfl) (Ap ?_)
  exact ⟨⟨[_], tm, rfl⟩, tv⟩
theorem GR (N : Nat) (p0 : Aa) (p1 : Ad) (r : Int) (h : Di N p0 p1 = some r) : Ar Tryd.prog 27 [.e (.agg (Al p0)), .e (.agg (AE p1))] [] (iD r) := by
 unfold Di at h
 refine cw (n := 135) (rs := [.tmp 4]) Tryd.func27 fun w0 S0 => ?_
 refine wq rfl (qb rfl (qb rfl (qa rfl (Ab (wp rfl (qL CI Ce rfl ?_))))))
 refine BT h fun v1 a1 h => As [] (Eu N p0 v1 a1) TD rfl (qa rfl (Ab (wq rfl (qm rfl (BM rfl (Ab ?_))))))
 refine Bp h (fun h => ?_) fun h => ?_
 ·refine wq rfl (qm rfl (qe rfl ?_))
  obtain rfl := sj h
  refine Af (sm [] [(4, iD v1)] [] rfl rfl) (Ap ?_)
  exact ⟨⟨[_], tm, rfl⟩, tv⟩
 ·refine Am (AG ?_)
  refine AO h (fun v3 => mk [(2, oD (.ptr 2 0)), (3, oD (.ptr 3 0)), (41, bD v3)] [(2, .box (Al p0)), (3, .box (AE p1))]) (fun j3 h => ?_) (fun v3 h => ?_)
  ·refine Ai Az rfl (qf C3 rfl (ql Bh rfl (AA Ax rfl (qf Bn rfl (ql Bh rfl (AA Ax rfl (BM rfl (qm rfl ?_))))))))
   refine DO 24 h rfl (fun h => ?_) fun h => ?_
   ·refine qw 7 rfl (qp rfl (qw 8 rfl (qp rfl (Ab ?_))))
    exact sn [] h
   ·refine qf B2 rfl (ql Bh rfl (AA Ax rfl (qf Bn rfl (ql Bh rfl (AA Ax rfl (BM rfl (qp rfl (qm rfl ?_))))))))
    refine DO 33 h rfl (fun h => ?_) fun h => ?_
    ·refine qw 7 rfl (qp rfl (Ab ?_))
     exact sn [] h
    ·refine qf Dn rfl (ql IW rfl (AA DD rfl (qf CO rfl (ql Hq rfl (AA DP rfl (BM rfl (qp rfl (Ab ?_))))))))
     exact sn [] h
  ·refine Bp h (fun h => ?_) fun h => ?_
   ·refine wq rfl (qe rfl ?_)
    obtain rfl := sj h
    refine Af (sm [] [(4, iD 6)] [] rfl rfl) (Ap ?_)
    exact ⟨⟨[_], tm, rfl⟩, tv⟩
   ·refine Am (wp rfl (qf Bn rfl (ql Bh rfl (AA Ax rfl (qm rfl (Ab ?_))))))
    refine AF (L := Cx N p0 p1) h (fun v7 => mk [(2, oD (.ptr 2 0)), (3, oD (.ptr 3 0)), (43, pD (.sl (p0.fb.map Ak))), (44, iD ((p0.fb.length : Int))), (45, iD v7)] [(2, .box (Al p0)), (3, .box (AE p1))]) (fun v8 => mk [(2, oD (.ptr 2 0)), (3, oD (.ptr 3 0))] [(2, .box (Al p0)), (3, .box (AE p1))]) (fun _ _ => rfl) (sm [] _ _ rfl rfl) (fun j7 n7 v7 h => ?_) (fun v8 s h hs => ?_)
    ·unfold Cx at h
     refine wq rfl (A3 rfl (Ab (AG ?_)))
     refine Bp h (fun h => ?_) fun h => ?_
     ·refine Am (AG (AP (wq rfl (qm rfl ?_))))
      refine CB h fun v10 a10 b10 h => qi Ax Dk a10 (Aj b10) rfl (qk B6 rfl (qa rfl (qa rfl (Ab (AG ?_)))))
      refine AO h (fun v11 => mk [(2, oD (.ptr 2 0)), (3, oD (.ptr 3 0)), (6, iD v7), (43, pD (.sl (p0.fb.map Ak))), (44, iD ((p0.fb.length : Int))), (45, iD v7), (81, bD v11)] [(2, .box (Al p0)), (3, .box (AE p1))]) (fun j11 h => ?_) (fun v11 h => ?_)
      ·refine Ai Az rfl (qf C3 rfl (ql Bh rfl (qm rfl ?_)))
       refine CB h fun v12 a12 b12 h => qi Ax Dk a12 (Aj b12) rfl (qk B6 rfl (A3 rfl (qm rfl ?_)))
       refine DO 56 h rfl (fun h => ?_) fun h => ?_
       ·refine qw 7 rfl (qp rfl (qw 7 rfl (qp rfl (qw 8 rfl (qp rfl (Ab ?_))))))
        exact sn [] h
       ·refine qf C3 rfl (ql Bh rfl (qm rfl ?_))
        refine CB h fun v14 a14 b14 h => qi Ax Dk a14 (Aj b14) rfl (qk B6 rfl (qm rfl (FA rfl (qp rfl (qm rfl ?_)))))
        refine DO 65 h rfl (fun h => ?_) fun h => ?_
        ·refine qw 6 rfl (qp rfl (qw 8 rfl (qp rfl (Ab ?_))))
         exact sn [] h
        ·refine qf B2 rfl (ql Bh rfl (qm rfl ?_))
         refine CB h fun v16 a16 b16 h => qi Ax Dk a16 (Aj b16) rfl (qk B6 rfl (A3 rfl (qp rfl (qm rfl ?_))))
         refine DO 73 h rfl (fun h => ?_) fun h => ?_
         ·refine qw 7 rfl (qp rfl (Ab ?_))
          exact sn [] h
         ·refine qf B2 rfl (ql Bh rfl (qm rfl ?_))
          refine CB h fun v18 a18 b18 h => qi Ax Dk a18 (Aj b18) rfl (qk B6 rfl (qm rfl (FA rfl (qp rfl (Ab ?_)))))
          exact sn [] h
      ·refine Bp h (fun h => ?_) fun h => ?_
       ·refine wq rfl (qe rfl ?_)
        obtain rfl := sj h
        refine Af (sm [] [(4, iD 7)] [] rfl rfl) (Ap ?_)
        exact ⟨⟨[_], tm, rfl⟩, tv⟩
       ·refine Am (wq rfl (qf C3 rfl (ql Bh rfl (qm rfl ?_))))
        refine CB h fun v20 a20 b20 h => qi Ax Dk a20 (Aj b20) rfl (qk B6 rfl (qf B2 rfl (ql Bh rfl (qm rfl ?_))))
        refine CB h fun v21 a21 b21 h => qi Ax Dk a21 (Aj b21) rfl (qk B6 rfl (BC rfl (AI (by kernel_rfl) ?_)))
        refine Bp h (fun h => ?_) fun h => ?_
        ·refine wq rfl (qe rfl ?_)
         obtain rfl := sj h
         refine Af (sm [] [(4, iD 1)] [] rfl rfl) (Ap ?_)
         exact ⟨⟨[_], tm, rfl⟩, tv⟩
        ·refine Am (Ai Az rfl (Bt rfl (qm rfl (Ab ?_))))
         exact sn [] h
     ·refine A5 ?_
      exact sn [] h
    ·refine Af hs (wp rfl (qf CO rfl (ql Hq rfl (AA DP rfl (qm rfl (Ab ?_))))))
     refine AF (L := B8 N p0 p1) h (fun v23 => mk [(2, oD (.ptr 2 0)), (3, oD (.ptr 3 0)), (95, pD (.sl (p0.fd.map AC))), (96, iD ((p0.fd.length : Int))), (97, iD v23)] [(2, .box (Al p0)), (3, .box (AE p1))]) (fun v24 => mk [] []) (fun _ _ => rfl) (sm [] _ _ rfl rfl) (fun j23 n23 v23 h => ?_) (fun v24 s h hs => ?_)
     ·unfold B8 at h
      refine wq rfl (A3 rfl (Ab (AG ?_)))
      refine Bp h (fun h => ?_) fun h => ?_
      ·refine Am (AG (AP (wq rfl (qm rfl ?_))))
       refine CB h fun v26 a26 b26 h => qi DP DN a26 (Aj b26) rfl (qK Hc DN rfl (qz KQ rfl (qa rfl (qs DN rfl (Ab (wq rfl (qa rfl (qe rfl ?_))))))))
       refine AO h (fun v27 => mk [(2, oD (.ptr 2 0)), (3, oD (.ptr 3 0)), (8, iD v23), (10, pD (.val (.int .u8 v27.1))), (11, pD (.val (.int .u8 v27.2))), (95, pD (.sl (p0.fd.map AC))), (96, iD ((p0.fd.length : Int))), (97, iD v23)] [(2, .box (Al p0)), (3, .box (AE p1))]) (fun j27 h => ?_) (fun v27 h => ?_)
       ·refine wq rfl (qL Hc DN rfl ?_)
        refine BT h fun v28 a28 h => As [] (HB N v26 v28 a28) TA rfl (Ab ?_)
        refine Bp h (fun h => ?_) fun h => ?_
        ·refine Ai Az rfl (qL Br AH rfl (qf CQ rfl (ql B6 rfl ?_)))
         refine BT h fun v30 a30 h => As [] (GY N p1 v26.fg v30 a30) SQ rfl (qf Bn rfl (ql Bh rfl (qf CQ rfl (ql B6 rfl ?_))))
         refine CB h fun v31 a31 b31 h => qi Ax Dk a31 (Aj b31) rfl (qk B6 rfl ?_)
         refine EN h fun c32 h => HJ rfl c32 (KF rfl (qa rfl (qa rfl (AI (by kernel_rfl) ?_))))
         exact sn [] h
        ·refine Am ?_
         exact sn [] h
       ·refine AO h (fun v33 => mk [(2, oD (.ptr 2 0)), (3, oD (.ptr 3 0)), (95, pD (.sl (p0.fd.map AC))), (96, iD ((p0.fd.length : Int))), (97, iD v23), (133, bD v33)] [(2, .box (Al p0)), (3, .box (AE p1))]) (fun j33 h => ?_) (fun v33 h => ?_)
        ·refine Ai Az rfl (qm rfl (qf Dn rfl (ql IW rfl (qm rfl ?_))))
         refine CB h fun v34 a34 b34 h => qi DD GZ a34 (Aj b34) rfl (qk NH rfl (Lb rfl (BM rfl (qm rfl ?_))))
         refine DO 124 h rfl (fun h => ?_) fun h => ?_
         ·refine qw 8 rfl (qp rfl (Ab ?_))
          exact sn [] h
         ·refine qf Dn rfl (ql IW rfl (qm rfl ?_))
          refine CB h fun v36 a36 b36 h => qi DD GZ a36 (Aj b36) rfl (qk NH rfl (qm rfl (Lb rfl (BM rfl (qp rfl (Ab ?_))))))
          exact sn [] h
        ·refine Bp h (fun h => ?_) fun h => ?_
         ·refine wq rfl (qe rfl ?_)
          obtain rfl := sj h
          refine Af (sm [] [(4, iD 1)] [] rfl rfl) (Ap ?_)
          exact ⟨⟨[_], tm, rfl⟩, tv⟩
         ·refine Am (Ai Az rfl (Bt rfl (qm rfl (Ab ?_))))
          exact sn [] h
      ·refine A5 ?_
       exact sn [] h
     ·refine Af hs (wq rfl (qe rfl ?_))
      obtain rfl := sj h
      refine Af (sm [] [(4, iD 0)] [] rfl rfl) (Ap ?_)
      exact ⟨⟨[_], tm, rfl⟩, tv⟩
theorem DE (N : Nat) (p0 : List Int) (r : (List Int)) (h : A6 N p0 = some r) : Ar Tryd.prog 76 [pD (.sl (p0.map B5))] [(1, r.map B5)] (oD (.own 0)) := by
 unfold A6 at h
 refine cw (n := 8) (rs := [.tmp 2]) Tryd.func76 fun w0 S0 => ?_
 refine wq rfl (qa rfl (Ab (wp rfl (qm rfl ?_))))
 refine MG (.p rfl) rfl DD ?_
 refine Ab ?_
 refine MM rfl (fun c2 => ?_) ?_
 ·have c2 := List.map_eq_nil_iff.1 c2
  rw [c2] at h
  have h : (some (([] : List Int))) = some r := h
  refine wq rfl (qe rfl ?_)
  obtain rfl := sj h
  refine Af ((BV 2 2001 1 rfl rfl rfl).trans (sm [(1000, 2001)] [(2, oD (.own 1000))] [(1000, .vec 1 ((([] : List Int)).map B5))] rfl rfl)) (Ap ?_)
  exact ⟨⟨[_], tm, rfl⟩, ⟨rfl, tv⟩⟩
 ·refine Am (wq rfl (Ev DD GZ Of rfl (qm rfl ?_)))
  refine EN h fun c1 h => N8 (f := B5) DD DD GZ OU Of (fun _ => rfl) c1 rfl (qe rfl ?_)
  obtain rfl := sj h
  refine Af (sm [(1000, 7)] [(2, oD (.own 1000))] [(1000, .vec 1 (((([] : List Int)) ++ p0).map B5))] rfl rfl) (Ap ?_)
  exact ⟨⟨[_], tm, rfl⟩, ⟨rfl, tv⟩⟩
theorem MN (N : Nat) (p0 : Aa) (p1 : Ad) (r : (List Ad) × Int) (h : EM N p0 p1 = some r) : Ar Tryd.prog 61 [.e (.agg (Al p0)), .e (.agg (AE p1))] [(3, r.1.map C6)] (.tup [.one (.own 0), .one (iC r.2)]) := by
 unfold EM at h
 refine cw (n := 75) (rs := [.tmp 4, .tmp 5]) Tryd.func61 fun w0 S0 => ?_
 refine wq rfl (qb rfl (qb rfl (qa rfl (qa rfl (Ab (wp rfl (qL CI Ce rfl (qL Br AH rfl ?_))))))))
 refine BT h fun v1 a1 h => As [] (GR N p0 p1 v1 a1) RE rfl (qa rfl (Ab (wq rfl (qm rfl (BM rfl (Ab ?_))))))
 refine Bp h (fun h => ?_) fun h => ?_
 ·refine wq rfl (qm rfl (qa rfl (qe rfl ?_)))
  obtain rfl := sj h
  refine Af ((BV 4 2001 3 rfl rfl rfl).trans (sm [(1000, 2001)] [(4, oD (.own 1000)), (5, iD v1)] [(1000, .vec 3 ((([] : List Ad)).map C6))] rfl rfl)) (Ap ?_)
  exact ⟨⟨[_, _], ⟨.tmp _ _ rfl, tm⟩, rfl⟩, ⟨rfl, tv⟩⟩
 ·refine Am (wq rfl (qa rfl (Ab (wp rfl (qf B2 rfl (ql Bh rfl (AA Ax rfl (qm rfl (Ab ?_)))))))))
  refine AF (L := Ca N p1) h (fun v3 => mk [(3, oD (.ptr 3 0)), (7, oD (.own 2002)), (22, pD (.sl (p1.fa.map Ak))), (23, iD ((p1.fa.length : Int))), (24, iD v3.2)] [(3, .box (AE p1)), (2002, .vec 1 (v3.1.map Ak))]) (fun v4 => mk [(3, oD (.ptr 3 0)), (7, oD (.own 2003))] [(3, .box (AE p1)), (2003, .vec 1 (v4.map Ak))]) (fun _ _ => rfl) ((BV 7 2005 1 rfl rfl rfl).trans (sm [(2002, 2005)] _ _ rfl rfl)) (fun j3 n3 v3 h => ?_) (fun v4 s h hs => ?_)
  ·unfold Ca at h
   refine wq rfl (A3 rfl (Ab (AG ?_)))
   refine Bp h (fun h => ?_) fun h => ?_
   ·refine Am ?_
    refine AO h (fun v6 => mk [(3, oD (.ptr 3 0)), (7, oD (.own 2004)), (22, pD (.sl (p1.fa.map Ak))), (23, iD ((p1.fa.length : Int))), (24, iD v3.2)] [(3, .box (AE p1)), (2004, .vec 1 (v6.map Ak))]) (fun j6 h => ?_) (fun v6 h => ?_)
    ·refine AP (wq rfl (qm rfl ?_))
     refine CB h fun v7 a7 b7 h => qi Ax Dk a7 (Aj b7) rfl (qk B6 rfl (qa rfl (qa rfl (Ab (wq rfl (qm rfl (FA rfl (Ab ?_))))))))
     refine Bp h (fun h => ?_) fun h => ?_
     ·refine Ai Az rfl (qw 2 rfl (Ev Ax Dk Ks rfl ?_))
      refine EN h fun c9 h => Dp (f := Ak) Ax Ax Dk Li Ks c9 rfl (qe rfl ?_)
      exact sn [(2004, 34)] h
     ·refine Am ?_
      exact sn [(2004, 2002)] h
    ·refine Ai Az rfl (Bt rfl (qm rfl (Ab ?_)))
     exact sn [(2002, 2004)] h
   ·refine A5 ?_
    exact sn [(2003, 2002)] h
  ·refine Af hs (wq rfl (qa rfl (Ab (wp rfl (qm rfl (FX Ax rfl ?_))))))
   refine EN h fun c10 h => HJ rfl c10 (qm rfl (Ab ?_))
   refine AF (L := BE N p1 v4) h (fun v11 => mk [(3, oD (.ptr 3 0)), (7, oD (.own 2006)), (10, oD (.own 2007)), (38, iD ((CJ .i64 1 ((v4.length : Int))))), (39, iD v11.2)] [(3, .box (AE p1)), (2006, .vec 1 (v4.map Ak)), (2007, .vec 3 (v11.1.map C6))]) (fun v12 => mk [(10, oD (.own 2008))] [(2008, .vec 3 (v12.map C6))]) (fun _ _ => rfl) ((BV 10 2027 3 rfl rfl rfl).trans (sm [(2006, 2003), (2007, 2027)] _ _ rfl rfl)) (fun j11 n11 v11 h => ?_) (fun v12 s h hs => ?_)
   ·unfold BE at h
    refine wq rfl (A3 rfl (Ab (AG ?_)))
    refine Bp h (fun h => ?_) fun h => ?_
    ·refine Am (AG (AP (wq rfl (qm rfl (qa rfl (Ab (wq rfl (qf C3 rfl (ql Bh rfl ?_)))))))))
     refine BT h fun v14 a14 h => As [2009] (Cl N p1.fe v14 a14) Qd rfl (qf B2 rfl (ql Bh rfl ?_))
     refine BT h fun v15 a15 h => As [2010] (Cl N p1.fa v15 a15) Qd rfl (qf Dn rfl (ql IW rfl ?_))
     refine BT h fun v16 a16 h => As [2011] (DE N p1.fc v16 a16) Uq rfl (Bv CM H5 rfl (qz CM rfl (qs AH rfl (AI (by kernel_rfl) (wp rfl (qm rfl (FX Ax rfl (qm rfl (Ab ?_)))))))))
     refine AF (L := BI N v4 v11) h (fun v17 => mk [(3, oD (.ptr 3 0)), (7, oD (.own 2015)), (10, oD (.own 2016)), (11, iD v11.2), (12, oD (.ptr 12 0)), (38, iD ((CJ .i64 1 ((v4.length : Int))))), (39, iD v11.2), (52, oD (.own 2015)), (53, iD ((v4.length : Int))), (54, iD v17.2)] [(3, .box (AE p1)), (12, .box [.own 2012, .own 2013, .own 2014]), (2012, .vec 1 (v14.map Ak)), (2013, .vec 1 (v17.1.map Ak)), (2014, .vec 1 (v16.map B5)), (2015, .vec 1 (v4.map Ak)), (2016, .vec 3 (v11.1.map C6))]) (fun v18 => mk [(3, oD (.ptr 3 0)), (7, oD (.own 2020)), (10, oD (.own 2021)), (12, oD (.ptr 12 0)), (38, iD ((CJ .i64 1 ((v4.length : Int))))), (39, iD v11.2)] [(3, .box (AE p1)), (12, .box [.own 2017, .own 2018, .own 2019]), (2017, .vec 1 (v14.map Ak)), (2018, .vec 1 (v18.map Ak)), (2019, .vec 1 (v16.map B5)), (2020, .vec 1 (v4.map Ak)), (2021, .vec 3 (v11.1.map C6))]) (fun _ _ => rfl) (sm [(2012, 2009), (2013, 2010), (2014, 2011), (2015, 2006), (2016, 2007)] _ _ rfl rfl) (fun j17 n17 v17 h => ?_) (fun v18 s h hs => ?_)
     ·unfold BI at h
      refine wq rfl (A3 rfl (Ab (AG ?_)))
      refine Bp h (fun h => ?_) fun h => ?_
      ·refine Am ?_
       refine AO h (fun v20 => mk [(3, oD (.ptr 3 0)), (7, oD (.own 2025)), (10, oD (.own 2026)), (11, iD v11.2), (12, oD (.ptr 12 0)), (38, iD ((CJ .i64 1 ((v4.length : Int))))), (39, iD v11.2), (52, oD (.own 2025)), (53, iD ((v4.length : Int))), (54, iD v17.2)] [(3, .box (AE p1)), (12, .box [.own 2022, .own 2023, .own 2024]), (2022, .vec 1 (v14.map Ak)), (2023, .vec 1 (v20.map Ak)), (2024, .vec 1 (v16.map B5)), (2025, .vec 1 (v4.map Ak)), (2026, .vec 3 (v11.1.map C6))]) (fun j20 h => ?_) (fun v20 h => ?_)
       ·refine AP (wq rfl (qm rfl ?_))
        refine CB h fun v21 a21 b21 h => qI Ax Dk a21 (Aj b21) rfl (qj B6 (Aj b21) rfl (qa rfl (qa rfl (Ab (wq rfl (qw 2 rfl ?_))))))
        refine EN h fun c22 h => Ib rfl c22 (JZ rfl (BC rfl (Ab ?_)))
        refine Bp h (fun h => ?_) fun h => ?_
        ·refine Ai Az rfl (qf B2 rfl (ql Bh rfl (qm rfl ?_)))
         refine CB h fun v24 a24 b24 h => qI Ax Dk a24 (Aj b24) rfl ?_
         refine GH rfl rfl rfl rfl (Aj b24) rfl Dk rfl (Iz rfl) (Gs Ak v17.1 _ ((-1))) ?_
         refine Ab ?_
         exact sn [(2022, 2012), (2023, 2013), (2024, 2014), (2025, 2015), (2026, 2016)] h
        ·refine Am ?_
         exact sn [(2022, 2012), (2023, 2013), (2024, 2014), (2025, 2015), (2026, 2016)] h
       ·refine Ai Az rfl (Bt rfl (qm rfl (Ab ?_)))
        exact sn [(2012, 2022), (2013, 2023), (2014, 2024), (2015, 2025), (2016, 2026)] h
      ·refine A5 ?_
       exact sn [(2017, 2012), (2018, 2013), (2019, 2014), (2020, 2015), (2021, 2016)] h
     ·refine Af hs (Ai Az rfl (qm rfl (qL Br AH rfl (Dy (Ba 2017 _ _ rfl rfl) (Dy (Ba 2018 _ _ rfl rfl) (Dy (Ba 2019 _ _ rfl rfl) (Ev Ha AH CM rfl ?_)))))))
      refine EN h fun c25 h => Dp (f := C6) Ha Ha AH So CM c25 rfl (qa rfl (Ab (Ai Az rfl (Bt rfl (qm rfl (Ab ?_))))))
      exact sn [(2006, 2020), (2007, 72)] h
    ·refine A5 ?_
     exact sn [(2008, 2007)] h
   ·refine Af hs (wq rfl (qm rfl (qa rfl (qe rfl ?_))))
    obtain rfl := sj h
    refine Af (sm [(1000, 2008)] [(4, oD (.own 1000)), (5, iD 0)] [(1000, .vec 3 (v12.map C6))] rfl rfl) (Ap ?_)
    exact ⟨⟨[_, _], ⟨.tmp _ _ rfl, tm⟩, rfl⟩, ⟨rfl, tv⟩⟩
theorem Km (N : Nat) (p0 : Aa) (p1 : Ad) (r : (List An)) (h : DF N p0 p1 = some r) : Ar Tryd.prog 62 [.e (.agg (Al p0)), .e (.agg (AE p1))] [(3, r.map Bq)] (oD (.own 0)) := by
 unfold DF at h
 refine cw (n := 98) (rs := [.tmp 4]) Tryd.func62 fun w0 S0 => ?_
 refine wq rfl (qb rfl (qb rfl (qa rfl (Ab (wq rfl (qa rfl (Ab (wp rfl (qf CO rfl (ql Hq rfl (AA DP rfl (qm rfl (Ab ?_)))))))))))))
 refine AF (L := BW N p0 p1) h (fun v1 => mk [(3, oD (.ptr 3 0)), (5, oD (.own 2001)), (15, pD (.sl (p0.fd.map AC))), (16, iD ((p0.fd.length : Int))), (17, iD v1.2)] [(3, .box (AE p1)), (2001, .vec 3 (v1.1.map Bq))]) (fun v2 => mk [(5, oD (.own 2002))] [(2002, .vec 3 (v2.map Bq))]) (fun _ _ => rfl) ((BV 5 2013 3 rfl rfl rfl).trans (sm [(2001, 2013)] _ _ rfl rfl)) (fun j1 n1 v1 h => ?_) (fun v2 s h hs => ?_)
 ·unfold BW at h
  refine wq rfl (A3 rfl (Ab (AG ?_)))
  refine Bp h (fun h => ?_) fun h => ?_
  ·refine Am (AG (AP (wq rfl (qm rfl ?_))))
   refine CB h fun v4 a4 b4 h => qi DP DN a4 (Aj b4) rfl (qK Hc DN rfl (qz KQ rfl (qa rfl (qs DN rfl (Ab (wq rfl (qL Br AH rfl (qf CQ rfl (ql B6 rfl ?_)))))))))
   refine BT h fun v5 a5 h => As [] (GY N p1 v4.fg v5 a5) SQ rfl (qL Br AH rfl (qf Hn rfl (ql B6 rfl ?_)))
   refine BT h fun v6 a6 h => As [] (GY N p1 v4.fj v6 a6) SQ rfl (qa rfl (qa rfl (AI (by kernel_rfl) ?_)))
   refine AO h (fun v7 => mk [(3, oD (.ptr 3 0)), (5, oD (.own 2003)), (6, iD v1.2), (7, oD (.ptr 7 0)), (8, pD (.val (.int .u8 v7))), (9, pD (.val (.int .u8 v6))), (15, pD (.sl (p0.fd.map AC))), (16, iD ((p0.fd.length : Int))), (17, iD v1.2)] [(3, .box (AE p1)), (7, .box (Bz v4)), (2003, .vec 3 (v1.1.map Bq))]) (fun j7 h => ?_) (fun v7 h => ?_)
   ·refine wq rfl (qL Hc DN rfl ?_)
    refine BT h fun v8 a8 h => As [] (HB N v4 v8 a8) TA rfl (Ab ?_)
    refine Bp h (fun h => ?_) fun h => ?_
    ·refine Ai Az rfl (qf Dn rfl (ql IW rfl (qm rfl ?_)))
     refine CB h fun v10 a10 b10 h => qi DD GZ a10 (Aj b10) rfl (qk NH rfl (qe rfl ?_))
     exact sn [(2003, 2001)] h
    ·refine Am ?_
     exact sn [(2003, 2001)] h
   ·refine wq rfl (qf I5 rfl (ql Jp rfl (AA Fz rfl (qm rfl (Ab ?_)))))
    refine AF (L := Bo N v1 v4 v6 v7) h (fun v11 => mk [(3, oD (.ptr 3 0)), (5, oD (.own 2004)), (6, iD v1.2), (7, oD (.ptr 7 0)), (8, pD (.val (.int .u8 v7))), (9, pD (.val (.int .u8 v6))), (15, pD (.sl (p0.fd.map AC))), (16, iD ((p0.fd.length : Int))), (17, iD v1.2), (39, iD ((v4.fp.length : Int))), (40, iD v11.2)] [(3, .box (AE p1)), (7, .box (Bz v4)), (2004, .vec 3 (v11.1.map Bq))]) (fun v12 => mk [(3, oD (.ptr 3 0)), (5, oD (.own 2005)), (15, pD (.sl (p0.fd.map AC))), (16, iD ((p0.fd.length : Int))), (17, iD v1.2)] [(3, .box (AE p1)), (2005, .vec 3 (v12.map Bq))]) (fun _ _ => rfl) (sm [(2004, 2003)] _ _ rfl rfl) (fun j11 n11 v11 h => ?_) (fun v12 s h hs => ?_)
    ·unfold Bo at h
     refine wq rfl (A3 rfl (Ab (AG ?_)))
     refine Bp h (fun h => ?_) fun h => ?_
     ·refine Am ?_
      refine AO h (fun v14 => mk [(3, oD (.ptr 3 0)), (5, oD (.own 2006)), (6, iD v1.2), (7, oD (.ptr 7 0)), (8, pD (.val (.int .u8 v7))), (9, pD (.val (.int .u8 v6))), (15, pD (.sl (p0.fd.map AC))), (16, iD ((p0.fd.length : Int))), (17, iD v1.2), (39, iD ((v4.fp.length : Int))), (40, iD v11.2)] [(3, .box (AE p1)), (7, .box (Bz v4)), (2006, .vec 3 (v14.map Bq))]) (fun j14 h => ?_) (fun v14 h => ?_)
      ·refine AP (wq rfl (qm rfl (qa rfl (Ab (wp rfl (qw 2 rfl ?_))))))
       refine EN h fun c15 h => Ib rfl c15 (JZ rfl (BC rfl (Ab ?_)))
       refine Bp h (fun h => ?_) fun h => ?_
       ·refine A5 ?_
        exact sn [(2006, 2004)] h
       ·refine Am (wq rfl (qa rfl (Ab (wp rfl (qf I5 rfl (ql Jp rfl (qm rfl ?_)))))))
        refine CB h fun v17 a17 b17 h => qi Fz NE a17 (Aj b17) rfl (qk Pk rfl (AA F5 rfl (qm rfl (Ab ?_))))
        refine AF (L := A7 N v1 v4 v6 v11 v17) h (fun v18 => mk [(3, oD (.ptr 3 0)), (5, oD (.own 2007)), (6, iD v1.2), (7, oD (.ptr 7 0)), (8, pD (.val (.int .u8 v7))), (9, pD (.val (.int .u8 v6))), (10, iD v11.2), (11, bD v18.2.1), (15, pD (.sl (p0.fd.map AC))), (16, iD ((p0.fd.length : Int))), (17, iD v1.2), (39, iD ((v4.fp.length : Int))), (40, iD v11.2), (52, pD (.sl (v17.map eB))), (53, iD ((v17.length : Int))), (54, iD v18.2.2)] [(3, .box (AE p1)), (7, .box (Bz v4)), (2007, .vec 3 (v18.1.map Bq))]) (fun v19 => mk [(3, oD (.ptr 3 0)), (5, oD (.own 2008)), (6, iD v1.2), (7, oD (.ptr 7 0)), (8, pD (.val (.int .u8 v7))), (9, pD (.val (.int .u8 v6))), (10, iD v11.2), (11, bD v19.2), (15, pD (.sl (p0.fd.map AC))), (16, iD ((p0.fd.length : Int))), (17, iD v1.2), (39, iD ((v4.fp.length : Int))), (40, iD v11.2)] [(3, .box (AE p1)), (7, .box (Bz v4)), (2008, .vec 3 (v19.1.map Bq))]) (fun _ _ => rfl) (sm [(2007, 2004)] _ _ rfl rfl) (fun j18 n18 v18 h => ?_) (fun v19 s h hs => ?_)
        ·unfold A7 at h
         refine wq rfl (A3 rfl (Ab (AG ?_)))
         refine Bp h (fun h => ?_) fun h => ?_
         ·refine Am ?_
          refine AO h (fun v21 => mk [(3, oD (.ptr 3 0)), (5, oD (.own 2009)), (6, iD v1.2), (7, oD (.ptr 7 0)), (8, pD (.val (.int .u8 v7))), (9, pD (.val (.int .u8 v6))), (10, iD v11.2), (11, bD v21.2), (15, pD (.sl (p0.fd.map AC))), (16, iD ((p0.fd.length : Int))), (17, iD v1.2), (39, iD ((v4.fp.length : Int))), (40, iD v11.2), (52, pD (.sl (v17.map eB))), (53, iD ((v17.length : Int))), (54, iD v18.2.2)] [(3, .box (AE p1)), (7, .box (Bz v4)), (2009, .vec 3 (v21.1.map Bq))]) (fun j21 h => ?_) (fun v21 h => ?_)
          ·refine AP (wq rfl (qm rfl ?_))
           refine CB h fun v22 a22 b22 h => qi F5 PK a22 (Aj b22) rfl (qk Sg rfl (qa rfl (qa rfl (Ab (wp rfl (qw 2 rfl ?_))))))
           refine EN h fun c23 h => Ib rfl c23 (JZ rfl (BC rfl (Ab ?_)))
           refine Bp h (fun h => ?_) fun h => ?_
           ·refine A5 ?_
            exact sn [(2009, 2007)] h
           ·refine Am ?_
            refine AO h (fun v25 => mk [(3, oD (.ptr 3 0)), (5, oD (.own 2010)), (6, iD v1.2), (7, oD (.ptr 7 0)), (8, pD (.val (.int .u8 v7))), (9, pD (.val (.int .u8 v6))), (10, iD v11.2), (11, bD v25), (12, iD v18.2.2), (13, bD v22), (15, pD (.sl (p0.fd.map AC))), (16, iD ((p0.fd.length : Int))), (17, iD v1.2), (39, iD ((v4.fp.length : Int))), (40, iD v11.2), (52, pD (.sl (v17.map eB))), (53, iD ((v17.length : Int))), (54, iD v18.2.2)] [(3, .box (AE p1)), (7, .box (Bz v4)), (2010, .vec 3 (v18.1.map Bq))]) (fun j25 h => ?_) (fun v25 h => ?_)
            ·refine Ai Az rfl (qw 2 rfl ?_)
             refine DO 65 h rfl (fun h => ?_) fun h => ?_
             ·refine qn rfl (qp rfl (qe rfl ?_))
              exact sn [(2010, 2007)] h
             ·refine qm rfl (qp rfl (qe rfl ?_))
              exact sn [(2010, 2007)] h
            ·refine AO h (fun v27 => mk [(3, oD (.ptr 3 0)), (5, oD (.own 2011)), (6, iD v1.2), (7, oD (.ptr 7 0)), (8, pD (.val (.int .u8 v7))), (9, pD (.val (.int .u8 v6))), (10, iD v11.2), (11, bD v25), (12, iD v18.2.2), (15, pD (.sl (p0.fd.map AC))), (16, iD ((p0.fd.length : Int))), (17, iD v1.2), (39, iD ((v4.fp.length : Int))), (40, iD v11.2), (52, pD (.sl (v17.map eB))), (53, iD ((v17.length : Int))), (54, iD v18.2.2), (74, bD v27)] [(3, .box (AE p1)), (7, .box (Bz v4)), (2011, .vec 3 (v18.1.map Bq))]) (fun j27 h => ?_) (fun v27 h => ?_)
             ·refine Ai Az rfl (qm rfl (Ck rfl (qm rfl ?_)))
              refine DO 70 h rfl (fun h => ?_) fun h => ?_
              ·refine qf Ii rfl (ql Sg rfl (Ck rfl (qp rfl (Ab ?_))))
               exact sn [(2011, 2010)] h
              ·refine qw 3 rfl (qp rfl (Ab ?_))
               exact sn [(2011, 2010)] h
             ·refine Bp h (fun h => ?_) fun h => ?_
              ·refine Ai Az rfl (qw 4 rfl (Bv HL NY rfl (Ev H6 E7 HL rfl ?_)))
               refine EN h fun c30 h => Dp (f := Bq) H6 H6 E7 SG HL c30 rfl (qe rfl ?_)
               exact sn [(2009, 81)] h
              ·refine Am ?_
               exact sn [(2009, 2011)] h
          ·refine Ai Az rfl (Bt rfl (qm rfl (Ab ?_)))
           exact sn [(2007, 2009)] h
         ·refine A5 ?_
          exact sn [(2008, 2007)] h
        ·refine Af hs ?_
         refine AO h (fun v31 => mk [(3, oD (.ptr 3 0)), (5, oD (.own 2012)), (6, iD v1.2), (7, oD (.ptr 7 0)), (8, pD (.val (.int .u8 v7))), (9, pD (.val (.int .u8 v6))), (10, iD v11.2), (15, pD (.sl (p0.fd.map AC))), (16, iD ((p0.fd.length : Int))), (17, iD v1.2), (39, iD ((v4.fp.length : Int))), (40, iD v11.2), (88, bD v31)] [(3, .box (AE p1)), (7, .box (Bz v4)), (2012, .vec 3 (v19.1.map Bq))]) (fun j31 h => ?_) (fun v31 h => ?_)
         ·refine Ai Az rfl (qf Ii rfl (ql Sg rfl (qm rfl ?_)))
          refine DO 85 h rfl (fun h => ?_) fun h => ?_
          ·refine qm rfl (Ck rfl (qp rfl (Ab ?_)))
           exact sn [(2012, 2008)] h
          ·refine qw 2 rfl (qp rfl (Ab ?_))
           exact sn [(2012, 2008)] h
         ·refine Bp h (fun h => ?_) fun h => ?_
          ·refine Ai Az rfl (qw 3 rfl (Bv HL NY rfl (Ev H6 E7 HL rfl ?_)))
           refine EN h fun c34 h => Dp (f := Bq) H6 H6 E7 SG HL c34 rfl (qe rfl ?_)
           exact sn [(2006, 94)] h
          ·refine Am ?_
           exact sn [(2006, 2012)] h
      ·refine Ai Az rfl (Bt rfl (qm rfl (Ab ?_)))
       exact sn [(2004, 2006)] h
     ·refine A5 ?_
      exact sn [(2005, 2004)] h
    ·refine Af hs (Ai Az rfl (Bt rfl (qm rfl (Ab ?_))))
     exact sn [(2001, 2005)] h
  ·refine A5 ?_
   exact sn [(2002, 2001)] h
 ·refine Af hs (wq rfl (qm rfl (qe rfl ?_)))
  obtain rfl := sj h
  refine Af (sm [(1000, 2002)] [(4, oD (.own 1000))] [(1000, .vec 3 (v2.map Bq))] rfl rfl) (Ap ?_)
  exact ⟨⟨[_], tm, rfl⟩, ⟨rfl, tv⟩⟩
theorem HP (N : Nat) (p0 : Aa) (p1 : Ad) (r : Ad × An × Int) (h : D0 N p0 p1 = some r) : Ar Tryd.prog 47 [.e (.agg (Al p0)), .e (.agg (AE p1))] [] (.tup [.agg (AE r.1), .agg (Ff r.2.1), .one (iC r.2.2)]) := by
 unfold D0 at h
 refine cw (n := 42) (rs := [.cell 4 38, .cell 5 93, .tmp 6]) Tryd.func47 fun w0 S0 => ?_
 refine wq rfl (qb rfl (qb rfl (qz CM rfl (qz HL rfl (qa rfl (Ab (wq rfl (qL CI Ce rfl (qL Br AH rfl ?_)))))))))
 refine BT h fun v1 a1 h => As [2001] (MN N p0 p1 v1 a1) VN rfl (qm rfl (qx rfl (qx rfl (qa rfl (qa rfl (Ab (wp rfl (qm rfl (BM rfl (Ab ?_))))))))))
 refine Bp h (fun h => ?_) fun h => ?_
 ·refine wq rfl (Bv CM H5 rfl (Bv HL NY rfl (qm rfl (qs AH rfl (qs E7 rfl (qe rfl ?_))))))
  obtain rfl := sj h
  refine Af ((Ey 4 _ rfl).trans (sm [] [(4, oD (.ptr 4 0)), (5, oD (.ptr 5 0)), (6, iD v1.2)] [(4, .box [sC ((([] : List Int)).map Ak), sC ((([] : List Int)).map Ak), sC ((([] : List Int)).map B5)]), (5, .box [iC 0, iC 0, iC 0])] rfl rfl)) (Ap ?_)
  exact ⟨⟨[_, _, _], ⟨.cellN _ _ _ _ _ _ _ rfl rfl Br AH rfl rfl (Hi rfl), ⟨.cellN _ _ _ _ _ _ _ rfl rfl Kl E7 rfl rfl (Hi rfl), tm⟩⟩, rfl⟩, tv⟩
 ·refine Am (wp rfl (qm rfl (FX Ha rfl (qm rfl (Ab ?_)))))
  refine AF (L := CV N p0 v1) h (fun v3 => mk [(2, oD (.ptr 2 0)), (4, oD (.ptr 4 0)), (5, oD (.ptr 5 0)), (23, oD (.own 2002)), (24, iD ((v1.1.length : Int))), (25, iD v3)] [(2, .box (Al p0)), (4, .box [.pure (.nil0), .pure (.nil0), .pure (.nil0)]), (5, .box [iC 0, iC 0, iC 0]), (2002, .vec 3 (v1.1.map C6))]) (fun v4 => mk [(4, oD (.ptr 4 0)), (5, oD (.ptr 5 0))] [(4, .box [.pure (.nil0), .pure (.nil0), .pure (.nil0)]), (5, .box [iC 0, iC 0, iC 0])]) (fun _ _ => rfl) (sm [(2002, 2001)] _ _ rfl rfl) (fun j3 n3 v3 h => ?_) (fun v4 s h hs => ?_)
  ·unfold CV at h
   refine wq rfl (A3 rfl (Ab (AG ?_)))
   refine Bp h (fun h => ?_) fun h => ?_
   ·refine Am (AG (AP (wq rfl ?_)))
    refine CB h fun v6 a6 b6 h => qI Ha AH a6 (Aj b6) rfl (qJ Br AH (Aj b6) rfl (qz CM rfl (qs AH rfl (Ab (wq rfl (qL CI Ce rfl (qL Br AH rfl ?_)))))))
    refine BT h fun v7 a7 h => As [2003] (Km N p0 v6 v7 a7) Vm rfl (qa rfl (Ab (wq rfl (qm rfl (FX H6 rfl (Ew rfl (Ab ?_)))))))
    refine Bp h (fun h => ?_) fun h => ?_
    ·refine wq rfl (qL Br AH rfl (qm rfl ?_))
     refine CB h fun v9 a9 b9 h => qI H6 E7 a9 (Aj b9) rfl (qJ Kl E7 (Aj b9) rfl (qs AH rfl (qs E7 rfl (qa rfl (AI (by kernel_rfl) ?_)))))
     obtain rfl := sj h
     refine Af (sm [] [(4, oD (.ptr 4 0)), (5, oD (.ptr 5 0)), (6, iD 0)] [(4, .box (AE v6)), (5, .box (Ff v9))] rfl rfl) (Ap ?_)
     exact ⟨⟨[_, _, _], ⟨.cellN _ _ _ _ _ _ _ rfl rfl Br AH rfl rfl (Hi rfl), ⟨.cellN _ _ _ _ _ _ _ rfl rfl Kl E7 rfl rfl (Hi rfl), tm⟩⟩, rfl⟩, tv⟩
    ·refine Am (Ai Az rfl (Bt rfl (qm rfl (Ab ?_))))
     exact sn [] h
   ·refine A5 ?_
    exact sn [] h
  ·refine Af hs (wq rfl (Bv CM H5 rfl (Bv HL NY rfl (qs AH rfl (qs E7 rfl (qe rfl ?_))))))
   obtain rfl := sj h
   refine Af ((Ey 4 _ rfl).trans (sm [] [(4, oD (.ptr 4 0)), (5, oD (.ptr 5 0)), (6, iD 15)] [(4, .box [sC ((([] : List Int)).map Ak), sC ((([] : List Int)).map Ak), sC ((([] : List Int)).map B5)]), (5, .box [iC 0, iC 0, iC 0])] rfl rfl)) (Ap ?_)
   exact ⟨⟨[_, _, _], ⟨.cellN _ _ _ _ _ _ _ rfl rfl Br AH rfl rfl (Hi rfl), ⟨.cellN _ _ _ _ _ _ _ rfl rfl Kl E7 rfl rfl (Hi rfl), tm⟩⟩, rfl⟩, tv⟩
theorem I8 (N : Nat) (p0 : Ac) (r : Bool) (h : D4 N p0 = some r) : Ar Tryd.prog 63 [.e (.agg (C0 p0))] [] (bD r) := by
 unfold D4 at h
 refine cw (n := 27) (rs := [.tmp 2]) Tryd.func63 fun w0 S0 => ?_
 refine wq rfl (qb rfl (qa rfl (Ab (AG ?_))))
 refine AO h (fun v1 => mk [(1, oD (.ptr 1 0)), (18, bD v1)] [(1, .box (C0 p0))]) (fun j1 h => ?_) (fun v1 h => ?_)
 ·refine Ai Az rfl (qf Ez rfl (ql B6 rfl (qf HA rfl (ql B6 rfl ?_))))
  refine OM (.p rfl) rfl rfl ?_
  refine A3 rfl (qm rfl ?_)
  refine DO 9 h rfl (fun h => ?_) fun h => ?_
  ·refine qw 3 rfl (qp rfl (qw 4 rfl (qp rfl (Ab ?_))))
   exact sn [] h
  ·refine qf Fg rfl (ql B6 rfl (A3 rfl (qp rfl (qm rfl ?_))))
   refine DO 14 h rfl (fun h => ?_) fun h => ?_
   ·refine qw 3 rfl (qp rfl (Ab ?_))
    exact sn [] h
   ·refine qf Fg rfl (ql B6 rfl (Ew rfl (qp rfl (Ab ?_))))
    exact sn [] h
 ·refine Bp h (fun h => ?_) fun h => ?_
  ·refine wq rfl (qe rfl ?_)
   obtain rfl := sj h
   refine Af (sm [] [(2, bD false)] [] rfl rfl) (Ap ?_)
   exact ⟨⟨[_], tm, rfl⟩, tv⟩
  ·refine Am ?_
   refine AO h (fun v5 => mk [(2, bD v5)] []) (fun j5 h => ?_) (fun v5 h => ?_)
   ·refine Ai Az rfl (qf Fg rfl (ql B6 rfl (BC rfl (qm rfl ?_))))
    refine DO 22 h rfl (fun h => ?_) fun h => ?_
    ·refine qw 3 rfl (qp rfl (qe rfl ?_))
     exact sn [] h
    ·refine qf HA rfl (ql B6 rfl (BC rfl (qp rfl (qe rfl ?_))))
     exact sn [] h
   ·obtain rfl := sj h
    refine Af (sm [] [(2, bD v5)] [] rfl rfl) (Ap ?_)
    exact ⟨⟨[_], tm, rfl⟩, tv⟩
theorem Lj (N : Nat) (p0 : Aa) (p1 : Ac) (r : Bool) (h : Et N p0 p1 = some r) : Ar Tryd.prog 74 [.e (.agg (Al p0)), .e (.agg (C0 p1))] [] (bD r) := by
 unfold Et at h
 refine cw (n := 36) (rs := [.tmp 4]) Tryd.func74 fun w0 S0 => ?_
 refine wq rfl (qb rfl (qb rfl (qa rfl (Ab (wp rfl (qf Fg rfl (ql B6 rfl (BC rfl (Ab ?_)))))))))
 refine Bp h (fun h => ?_) fun h => ?_
 ·refine wq rfl (qf Ez rfl (ql B6 rfl (qf CO rfl (ql Hq rfl (AA DP rfl (A3 rfl (qe rfl ?_)))))))
  obtain rfl := sj h
  refine Af (sm [] [(4, bD ((decide (p1.fh < (p0.fd.length : Int)))))] [] rfl rfl) (Ap ?_)
  exact ⟨⟨[_], tm, rfl⟩, tv⟩
 ·refine Am ?_
  refine AO h (fun v2 => mk [(4, bD v2)] []) (fun j2 h => ?_) (fun v2 h => ?_)
  ·refine Ai Az rfl (qf Ez rfl (ql B6 rfl (qf Bn rfl (ql Bh rfl (AA Ax rfl (A3 rfl (qm rfl ?_)))))))
   refine DO 20 h rfl (fun h => ?_) fun h => ?_
   ·refine qf Fg rfl (ql B6 rfl (BM rfl (qm rfl ?_)))
    refine DO 24 h rfl (fun h => ?_) fun h => ?_
    ·refine qw 9 rfl (qp rfl (qp rfl (qa rfl (AI (by kernel_rfl) ?_))))
     exact sn [] h
    ·refine qf HA rfl (ql B6 rfl (qf Bn rfl (ql Bh rfl (qf Ez rfl (ql B6 rfl ?_)))))
     refine CB h fun v5 a5 b5 h => qi Ax Dk a5 (Aj b5) rfl (qk B6 rfl (A3 rfl (qp rfl (qp rfl (qa rfl (AI (by kernel_rfl) ?_))))))
     exact sn [] h
   ·refine qw 4 rfl (qu rfl (qu rfl (qu rfl (qu rfl (qu rfl (qu rfl (qu rfl (qu rfl (qu rfl (qn rfl (qp rfl (qa rfl (AI (by kernel_rfl) ?_)))))))))))))
    exact sn [] h
  ·obtain rfl := sj h
   refine Af (sm [] [(4, bD v2)] [] rfl rfl) (Ap ?_)
   exact ⟨⟨[_], tm, rfl⟩, tv⟩
theorem Lp (N : Nat) (p0 : Ad) (r : Ad) (h : Ei N p0 = some r) : Ar Tryd.prog 82 [.e (.agg (AE p0))] [(1, r.fe.map Ak), (1, r.fa.map Ak), (1, r.fc.map B5)] (.e (.agg [.own 0, .own 1, .own 2])) := by
 unfold Ei at h
 refine cw (n := 13) (rs := [.cell 2 38]) Tryd.func82 fun w0 S0 => ?_
 refine wq rfl (qb rfl (qz CM rfl (Ab (wq rfl (qf C3 rfl (ql Bh rfl ?_))))))
 refine BT h fun v1 a1 h => As [2001] (Cl N p0.fe v1 a1) Qd rfl (qf B2 rfl (ql Bh rfl ?_))
 refine BT h fun v2 a2 h => As [2002] (Cl N p0.fa v2 a2) Qd rfl (qf Dn rfl (ql IW rfl ?_))
 refine BT h fun v3 a3 h => As [2003] (DE N p0.fc v3 a3) Uq rfl (Bv CM H5 rfl (qs AH rfl (AI (by kernel_rfl) ?_)))
 obtain rfl := sj h
 refine Af (sm [(1000, 2001), (1001, 2002), (1002, 2003)] [(2, oD (.ptr 2 0))] [(2, .box [.own 1000, .own 1001, .own 1002]), (1000, .vec 1 (v1.map Ak)), (1001, .vec 1 (v2.map Ak)), (1002, .vec 1 (v3.map B5))] rfl rfl) (Ap ?_)
 exact ⟨⟨[_], ⟨.cellN _ _ _ _ _ _ _ rfl rfl Br AH rfl rfl (Hi rfl), tv⟩, rfl⟩, ⟨rfl, rfl, rfl, tv⟩⟩
theorem Ix (N : Nat) (p0 : Aq) (r : Bool) (h : DH N p0 = some r) : Ar Tryd.prog 87 [.e (.agg (Bz p0))] [] (bD r) := by
 unfold DH at h
 refine cw (n := 11) (rs := [.tmp 2]) Tryd.func87 fun w0 S0 => ?_
 refine wq rfl (qb rfl (qe rfl ?_))
 refine AO h (fun v1 => mk [(2, bD v1)] []) (fun j1 h => ?_) (fun v1 h => ?_)
 ·refine Ai Az rfl (qf Ex rfl (ql B6 rfl (BC rfl (qm rfl ?_))))
  refine DO 6 h rfl (fun h => ?_) fun h => ?_
  ·refine qw 3 rfl (qp rfl (qe rfl ?_))
   exact sn [] h
  ·refine qf Ex rfl (ql B6 rfl (BC rfl (qp rfl (qe rfl ?_))))
   exact sn [] h
 ·obtain rfl := sj h
  refine Af (sm [] [(2, bD v1)] [] rfl rfl) (Ap ?_)
  exact ⟨⟨[_], tm, rfl⟩, tv⟩
theorem Mh (N : Nat) (p0 : Aa) (p1 : Ad) (p2 : Ac) (r : Bool × (List Int) × (List Int)) (h : FJ N p0 p1 p2 = some r) : Cu Tryd.prog 83 [.e (.agg (Al p0)), oD (.ptr 90000 0), .e (.agg (C0 p2))] [(.box [.own 90001, .own 90002, .own 90003], .box [.own 90001, .own 90002, .own 90003]), (.vec 1 (p1.fe.map Ak), .vec 1 (p1.fe.map Ak)), (.vec 1 (p1.fa.map Ak), .vec 1 (r.2.1.map Ak)), (.vec 1 (p1.fc.map B5), .vec 1 (r.2.2.map B5))] [] (bD r.1) := by
 unfold FJ at h
 refine En (n := 70) (rs := [.tmp 6]) Tryd.func83 rfl rfl rfl (Iz rfl) (Iz rfl) rfl rfl (Iz rfl) rfl (Iz rfl) fun w0 S0 GL => ?_
 refine Af (sm [] [(0, .e (.agg (Al p0))), (1, oD (.ptr 90000 0)), (2, .e (.agg (C0 p2)))] [(90000, .box [.own 90001, .own 90002, .own 90003]), (90001, .vec 1 (p1.fe.map Ak)), (90002, .vec 1 (p1.fa.map Ak)), (90003, .vec 1 (p1.fc.map B5))] rfl rfl) (wq rfl (qb rfl (qb rfl (qa rfl (Ab (AG ?_))))))
 refine AO h (fun v1 => mk [(1, oD (.ptr 90000 0)), (3, oD (.ptr 3 0)), (5, oD (.ptr 5 0)), (30, bD v1)] [(3, .box (Al p0)), (5, .box (C0 p2)), (90000, .box [.own 90001, .own 90002, .own 90003]), (90001, .vec 1 (p1.fe.map Ak)), (90002, .vec 1 (p1.fa.map Ak)), (90003, .vec 1 (p1.fc.map B5))]) (fun j1 h => ?_) (fun v1 h => ?_)
 ·refine Ai Az rfl (qm rfl (R4 rfl (qf B2 rfl (ql Bh rfl (qf Ez rfl (ql B6 rfl ?_))))))
  refine CB h fun v2 a2 b2 h => qI Ax Dk a2 (Aj b2) rfl (qj B6 (Aj b2) rfl (FA rfl (qm rfl ?_)))
  refine DO 18 h rfl (fun h => ?_) fun h => ?_
  ·refine qw 11 rfl (qp rfl (AI (by kernel_rfl) ?_))
   exact sn [] h
  ·refine qm rfl (R4 rfl (qf C3 rfl (ql Bh rfl (qf Ez rfl (ql B6 rfl ?_)))))
   refine CB h fun v4 a4 b4 h => qI Ax Dk a4 (Aj b4) rfl (qj B6 (Aj b4) rfl (qf HA rfl (ql B6 rfl (BC rfl (qp rfl (AI (by kernel_rfl) ?_))))))
   exact sn [] h
 ·refine Bp h (fun h => ?_) fun h => ?_
  ·refine wq rfl (qe rfl ?_)
   obtain rfl := sj h
   refine Af (sm [] [(6, bD false)] [(90000, .box [.own 90001, .own 90002, .own 90003]), (90001, .vec 1 (p1.fe.map Ak)), (90002, .vec 1 (p1.fa.map Ak)), (90003, .vec 1 (p1.fc.map B5))] rfl rfl) (Ap ?_)
   exact ⟨⟨[_], tm, rfl⟩, ⟨rfl, rfl, rfl, rfl, tv⟩, tv⟩
  ·refine Am (wq rfl (qm rfl (R4 rfl (qf B2 rfl (ql Bh rfl (qf Ez rfl (ql B6 rfl (qf HA rfl (ql B6 rfl ?_)))))))))
   refine CB h fun v6 a6 b6 h => qI Ax Dk a6 (Aj b6) rfl ?_
   refine GH rfl rfl rfl rfl (Aj b6) rfl Dk rfl (Iz rfl) (Gs Ak p1.fa _ p2.fi) ?_
   refine AI (by kernel_rfl) (wp rfl (qf CO rfl (ql Hq rfl (AA DP rfl (qm rfl (Ab ?_))))))
   refine AF (L := Cc N p0 p2) h (fun v7 => mk [(1, oD (.ptr 90000 0)), (5, oD (.ptr 5 0)), (41, pD (.sl (p0.fd.map AC))), (42, iD ((p0.fd.length : Int))), (43, iD v7.2)] [(5, .box (C0 p2)), (90000, .box [.own 90001, .own 90002, .own 90003]), (90001, .vec 1 (p1.fe.map Ak)), (90002, .vec 1 ((p1.fa.set ((p2.fh).toNat) p2.fi).map Ak)), (90003, .vec 1 (v7.1.map B5))]) (fun v8 => mk [] [(90000, .box [.own 90001, .own 90002, .own 90003]), (90001, .vec 1 (p1.fe.map Ak)), (90002, .vec 1 ((p1.fa.set ((p2.fh).toNat) p2.fi).map Ak)), (90003, .vec 1 (v8.map B5))]) (fun _ _ => rfl) (sm [] _ _ rfl rfl) (fun j7 n7 v7 h => ?_) (fun v8 s h hs => ?_)
   ·unfold Cc at h
    refine wq rfl (A3 rfl (Ab (AG ?_)))
    refine Bp h (fun h => ?_) fun h => ?_
    ·refine Am ?_
     refine AO h (fun v10 => mk [(1, oD (.ptr 90000 0)), (5, oD (.ptr 5 0)), (41, pD (.sl (p0.fd.map AC))), (42, iD ((p0.fd.length : Int))), (43, iD v7.2)] [(5, .box (C0 p2)), (90000, .box [.own 90001, .own 90002, .own 90003]), (90001, .vec 1 (p1.fe.map Ak)), (90002, .vec 1 ((p1.fa.set ((p2.fh).toNat) p2.fi).map Ak)), (90003, .vec 1 (v10.map B5))]) (fun j10 h => ?_) (fun v10 h => ?_)
     ·refine AP (wq rfl (qm rfl ?_))
      refine CB h fun v11 a11 b11 h => qi DP DN a11 (Aj b11) rfl (qK Hc DN rfl (qz KQ rfl (qa rfl (qs DN rfl (Ab ?_)))))
      refine AO h (fun v12 => mk [(1, oD (.ptr 90000 0)), (5, oD (.ptr 5 0)), (7, iD v7.2), (41, pD (.sl (p0.fd.map AC))), (42, iD ((p0.fd.length : Int))), (43, iD v7.2), (56, bD v12)] [(5, .box (C0 p2)), (90000, .box [.own 90001, .own 90002, .own 90003]), (90001, .vec 1 (p1.fe.map Ak)), (90002, .vec 1 ((p1.fa.set ((p2.fh).toNat) p2.fi).map Ak)), (90003, .vec 1 (v7.1.map B5))]) (fun j12 h => ?_) (fun v12 h => ?_)
      ·refine Ai Az rfl (qf CQ rfl (ql B6 rfl (qf Ez rfl (ql B6 rfl (BC rfl (qm rfl ?_))))))
       refine DO 53 h rfl (fun h => ?_) fun h => ?_
       ·refine qL Hc DN rfl ?_
        refine BT h fun v14 a14 h => As [] (Ix N v11 v14 a14) Uh rfl (qp rfl (Ab ?_))
        exact sn [] h
       ·refine qw 2 rfl (qp rfl (Ab ?_))
        exact sn [] h
      ·refine Bp h (fun h => ?_) fun h => ?_
       ·refine Ai Az rfl (qm rfl (R4 rfl (qf Dn rfl (ql IW rfl (qm rfl ?_)))))
        refine CB h fun v16 a16 b16 h => qI DD GZ a16 (Aj b16) rfl (qj NH (Aj b16) rfl (qf HA rfl (ql B6 rfl ?_)))
        refine EN h fun c17 h => HJ rfl c17 (P7 rfl ?_)
        refine CB h fun v18 a18 b18 h => qI DD GZ a18 (Aj b18) rfl ?_
        refine GH rfl rfl rfl rfl (Aj b18) rfl GZ rfl (Iz rfl) (Gs B5 v7.1 _ ((Kc .u8 v16 ((CJ .u8 1 p2.fi))))) ?_
        refine AI (by kernel_rfl) ?_
        exact sn [] h
       ·refine Am ?_
        exact sn [] h
     ·refine Ai Az rfl (Bt rfl (qm rfl (Ab ?_)))
      exact sn [] h
    ·refine A5 ?_
     exact sn [] h
   ·refine Af hs (wq rfl (qe rfl ?_))
    obtain rfl := sj h
    refine Af (sm [] [(6, bD true)] [(90000, .box [.own 90001, .own 90002, .own 90003]), (90001, .vec 1 (p1.fe.map Ak)), (90002, .vec 1 ((p1.fa.set ((p2.fh).toNat) p2.fi).map Ak)), (90003, .vec 1 (v8.map B5))] rfl rfl) (Ap ?_)
    exact ⟨⟨[_], tm, rfl⟩, ⟨rfl, rfl, rfl, rfl, tv⟩, tv⟩
theorem K1 (N : Nat) (p0 : Ad) (p1 : Int) (r : Int) (h : D2 N p0 p1 = some r) : Ar Tryd.prog 88 [.e (.agg (AE p0)), iD p1] [] (pD (.val (.int .u8 r))) := by
 unfold D2 at h
 refine cw (n := 27) (rs := [.tmp 4]) Tryd.func88 fun w0 S0 => ?_
 refine wq rfl (qb rfl (qa rfl (Ab (wq rfl (qf C3 rfl (ql Bh rfl (qm rfl ?_)))))))
 refine CB h fun v1 a1 b1 h => qi Ax Dk a1 (Aj b1) rfl (qk B6 rfl ?_)
 refine EN h fun c2 h => HJ rfl c2 (qe rfl ?_)
 refine AO h (fun v3 => mk [(5, pD (.val (.int .u8 v3)))] []) (fun j3 h => ?_) (fun v3 h => ?_)
 ·refine wq rfl (qf B2 rfl (ql Bh rfl (qm rfl ?_)))
  refine CB h fun v4 a4 b4 h => qi Ax Dk a4 (Aj b4) rfl (qk B6 rfl (FA rfl (Ab ?_)))
  refine Bp h (fun h => ?_) fun h => ?_
  ·refine Ai Az rfl (qm rfl (qf B2 rfl (ql Bh rfl (qm rfl ?_))))
   refine CB h fun v6 a6 b6 h => qi Ax Dk a6 (Aj b6) rfl (qk B6 rfl ?_)
   refine EN h fun c7 h => HJ rfl c7 (P7 rfl (qe rfl ?_))
   exact sn [] h
  ·refine Am ?_
   exact sn [] h
 ·refine wq rfl (qm rfl (qe rfl ?_))
  obtain rfl := sj h
  refine Af (sm [] [(4, pD (.val (.int .u8 v3)))] [] rfl rfl) (Ap ?_)
  exact ⟨⟨[_], tm, rfl⟩, tv⟩
theorem Gq (N : Nat) (p0 : Int) (r : Int) (h : BH N p0 = some r) : Ar Tryd.prog 94 [pD (.val (.int .u8 p0))] [] (iD r) := by
 unfold BH at h
 refine cw (n := 6) (rs := [.tmp 2]) Tryd.func94 fun w0 S0 => ?_
 refine wq rfl (qa rfl (Ab (wq rfl (qm rfl ?_))))
 refine BT h fun v1 a1 h => Pq (.p rfl) rfl rfl Vx a1 ?_
 refine Hv Tn Sr rfl (qe rfl ?_)
 obtain rfl := sj h
 refine Af (sm [] [(2, iD ((wI .i64 v1)))] [] rfl rfl) (Ap ?_)
 exact ⟨⟨[_], tm, rfl⟩, tv⟩
theorem Jf (N : Nat) (p0 : Aq) (p1 : Int) (p2 : Int) (r : Bool) (h : DW N p0 p1 p2 = some r) : Ar Tryd.prog 89 [.e (.agg (Bz p0)), pD (.val (.int .u8 p1)), iD p2] [] (bD r) := by
 unfold DW at h
 refine cw (n := 25) (rs := [.tmp 6]) Tryd.func89 fun w0 S0 => ?_
 refine wq rfl (qb rfl (qa rfl (Ab (wp rfl (qm rfl (qe rfl ?_))))))
 refine AF (L := B0 N p0 p2) h (fun v1 => mk [(2, iD p2), (3, oD (.ptr 3 0)), (7, pD (.val (.int .u8 v1)))] [(3, .box (Bz p0))]) (fun v2 => mk [] []) (fun _ _ => rfl) (sm [] _ _ rfl rfl) (fun j1 n1 v1 h => ?_) (fun v2 s h hs => ?_)
 ·unfold B0 at h
  refine wp rfl (qm rfl (BM rfl (Ab ?_)))
  refine Bp h (fun h => ?_) fun h => ?_
  ·refine Am (AG (AP (wq rfl (qf Ft rfl (ql Jp rfl (qm rfl ?_))))))
   refine BT h fun v4 a4 h => As [] (Gq N v1 v4 a4) Vy rfl ?_
   refine CB h fun v5 a5 b5 h => qi Fz NE a5 (Aj b5) rfl (qk Pk rfl (qm rfl ?_))
   refine CB h fun v6 a6 b6 h => qi F5 PK a6 (Aj b6) rfl (qk Sg rfl (Ck rfl (AI (by kernel_rfl) ?_)))
   refine Bp h (fun h => ?_) fun h => ?_
   ·refine wq rfl (qe rfl ?_)
    obtain rfl := sj h
    refine Af (sm [] [(6, bD false)] [] rfl rfl) (Ap ?_)
    exact ⟨⟨[_], tm, rfl⟩, tv⟩
   ·refine Am (Ai Az rfl (qw 2 rfl (KF rfl (JZ rfl (qe rfl ?_)))))
    exact sn [] h
  ·refine A5 ?_
   exact sn [] h
 ·refine Af hs (wq rfl (qe rfl ?_))
  obtain rfl := sj h
  refine Af (sm [] [(6, bD true)] [] rfl rfl) (Ap ?_)
  exact ⟨⟨[_], tm, rfl⟩, tv⟩
theorem MT (N : Nat) (p0 : Aa) (p1 : Ad) (p2 : Int) (r : Bool × (List Int)) (h : ES N p0 p1 p2 = some r) : Cu Tryd.prog 84 [.e (.agg (Al p0)), oD (.ptr 90000 0), iD p2] [(.box [.own 90001, .own 90002, .own 90003], .box [.own 90001, .own 90002, .own 90003]), (.vec 1 (p1.fe.map Ak), .vec 1 (p1.fe.map Ak)), (.vec 1 (p1.fa.map Ak), .vec 1 (p1.fa.map Ak)), (.vec 1 (p1.fc.map B5), .vec 1 (r.2.map B5))] [] (bD r.1) := by
 unfold ES at h
 refine En (n := 68) (rs := [.tmp 6]) Tryd.func84 rfl rfl rfl (Iz rfl) (Iz rfl) rfl rfl (Iz rfl) rfl (Iz rfl) fun w0 S0 GL => ?_
 refine Af (sm [] [(0, .e (.agg (Al p0))), (1, oD (.ptr 90000 0)), (2, iD p2)] [(90000, .box [.own 90001, .own 90002, .own 90003]), (90001, .vec 1 (p1.fe.map Ak)), (90002, .vec 1 (p1.fa.map Ak)), (90003, .vec 1 (p1.fc.map B5))] rfl rfl) (wq rfl (qb rfl (qa rfl (Ab (wq rfl (qf CO rfl (ql Hq rfl (qm rfl ?_))))))))
 refine CB h fun v1 a1 b1 h => qi DP DN a1 (Aj b1) rfl (qK Hc DN rfl (qz KQ rfl (qs DN rfl (Ab (wp rfl (qL Hc DN rfl ?_))))))
 refine BT h fun v2 a2 h => As [] (Ix N v1 v2 a2) Uh rfl (Ck rfl (Ab ?_))
 refine Bp h (fun h => ?_) fun h => ?_
 ·refine wq rfl (qe rfl ?_)
  obtain rfl := sj h
  refine Af (sm [] [(6, bD false)] [(90000, .box [.own 90001, .own 90002, .own 90003]), (90001, .vec 1 (p1.fe.map Ak)), (90002, .vec 1 (p1.fa.map Ak)), (90003, .vec 1 (p1.fc.map B5))] rfl rfl) (Ap ?_)
  exact ⟨⟨[_], tm, rfl⟩, ⟨rfl, rfl, rfl, rfl, tv⟩, tv⟩
 ·refine Am (wq rfl (qm rfl (R4 rfl (qL Br AH rfl (qf CQ rfl (ql B6 rfl ?_))))))
  refine BT h fun v4 a4 h => FL [] [90001, 90002, 90003] (K1 N p1 v1.fg v4 a4) UZ D7 rfl (qa rfl (AI (by kernel_rfl) (wq rfl (qm rfl (R4 rfl (qf Dn rfl (ql IW rfl (qm rfl ?_))))))))
  refine CB h fun v5 a5 b5 h => qI DD GZ a5 (Aj b5) rfl (qj NH (Aj b5) rfl (qm rfl (Lb rfl (qa rfl (Ab (AG ?_))))))
  refine AO h (fun v6 => mk [(1, oD (.ptr 90000 0)), (2, iD p2), (8, pD (.val (.int .u8 v4))), (60, bD v6)] [(90000, .box [.own 90001, .own 90002, .own 90003]), (90001, .vec 1 (p1.fe.map Ak)), (90002, .vec 1 (p1.fa.map Ak)), (90003, .vec 1 (p1.fc.map B5))]) (fun j6 h => ?_) (fun v6 h => ?_)
  ·refine Ai Az rfl (qm rfl (R4 rfl (qf Dn rfl (ql IW rfl (qm rfl ?_)))))
   refine CB h fun v7 a7 b7 h => qI DD GZ a7 (Aj b7) rfl (qj NH (Aj b7) rfl (qm rfl (BC rfl (qm rfl ?_))))
   refine DO 42 h rfl (fun h => ?_) fun h => ?_
   ·refine qw 4 rfl (qu rfl (qu rfl (qu rfl (qu rfl (qu rfl (qu rfl (qu rfl (qu rfl (qu rfl (qu rfl (qu rfl (qu rfl (qn rfl (qp rfl (AI (by kernel_rfl) ?_)))))))))))))))
    exact sn [] h
   ·refine qf Ex rfl (ql B6 rfl (BC rfl (qm rfl ?_)))
    refine DO 46 h rfl (fun h => ?_) fun h => ?_
    ·refine qL Hc DN rfl (qw 2 rfl (R4 rfl (qf C3 rfl (ql Bh rfl (qf CQ rfl (ql B6 rfl ?_))))))
     refine CB h fun v10 a10 b10 h => qI Ax Dk a10 (Aj b10) rfl (qj B6 (Aj b10) rfl ?_)
     refine BT h fun v11 a11 h => As [] (Jf N v1 ((CH .u8 v5 v4)) v10 v11 a11) VO rfl (Ck rfl (qp rfl (qp rfl (AI (by kernel_rfl) ?_))))
     exact sn [] h
    ·refine qw 12 rfl (qp rfl (qp rfl (AI (by kernel_rfl) ?_)))
     exact sn [] h
  ·refine Bp h (fun h => ?_) fun h => ?_
   ·refine wq rfl (qe rfl ?_)
    obtain rfl := sj h
    refine Af (sm [] [(6, bD false)] [(90000, .box [.own 90001, .own 90002, .own 90003]), (90001, .vec 1 (p1.fe.map Ak)), (90002, .vec 1 (p1.fa.map Ak)), (90003, .vec 1 (p1.fc.map B5))] rfl rfl) (Ap ?_)
    exact ⟨⟨[_], tm, rfl⟩, ⟨rfl, rfl, rfl, rfl, tv⟩, tv⟩
   ·refine Am (wq rfl (qm rfl (R4 rfl (qf Dn rfl (ql IW rfl (qw 2 rfl ?_))))))
    refine CB h fun v13 a13 b13 h => qI DD GZ a13 (Aj b13) rfl ?_
    refine GH rfl rfl rfl rfl (Aj b13) rfl GZ rfl (Iz rfl) (Gs B5 p1.fc _ v4) ?_
    refine Ab (wq rfl (qe rfl ?_))
    obtain rfl := sj h
    refine Af (sm [] [(6, bD true)] [(90000, .box [.own 90001, .own 90002, .own 90003]), (90001, .vec 1 (p1.fe.map Ak)), (90002, .vec 1 (p1.fa.map Ak)), (90003, .vec 1 ((p1.fc.set ((p2).toNat) v4).map B5))] rfl rfl) (Ap ?_)
    exact ⟨⟨[_], tm, rfl⟩, ⟨rfl, rfl, rfl, rfl, tv⟩, tv⟩
theorem Mk (N : Nat) (p0 : Aa) (p1 : Ad) (p2 : Ac) (r : Ad × Bool) (h : EH N p0 p1 p2 = some r) : Ar Tryd.prog 75 [.e (.agg (Al p0)), .e (.agg (AE p1)), .e (.agg (C0 p2))] [(1, r.1.fe.map Ak), (1, r.1.fa.map Ak), (1, r.1.fc.map B5)] (.tup [.agg [.own 0, .own 1, .own 2], .one (.pure (.val (.bool r.2)))]) := by
 unfold EH at h
 refine cw (n := 51) (rs := [.cell 6 38, .tmp 7]) Tryd.func75 fun w0 S0 => ?_
 refine wq rfl (qb rfl (qb rfl (qb rfl (qz CM rfl (qa rfl (Ab (wq rfl (qL Br AH rfl ?_))))))))
 refine BT h fun v1 a1 h => As [2001, 2002, 2003] (Lp N p1 v1 a1) UM rfl (qz CM rfl (qs AH rfl (Ab (wp rfl (qf Fg rfl (ql B6 rfl (Ab (AP (wq rfl (BC rfl (qe rfl ?_)))))))))))
 refine Bp h (fun h => ?_) fun h => ?_
 ·refine wq rfl (qL Br AH rfl (qL CI Ce rfl (qL FY B9 rfl ?_)))
  refine BT h fun v3 a3 h => Ko (ds0 := [_, _, _]) [8, 2001, 2002, 2003] [] [false, false, true, true] (Mh N p0 v1 p2 v3 a3) (.p rfl) U2 rfl ⟨rfl, rfl, rfl, tv⟩ rfl rfl (by decide) ⟨rfl, rfl, rfl, rfl, tv⟩ rfl (FP rfl) tv ⟨(fun _ => rfl), (fun _ => rfl), (fun h => by cases h), (fun h => by cases h), tv⟩ rfl rfl rfl ?_
  refine qs AH rfl (qa rfl (AI (by kernel_rfl) ?_))
  obtain rfl := sj h
  refine Af (sm [(1000, 2001), (1001, 2002), (1002, 2003)] [(6, oD (.ptr 6 0)), (7, bD v3.1)] [(6, .box [.own 1000, .own 1001, .own 1002]), (1000, .vec 1 (v1.fe.map Ak)), (1001, .vec 1 (v3.2.1.map Ak)), (1002, .vec 1 (v3.2.2.map B5))] rfl rfl) (Ap ?_)
  exact ⟨⟨[_, _], ⟨.cellN _ _ _ _ _ _ _ rfl rfl Br AH rfl rfl (Hi rfl), tm⟩, rfl⟩, ⟨rfl, rfl, rfl, tv⟩⟩
 ·refine wq rfl (BC rfl (qe rfl ?_))
  refine Bp h (fun h => ?_) fun h => ?_
  ·refine wq rfl (qL Br AH rfl (qL CI Ce rfl (qf Ez rfl (ql B6 rfl ?_))))
   refine BT h fun v5 a5 h => Ko (ds0 := [_, _, _]) [8, 2001, 2002, 2003] [] [false, false, false, true] (MT N p0 v1 p2.fh v5 a5) (.p rfl) U8 rfl ⟨rfl, rfl, rfl, tv⟩ rfl rfl (by decide) ⟨rfl, rfl, rfl, rfl, tv⟩ rfl (FP rfl) tv ⟨(fun _ => rfl), (fun _ => rfl), (fun _ => rfl), (fun h => by cases h), tv⟩ rfl rfl rfl ?_
   refine qs AH rfl (qa rfl (AI (by kernel_rfl) ?_))
   obtain rfl := sj h
   refine Af (sm [(1000, 2001), (1001, 2002), (1002, 2003)] [(6, oD (.ptr 6 0)), (7, bD v5.1)] [(6, .box [.own 1000, .own 1001, .own 1002]), (1000, .vec 1 (v1.fe.map Ak)), (1001, .vec 1 (v1.fa.map Ak)), (1002, .vec 1 (v5.2.map B5))] rfl rfl) (Ap ?_)
   exact ⟨⟨[_, _], ⟨.cellN _ _ _ _ _ _ _ rfl rfl Br AH rfl rfl (Hi rfl), tm⟩, rfl⟩, ⟨rfl, rfl, rfl, tv⟩⟩
  ·refine Am (wq rfl (qf B2 rfl (ql Bh rfl (qf Ez rfl (ql B6 rfl ?_)))))
   refine CB h fun v6 a6 b6 h => qI Ax Dk a6 (Aj b6) rfl (qj B6 (Aj b6) rfl (qa rfl (Ab (wp rfl (qm rfl (A3 rfl (Ab ?_)))))))
   refine Bp h (fun h => ?_) fun h => ?_
   ·refine wq rfl (qL Br AH rfl (qs AH rfl (qe rfl ?_)))
    obtain rfl := sj h
    refine Af (sm [(1000, 2001), (1001, 2002), (1002, 2003)] [(6, oD (.ptr 6 0)), (7, bD false)] [(6, .box [.own 1000, .own 1001, .own 1002]), (1000, .vec 1 (v1.fe.map Ak)), (1001, .vec 1 (v1.fa.map Ak)), (1002, .vec 1 (v1.fc.map B5))] rfl rfl) (Ap ?_)
    exact ⟨⟨[_, _], ⟨.cellN _ _ _ _ _ _ _ rfl rfl Br AH rfl rfl (Hi rfl), tm⟩, rfl⟩, ⟨rfl, rfl, rfl, tv⟩⟩
   ·refine Am (wq rfl (qf B2 rfl (ql Bh rfl (qf Ez rfl (ql B6 rfl ?_)))))
    refine CB h fun v8 a8 b8 h => qI Ax Dk a8 (Aj b8) rfl ?_
    refine GH rfl rfl rfl rfl (Aj b8) rfl Dk rfl (Iz rfl) (Gs Ak v1.fa _ ((-1))) ?_
    refine Ab ?_
    refine AO h (fun v9 => mk [(6, oD (.ptr 6 0)), (8, oD (.ptr 8 0))] [(6, .box [.pure (.nil0), .pure (.nil0), .pure (.nil0)]), (8, .box [.own 2004, .own 2005, .own 2006]), (2004, .vec 1 (v9.map Ak)), (2005, .vec 1 ((v1.fa.set ((p2.fh).toNat) ((-1))).map Ak)), (2006, .vec 1 (v1.fc.map B5))]) (fun j9 h => ?_) (fun v9 h => ?_)
    ·refine wq rfl (qf Fg rfl (ql B6 rfl (BC rfl (Ab ?_))))
     refine Bp h (fun h => ?_) fun h => ?_
     ·refine Ai Az rfl (qf C3 rfl (ql Bh rfl (qf Ez rfl (ql B6 rfl (qm rfl ?_)))))
      refine CB h fun v11 a11 b11 h => qI Ax Dk a11 (Aj b11) rfl ?_
      refine GH rfl rfl rfl rfl (Aj b11) rfl Dk rfl (Iz rfl) (Gs Ak v1.fe _ v6) ?_
      refine Ab ?_
      exact sn [(2004, 2001), (2005, 2002), (2006, 2003)] h
     ·refine Am ?_
      exact sn [(2004, 2001), (2005, 2002), (2006, 2003)] h
    ·refine wq rfl (qL Br AH rfl (qs AH rfl (qe rfl ?_)))
     obtain rfl := sj h
     refine Af (sm [(1000, 2004), (1001, 2005), (1002, 2006)] [(6, oD (.ptr 6 0)), (7, bD true)] [(6, .box [.own 1000, .own 1001, .own 1002]), (1000, .vec 1 (v9.map Ak)), (1001, .vec 1 ((v1.fa.set ((p2.fh).toNat) ((-1))).map Ak)), (1002, .vec 1 (v1.fc.map B5))] rfl rfl) (Ap ?_)
     exact ⟨⟨[_, _], ⟨.cellN _ _ _ _ _ _ _ rfl rfl Br AH rfl rfl (Hi rfl), tm⟩, rfl⟩, ⟨rfl, rfl, rfl, tv⟩⟩
theorem Mo (N : Nat) (p0 : Aa) (p1 : Ad) (p2 : Ac) (r : Ad × Int) (h : ER N p0 p1 p2 = some r) : Ar Tryd.prog 60 [.e (.agg (Al p0)), .e (.agg (AE p1)), .e (.agg (C0 p2))] [(1, r.1.fe.map Ak), (1, r.1.fa.map Ak), (1, r.1.fc.map B5)] (.tup [.agg [.own 0, .own 1, .own 2], .one (iC r.2)]) := by
 unfold ER at h
 refine cw (n := 32) (rs := [.cell 6 38, .tmp 7]) Tryd.func60 fun w0 S0 => ?_
 refine wq rfl (qb rfl (qb rfl (qb rfl (qz CM rfl (qa rfl (Ab (AG (AP (wq rfl (qL FY B9 rfl ?_))))))))))
 refine BT h fun v1 a1 h => As [] (I8 N p2 v1 a1) Uw rfl (Ck rfl (qe rfl ?_))
 refine Bp h (fun h => ?_) fun h => ?_
 ·refine wq rfl (Bv CM H5 rfl (qs AH rfl (qe rfl ?_)))
  obtain rfl := sj h
  refine Af ((AD 6 0 2001 1 _ rfl rfl rfl rfl).trans ((AD 6 1 2002 1 _ rfl rfl rfl rfl).trans ((AD 6 2 2003 1 _ rfl rfl rfl rfl).trans (sm [(1000, 2001), (1001, 2002), (1002, 2003)] [(6, oD (.ptr 6 0)), (7, iD 1)] [(6, .box [.own 1000, .own 1001, .own 1002]), (1000, .vec 1 ((([] : List Int)).map Ak)), (1001, .vec 1 ((([] : List Int)).map Ak)), (1002, .vec 1 ((([] : List Int)).map B5))] rfl rfl)))) (Ap ?_)
  exact ⟨⟨[_, _], ⟨.cellN _ _ _ _ _ _ _ rfl rfl Br AH rfl rfl (Hi rfl), tm⟩, rfl⟩, ⟨rfl, rfl, rfl, tv⟩⟩
 ·refine wq rfl (qL CI Ce rfl (qL FY B9 rfl ?_))
  refine BT h fun v3 a3 h => As [] (Lj N p0 p2 v3 a3) UW rfl (Ck rfl (qe rfl ?_))
  refine Bp h (fun h => ?_) fun h => ?_
  ·refine wq rfl (Bv CM H5 rfl (qs AH rfl (qe rfl ?_)))
   obtain rfl := sj h
   refine Af ((AD 6 0 2004 1 _ rfl rfl rfl rfl).trans ((AD 6 1 2005 1 _ rfl rfl rfl rfl).trans ((AD 6 2 2006 1 _ rfl rfl rfl rfl).trans (sm [(1000, 2004), (1001, 2005), (1002, 2006)] [(6, oD (.ptr 6 0)), (7, iD 4)] [(6, .box [.own 1000, .own 1001, .own 1002]), (1000, .vec 1 ((([] : List Int)).map Ak)), (1001, .vec 1 ((([] : List Int)).map Ak)), (1002, .vec 1 ((([] : List Int)).map B5))] rfl rfl)))) (Ap ?_)
   exact ⟨⟨[_, _], ⟨.cellN _ _ _ _ _ _ _ rfl rfl Br AH rfl rfl (Hi rfl), tm⟩, rfl⟩, ⟨rfl, rfl, rfl, tv⟩⟩
  ·refine Am (wq rfl (qL CI Ce rfl (qL Br AH rfl (qL FY B9 rfl ?_))))
   refine BT h fun v5 a5 h => As [2007, 2008, 2009] (Mk N p0 p1 p2 v5 a5) Vq rfl (qm rfl (qx rfl (qx rfl (qz CM rfl (qs AH rfl (qa rfl (Ab (wp rfl (qm rfl (Ck rfl (Ab ?_)))))))))))
   refine Bp h (fun h => ?_) fun h => ?_
   ·refine wq rfl (Bv CM H5 rfl (qs AH rfl (qe rfl ?_)))
    obtain rfl := sj h
    refine Af ((AD 6 0 2010 1 _ rfl rfl rfl rfl).trans ((AD 6 1 2011 1 _ rfl rfl rfl rfl).trans ((AD 6 2 2012 1 _ rfl rfl rfl rfl).trans (sm [(1000, 2010), (1001, 2011), (1002, 2012)] [(6, oD (.ptr 6 0)), (7, iD 11)] [(6, .box [.own 1000, .own 1001, .own 1002]), (1000, .vec 1 ((([] : List Int)).map Ak)), (1001, .vec 1 ((([] : List Int)).map Ak)), (1002, .vec 1 ((([] : List Int)).map B5))] rfl rfl)))) (Ap ?_)
    exact ⟨⟨[_, _], ⟨.cellN _ _ _ _ _ _ _ rfl rfl Br AH rfl rfl (Hi rfl), tm⟩, rfl⟩, ⟨rfl, rfl, rfl, tv⟩⟩
   ·refine Am (wq rfl (qL Br AH rfl (qs AH rfl (qe rfl ?_))))
    obtain rfl := sj h
    refine Af (sm [(1000, 2007), (1001, 2008), (1002, 2009)] [(6, oD (.ptr 6 0)), (7, iD 0)] [(6, .box [.own 1000, .own 1001, .own 1002]), (1000, .vec 1 (v5.1.fe.map Ak)), (1001, .vec 1 (v5.1.fa.map Ak)), (1002, .vec 1 (v5.1.fc.map B5))] rfl rfl) (Ap ?_)
    exact ⟨⟨[_, _], ⟨.cellN _ _ _ _ _ _ _ rfl rfl Br AH rfl rfl (Hi rfl), tm⟩, rfl⟩, ⟨rfl, rfl, rfl, tv⟩⟩
theorem Ja (N : Nat) (p0 : Aa) (p1 : Ad) (p2 : Ac) (r : Ad × Int) (h : D6 N p0 p1 p2 = some r) : Ar Tryd.prog 46 [.e (.agg (Al p0)), .e (.agg (AE p1)), .e (.agg (C0 p2))] [(1, r.1.fe.map Ak), (1, r.1.fa.map Ak), (1, r.1.fc.map B5)] (.tup [.agg [.own 0, .own 1, .own 2], .one (iC r.2)]) := by
 unfold D6 at h
 refine cw (n := 22) (rs := [.cell 6 38, .tmp 7]) Tryd.func46 fun w0 S0 => ?_
 refine wq rfl (qb rfl (qb rfl (qb rfl (qz CM rfl (qa rfl (Ab (wp rfl (qL CI Ce rfl (qL Br AH rfl ?_)))))))))
 refine BT h fun v1 a1 h => As [] (GR N p0 p1 v1 a1) RE rfl (qa rfl (Ab (wq rfl (qm rfl (BM rfl (Ab ?_))))))
 refine Bp h (fun h => ?_) fun h => ?_
 ·refine wq rfl (Bv CM H5 rfl (qm rfl (qs AH rfl (qe rfl ?_))))
  obtain rfl := sj h
  refine Af ((AD 6 0 2001 1 _ rfl rfl rfl rfl).trans ((AD 6 1 2002 1 _ rfl rfl rfl rfl).trans ((AD 6 2 2003 1 _ rfl rfl rfl rfl).trans (sm [(1000, 2001), (1001, 2002), (1002, 2003)] [(6, oD (.ptr 6 0)), (7, iD v1)] [(6, .box [.own 1000, .own 1001, .own 1002]), (1000, .vec 1 ((([] : List Int)).map Ak)), (1001, .vec 1 ((([] : List Int)).map Ak)), (1002, .vec 1 ((([] : List Int)).map B5))] rfl rfl)))) (Ap ?_)
  exact ⟨⟨[_, _], ⟨.cellN _ _ _ _ _ _ _ rfl rfl Br AH rfl rfl (Hi rfl), tm⟩, rfl⟩, ⟨rfl, rfl, rfl, tv⟩⟩
 ·refine Am (wq rfl (qL CI Ce rfl (qL Br AH rfl (qL FY B9 rfl ?_))))
  refine BT h fun v3 a3 h => As [2004, 2005, 2006] (Mo N p0 p1 p2 v3 a3) UL rfl (qx rfl (qx rfl (qs AH rfl (qe rfl ?_))))
  obtain rfl := sj h
  refine Af (sm [(1000, 2004), (1001, 2005), (1002, 2006)] [(6, oD (.ptr 6 0)), (7, iD v3.2)] [(6, .box [.own 1000, .own 1001, .own 1002]), (1000, .vec 1 (v3.1.fe.map Ak)), (1001, .vec 1 (v3.1.fa.map Ak)), (1002, .vec 1 (v3.1.fc.map B5))] rfl rfl) (Ap ?_)
  exact ⟨⟨[_, _], ⟨.cellN _ _ _ _ _ _ _ rfl rfl Br AH rfl rfl (Hi rfl), tm⟩, rfl⟩, ⟨rfl, rfl, rfl, tv⟩⟩
theorem Hp (N : Nat) (p0 : List Int) (p1 : List Int) (r : Bool) (h : DL N p0 p1 = some r) : Ar Tryd.prog 56 [pD (.sl (p0.map Ak)), pD (.sl (p1.map Ak))] [] (bD r) := by
 unfold DL at h
 refine cw (n := 26) (rs := [.tmp 4]) Tryd.func56 fun w0 S0 => ?_
 refine wq rfl (qa rfl (Ab (wp rfl (qm rfl (AA Ax rfl (qm rfl (AA Ax rfl (BM rfl (Ab ?_)))))))))
 refine Bp h (fun h => ?_) fun h => ?_
 ·refine wq rfl (qe rfl ?_)
  obtain rfl := sj h
  refine Af (sm [] [(4, bD false)] [] rfl rfl) (Ap ?_)
  exact ⟨⟨[_], tm, rfl⟩, tv⟩
 ·refine Am (wp rfl (qm rfl (AA Ax rfl (qm rfl (Ab ?_)))))
  refine AF (L := Cr N p0 p1) h (fun v2 => mk [(0, pD (.sl (p0.map Ak))), (1, pD (.sl (p1.map Ak))), (12, iD ((p0.length : Int))), (13, iD v2)] []) (fun v3 => mk [] []) (fun _ _ => rfl) (sm [] _ _ rfl rfl) (fun j2 n2 v2 h => ?_) (fun v3 s h hs => ?_)
  ·unfold Cr at h
   refine wq rfl (A3 rfl (Ab (AG ?_)))
   refine Bp h (fun h => ?_) fun h => ?_
   ·refine Am (AG (AP (wq rfl (qm rfl (qa rfl (Ab (wq rfl (qw 2 rfl ?_))))))))
    refine CB h fun v5 a5 b5 h => qi Ax Dk a5 (Aj b5) rfl (qk B6 rfl (qw 2 rfl ?_))
    refine CB h fun v6 a6 b6 h => qi Ax Dk a6 (Aj b6) rfl (qk B6 rfl (BM rfl (AI (by kernel_rfl) ?_)))
    refine Bp h (fun h => ?_) fun h => ?_
    ·refine wq rfl (qe rfl ?_)
     obtain rfl := sj h
     refine Af (sm [] [(4, bD false)] [] rfl rfl) (Ap ?_)
     exact ⟨⟨[_], tm, rfl⟩, tv⟩
    ·refine Am (Ai Az rfl (Bt rfl (qm rfl (Ab ?_))))
     exact sn [] h
   ·refine A5 ?_
    exact sn [] h
  ·refine Af hs (wq rfl (qe rfl ?_))
   obtain rfl := sj h
   refine Af (sm [] [(4, bD true)] [] rfl rfl) (Ap ?_)
   exact ⟨⟨[_], tm, rfl⟩, tv⟩
theorem GB (N : Nat) (p0 : List Int) (p1 : Int → Option Bool) (r : Int) (h : C5 N p0 p1 = some r) : Ar Tryd.prog 71 [pD (.sl (p0.map Ak)), oD (.clo (KT (PH false Ak) tB p1))] [] (iD r) := by
 unfold C5 at h
 refine cw (n := 19) (rs := [.tmp 4]) Tryd.func71 fun w0 S0 => ?_
 refine wq rfl (qa rfl (Ab (wp rfl (qm rfl (AA Ax rfl (qm rfl (Ab ?_)))))))
 refine AF (L := BP N p0 p1) h (fun v1 => mk [(0, pD (.sl (p0.map Ak))), (1, oD (.clo (KT (PH false Ak) tB p1))), (7, iD ((p0.length : Int))), (8, iD v1)] []) (fun v2 => mk [] []) (fun _ _ => rfl) (sm [] _ _ rfl rfl) (fun j1 n1 v1 h => ?_) (fun v2 s h hs => ?_)
 ·unfold BP at h
  refine wq rfl (A3 rfl (Ab (AG ?_)))
  refine Bp h (fun h => ?_) fun h => ?_
  ·refine Am (AG (AP (wq rfl (qm rfl (qa rfl (Ab (wq rfl (qw 3 rfl ?_))))))))
   refine CB h fun v4 a4 b4 h => qi Ax Dk a4 (Aj b4) rfl (qk B6 rfl ?_)
   refine BT h fun v5 a5 h => Pd (ds0 := [_]) (ar := (PH false Ak) v4) (.p rfl) rfl rfl ⟨rfl, tv⟩ rfl rfl rfl (OX (O8 _ _ Tk) a5) ?_
   refine Ab ?_
   refine Bp h (fun h => ?_) fun h => ?_
   ·refine wq rfl (qm rfl (qe rfl ?_))
    obtain rfl := sj h
    refine Af (sm [] [(4, iD v1)] [] rfl rfl) (Ap ?_)
    exact ⟨⟨[_], tm, rfl⟩, tv⟩
   ·refine Am (Ai Az rfl (Bt rfl (qm rfl (Ab ?_))))
    exact sn [] h
  ·refine A5 ?_
   exact sn [] h
 ·refine Af hs (wq rfl (qe rfl ?_))
  obtain rfl := sj h
  refine Af (sm [] [(4, iD ((-1)))] [] rfl rfl) (Ap ?_)
  exact ⟨⟨[_], tm, rfl⟩, tv⟩
theorem FN (N : Nat) (p0 : List Int) (p1 : Int → Option Bool) (r : Bool) (h : CC N p0 p1 = some r) : Ar Tryd.prog 57 [pD (.sl (p0.map Ak)), oD (.clo (KT (PH false Ak) tB p1))] [] (bD r) := by
 unfold CC at h
 refine cw (n := 9) (rs := [.tmp 4]) Tryd.func57 fun w0 S0 => ?_
 refine wq rfl (qa rfl (Ab (wq rfl (qw 2 rfl ?_))))
 refine BT h fun v1 a1 h => As [] (GB N p0 p1 v1 a1) VC rfl (FA rfl (qe rfl ?_))
 obtain rfl := sj h
 refine Af (sm [] [(4, bD ((decide (0 ≤ v1))))] [] rfl rfl) (Ap ?_)
 exact ⟨⟨[_], tm, rfl⟩, tv⟩
theorem MR (N : Nat) (p0 : Int) (r : Bool) (h : FM N p0 = some r) : Ar Tryd.prog 58 [iD p0] [] (bD r) := by
 unfold FM at h
 refine cw (n := 5) (rs := [.tmp 2]) Tryd.func58 fun w0 S0 => ?_
 refine wq rfl (qa rfl (Ab (wq rfl (qm rfl (FA rfl (qe rfl ?_))))))
 obtain rfl := sj h
 refine Af (sm [] [(2, bD ((decide (0 ≤ p0))))] [] rfl rfl) (Ap ?_)
 exact ⟨⟨[_], tm, rfl⟩, tv⟩
theorem Kz (N : Nat) (p0 : Aa) (p1 : Ad) (r : Bool) (h : GT N p0 p1 = some r) : Ar Tryd.prog 39 [.e (.agg (Al p0)), .e (.agg (AE p1))] [] (bD r) := by
 unfold GT at h
 refine cw (n := 22) (rs := [.tmp 4]) Tryd.func39 fun w0 S0 => ?_
 refine wq rfl (qb rfl (qb rfl (qe rfl ?_)))
 refine AO h (fun v1 => mk [(4, bD v1)] []) (fun j1 h => ?_) (fun v1 h => ?_)
 ·refine Ai Az rfl (qL CI Ce rfl (qL Br AH rfl ?_))
  refine BT h fun v2 a2 h => As [] (GR N p0 p1 v2 a2) RE rfl (BC rfl (qm rfl ?_))
  refine DO 9 h rfl (fun h => ?_) fun h => ?_
  ·refine qf C3 rfl (ql Bh rfl (qf GM rfl (ql Bh rfl ?_)))
   refine BT h fun v4 a4 h => As [] (Hp N p1.fe p0.fo v4 a4) Vc rfl (qp rfl (qm rfl ?_))
   refine DO 16 h rfl (fun h => ?_) fun h => ?_
   ·refine qf B2 rfl (ql Bh rfl ?_)
    refine BT h fun v6 a6 h => As [] (Ar.weak (ds' := [pD (.sl (p1.fa.map Ak)), oD (.fnc 58)]) (FN N p1.fa ((fun (x : Int) => FM N x)) v6 a6) ⟨(fun _ _ _ hh => hh), (fun _ _ _ hh => RT Vu (fun ar t ht => by obtain ⟨x, r, rfl, hq, rfl⟩ := L7 ht; exact MR N x r hq) hh), tv⟩) VD rfl ?_
    refine Ck rfl (qp rfl (qe rfl ?_))
    exact sn [] h
   ·refine qw 4 rfl (qp rfl (qe rfl ?_))
    exact sn [] h
  ·refine qw 5 rfl (qp rfl (qw 5 rfl (qp rfl (qe rfl ?_))))
   exact sn [] h
 ·obtain rfl := sj h
  refine Af (sm [] [(4, bD v1)] [] rfl rfl) (Ap ?_)
  exact ⟨⟨[_], tm, rfl⟩, tv⟩
theorem K7 (N : Nat) (p0 : Aa) (p1 : List Ac) (r : Int × Ad × An × Int) (h : FZ N p0 p1 = some r) : Ar Tryd.prog 45 [.e (.agg (Al p0)), pD (.sl (p1.map Ah))] [] (.tup [.one (iC r.1), .agg (AE r.2.1), .agg (Ff r.2.2.1), .one (iC r.2.2.2)]) := by
 unfold FZ at h
 refine cw (n := 89) (rs := [.tmp 4, .cell 5 38, .cell 6 93, .tmp 7]) Tryd.func45 fun w0 S0 => ?_
 refine wq rfl (qb rfl (qa rfl (qz CM rfl (qz HL rfl (qa rfl (Ab (wq rfl (qL CI Ce rfl ?_))))))))
 refine BT h fun v1 a1 h => As [2001, 2002, 2003] (HX N p0 v1 a1) Te rfl (qm rfl (qx rfl (qx rfl (qz CM rfl (qs AH rfl (qa rfl (Ab (wp rfl (qm rfl (BM rfl (Ab ?_)))))))))))
 refine Bp h (fun h => ?_) fun h => ?_
 ·refine wq rfl (Bv CM H5 rfl (Bv HL NY rfl (qm rfl (qa rfl (qs AH rfl (qs E7 rfl (qe rfl ?_)))))))
  obtain rfl := sj h
  refine Af ((Ey 5 _ rfl).trans (sm [] [(4, iD 0), (5, oD (.ptr 5 0)), (6, oD (.ptr 6 0)), (7, iD v1.2)] [(5, .box [sC ((([] : List Int)).map Ak), sC ((([] : List Int)).map Ak), sC ((([] : List Int)).map B5)]), (6, .box [iC 0, iC 0, iC 0])] rfl rfl)) (Ap ?_)
  exact ⟨⟨[_, _, _, _], ⟨.tmp _ _ rfl, ⟨.cellN _ _ _ _ _ _ _ rfl rfl Br AH rfl rfl (Hi rfl), ⟨.cellN _ _ _ _ _ _ _ rfl rfl Kl E7 rfl rfl (Hi rfl), tm⟩⟩⟩, rfl⟩, tv⟩
 ·refine Am (wp rfl (qL CI Ce rfl (qL Br AH rfl (Dy (Ba 2001 _ _ rfl rfl) (Dy (Ba 2002 _ _ rfl rfl) (Dy (Ba 2003 _ _ rfl rfl) ?_))))))
  refine BT h fun v3 a3 h => As [] (HP N p0 v1.1 v3 a3) S8 rfl (qm rfl (qx rfl (qx rfl (qx rfl (qz CM rfl (qz HL rfl (qs AH rfl (qs E7 rfl (qa rfl (Ab (wq rfl (qm rfl (BC rfl (Ab ?_))))))))))))))
  refine Bp h (fun h => ?_) fun h => ?_
  ·refine wq rfl (qL Br AH rfl (qL Kl E7 rfl (qa rfl (qs AH rfl (qs E7 rfl (qa rfl (AI (by kernel_rfl) ?_)))))))
   obtain rfl := sj h
   refine Af (sm [] [(4, iD ((-1))), (5, oD (.ptr 5 0)), (6, oD (.ptr 6 0)), (7, iD 0)] [(5, .box (AE v3.1)), (6, .box (Ff v3.2.1))] rfl rfl) (Ap ?_)
   exact ⟨⟨[_, _, _, _], ⟨.tmp _ _ rfl, ⟨.cellN _ _ _ _ _ _ _ rfl rfl Br AH rfl rfl (Hi rfl), ⟨.cellN _ _ _ _ _ _ _ rfl rfl Kl E7 rfl rfl (Hi rfl), tm⟩⟩⟩, rfl⟩, tv⟩
  ·refine Am (wp rfl (qm rfl (AA Bg rfl (qm rfl (Ab ?_)))))
   refine AF (L := D1 N p0 p1) h (fun v5 => mk [(1, pD (.sl (p1.map Ah))), (2, oD (.ptr 2 0)), (5, oD (.ptr 5 0)), (6, oD (.ptr 6 0)), (8, oD (.ptr 8 0)), (41, pD (.sl (p1.map Ah))), (42, iD ((p1.length : Int))), (43, iD v5.2)] [(2, .box (Al p0)), (5, .box [.pure (.nil0), .pure (.nil0), .pure (.nil0)]), (6, .box [iC 0, iC 0, iC 0]), (8, .box (AE v5.1))]) (fun v6 => mk [(1, pD (.sl (p1.map Ah))), (2, oD (.ptr 2 0)), (5, oD (.ptr 5 0)), (6, oD (.ptr 6 0)), (8, oD (.ptr 8 0))] [(2, .box (Al p0)), (5, .box [.pure (.nil0), .pure (.nil0), .pure (.nil0)]), (6, .box [iC 0, iC 0, iC 0]), (8, .box (AE v6))]) (fun _ _ => rfl) (sm [] _ _ rfl rfl) (fun j5 n5 v5 h => ?_) (fun v6 s h hs => ?_)
   ·unfold D1 at h
    refine wq rfl (A3 rfl (Ab (AG ?_)))
    refine Bp h (fun h => ?_) fun h => ?_
    ·refine Am (AG (AP (wq rfl (qm rfl ?_))))
     refine CB h fun v8 a8 b8 h => qi Bg B9 a8 (Aj b8) rfl (qK FY B9 rfl (qz H1 rfl (qa rfl (qs B9 rfl (Ab (wq rfl (qL CI Ce rfl (qL Br AH rfl (qL FY B9 rfl ?_)))))))))
     refine BT h fun v9 a9 h => As [2004, 2005, 2006] (Ja N p0 v5.1 v8 v9 a9) Ux rfl (qm rfl (qx rfl (qx rfl (qz CM rfl (qs AH rfl (qa rfl (Ab (AG ?_))))))))
     refine AO h (fun v10 => mk [(1, pD (.sl (p1.map Ah))), (2, oD (.ptr 2 0)), (5, oD (.ptr 5 0)), (6, oD (.ptr 6 0)), (8, oD (.ptr 8 0)), (13, iD v5.2), (15, oD (.ptr 15 0)), (41, pD (.sl (p1.map Ah))), (42, iD ((p1.length : Int))), (43, iD v5.2), (61, bD v10)] [(2, .box (Al p0)), (5, .box [.pure (.nil0), .pure (.nil0), .pure (.nil0)]), (6, .box [iC 0, iC 0, iC 0]), (8, .box (AE v5.1)), (15, .box [.own 2007, .own 2008, .own 2009]), (2007, .vec 1 (v9.1.fe.map Ak)), (2008, .vec 1 (v9.1.fa.map Ak)), (2009, .vec 1 (v9.1.fc.map B5))]) (fun j10 h => ?_) (fun v10 h => ?_)
     ·refine Ai Az rfl (qm rfl (BM rfl (qm rfl ?_)))
      refine DO 57 h rfl (fun h => ?_) fun h => ?_
      ·refine qw 3 rfl (qp rfl (Ab ?_))
       exact sn [(2007, 2004), (2008, 2005), (2009, 2006)] h
      ·refine qf Fg rfl (ql B6 rfl (BC rfl (qp rfl (Ab ?_))))
       exact sn [(2007, 2004), (2008, 2005), (2009, 2006)] h
     ·refine Bp h (fun h => ?_) fun h => ?_
      ·refine wq rfl (qm rfl (Bv CM H5 rfl (Bv HL NY rfl (qa rfl (qs AH rfl (qs E7 rfl (qe rfl ?_)))))))
       obtain rfl := sj h
       refine Af ((Ey 5 _ rfl).trans (sm [] [(4, iD v5.2), (5, oD (.ptr 5 0)), (6, oD (.ptr 6 0)), (7, iD 0)] [(5, .box [sC ((([] : List Int)).map Ak), sC ((([] : List Int)).map Ak), sC ((([] : List Int)).map B5)]), (6, .box [iC 0, iC 0, iC 0])] rfl rfl)) (Ap ?_)
       exact ⟨⟨[_, _, _, _], ⟨.tmp _ _ rfl, ⟨.cellN _ _ _ _ _ _ _ rfl rfl Br AH rfl rfl (Hi rfl), ⟨.cellN _ _ _ _ _ _ _ rfl rfl Kl E7 rfl rfl (Hi rfl), tm⟩⟩⟩, rfl⟩, tv⟩
      ·refine Am (wp rfl (qL CI Ce rfl (qL Br AH rfl (Dy (Ba 2007 _ _ rfl rfl) (Dy (Ba 2008 _ _ rfl rfl) (Dy (Ba 2009 _ _ rfl rfl) ?_))))))
       refine BT h fun v13 a13 h => As [] (HP N p0 v9.1 v13 a13) S8 rfl (qm rfl (qx rfl (qx rfl (qx rfl (qz CM rfl (qz HL rfl (qs AH rfl (qs E7 rfl (qa rfl (Ab (wq rfl (qm rfl (BC rfl (Ab ?_))))))))))))))
       refine Bp h (fun h => ?_) fun h => ?_
       ·refine wq rfl (qm rfl (qL Br AH rfl (qL Kl E7 rfl (qa rfl (qs AH rfl (qs E7 rfl (qa rfl (AI (by kernel_rfl) ?_))))))))
        obtain rfl := sj h
        refine Af (sm [] [(4, iD v5.2), (5, oD (.ptr 5 0)), (6, oD (.ptr 6 0)), (7, iD 0)] [(5, .box (AE v13.1)), (6, .box (Ff v13.2.1))] rfl rfl) (Ap ?_)
        exact ⟨⟨[_, _, _, _], ⟨.tmp _ _ rfl, ⟨.cellN _ _ _ _ _ _ _ rfl rfl Br AH rfl rfl (Hi rfl), ⟨.cellN _ _ _ _ _ _ _ rfl rfl Kl E7 rfl rfl (Hi rfl), tm⟩⟩⟩, rfl⟩, tv⟩
       ·refine Am (Ai Az rfl (qL Br AH rfl (qs AH rfl (Ab (Ai Az rfl (Bt rfl (qm rfl (Ab ?_))))))))
        exact sn [] h
    ·refine A5 ?_
     exact sn [] h
   ·refine Af hs (wp rfl (qL CI Ce rfl (qL Br AH rfl ?_)))
    refine BT h fun v15 a15 h => As [] (Kz N p0 v6 v15 a15) TQ rfl (Ck rfl (Ab ?_))
    refine Bp h (fun h => ?_) fun h => ?_
    ·refine wq rfl (qm rfl (AA Bg rfl (Bv CM H5 rfl (Bv HL NY rfl (qa rfl (qs AH rfl (qs E7 rfl (qe rfl ?_))))))))
     obtain rfl := sj h
     refine Af ((Ey 5 _ rfl).trans (sm [] [(4, iD ((p1.length : Int))), (5, oD (.ptr 5 0)), (6, oD (.ptr 6 0)), (7, iD 14)] [(5, .box [sC ((([] : List Int)).map Ak), sC ((([] : List Int)).map Ak), sC ((([] : List Int)).map B5)]), (6, .box [iC 0, iC 0, iC 0])] rfl rfl)) (Ap ?_)
     exact ⟨⟨[_, _, _, _], ⟨.tmp _ _ rfl, ⟨.cellN _ _ _ _ _ _ _ rfl rfl Br AH rfl rfl (Hi rfl), ⟨.cellN _ _ _ _ _ _ _ rfl rfl Kl E7 rfl rfl (Hi rfl), tm⟩⟩⟩, rfl⟩, tv⟩
    ·refine Am (wq rfl (Bv CM H5 rfl (Bv HL NY rfl (qa rfl (qs AH rfl (qs E7 rfl (qe rfl ?_)))))))
     obtain rfl := sj h
     refine Af ((Ey 5 _ rfl).trans (sm [] [(4, iD 0), (5, oD (.ptr 5 0)), (6, oD (.ptr 6 0)), (7, iD 15)] [(5, .box [sC ((([] : List Int)).map Ak), sC ((([] : List Int)).map Ak), sC ((([] : List Int)).map B5)]), (6, .box [iC 0, iC 0, iC 0])] rfl rfl)) (Ap ?_)
     exact ⟨⟨[_, _, _, _], ⟨.tmp _ _ rfl, ⟨.cellN _ _ _ _ _ _ _ rfl rfl Br AH rfl rfl (Hi rfl), ⟨.cellN _ _ _ _ _ _ _ rfl rfl Kl E7 rfl rfl (Hi rfl), tm⟩⟩⟩, rfl⟩, tv⟩
theorem MB (N : Nat) (p0 : Aa) (p1 : List Ac) (r : Bool) (h : G1 N p0 p1 = some r) : Ar Tryd.prog 30 [.e (.agg (Al p0)), pD (.sl (p1.map Ah))] [] (bD r) := by
 unfold G1 at h
 refine cw (n := 19) (rs := [.tmp 4]) Tryd.func30 fun w0 S0 => ?_
 refine wq rfl (qb rfl (qa rfl (Ab (wq rfl (qL CI Ce rfl (qm rfl ?_))))))
 refine BT h fun v1 a1 h => As [] (K7 N p0 p1 v1 a1) U3 rfl (qm rfl (qx rfl (qx rfl (qx rfl (qx rfl (qz CM rfl (qz HL rfl (qa rfl (qs AH rfl (qs E7 rfl (qa rfl (Ab (wq rfl (qm rfl (BC rfl (qe rfl ?_))))))))))))))))
 obtain rfl := sj h
 refine Af (sm [] [(4, bD ((v1.2.2.2 == 15)))] [] rfl rfl) (Ap ?_)
 exact ⟨⟨[_], tm, rfl⟩, tv⟩
theorem Ho (N : Nat) (p0 : Aa) (p1 : Ad) (r : Bool × Int) (h : Dt N p0 p1 = some r) : Ar Tryd.prog 33 [.e (.agg (Al p0)), .e (.agg (AE p1))] [] (.tup [.one (.pure (.val (.bool r.1))), .one (iC r.2)]) := by
 unfold Dt at h
 refine cw (n := 22) (rs := [.tmp 4, .tmp 5]) Tryd.func33 fun w0 S0 => ?_
 refine wq rfl (qb rfl (qb rfl (qa rfl (qa rfl (Ab (wq rfl (qL CI Ce rfl (qL Br AH rfl ?_))))))))
 refine BT h fun v1 a1 h => As [] (HP N p0 p1 v1 a1) S8 rfl (qm rfl (qx rfl (qx rfl (qx rfl (qz CM rfl (qz HL rfl (qs AH rfl (qs E7 rfl (qa rfl (Ab (wq rfl (qm rfl (Ab (AP (wq rfl (BC rfl (qe rfl ?_)))))))))))))))))
 refine Bp h (fun h => ?_) fun h => ?_
 ·refine wq rfl (qa rfl (qe rfl ?_))
  obtain rfl := sj h
  refine Af (sm [] [(4, bD false), (5, iD 0)] [] rfl rfl) (Ap ?_)
  exact ⟨⟨[_, _], ⟨.tmp _ _ rfl, tm⟩, rfl⟩, tv⟩
 ·refine wq rfl (BC rfl (qe rfl ?_))
  refine Bp h (fun h => ?_) fun h => ?_
  ·refine wq rfl (qa rfl (qe rfl ?_))
   obtain rfl := sj h
   refine Af (sm [] [(4, bD true), (5, iD 0)] [] rfl rfl) (Ap ?_)
   exact ⟨⟨[_, _], ⟨.tmp _ _ rfl, tm⟩, rfl⟩, tv⟩
  ·refine wq rfl (qm rfl (qa rfl (qe rfl ?_)))
   obtain rfl := sj h
   refine Af (sm [] [(4, bD false), (5, iD v1.2.2)] [] rfl rfl) (Ap ?_)
   exact ⟨⟨[_, _], ⟨.tmp _ _ rfl, tm⟩, rfl⟩, tv⟩
theorem Nz (N : Nat) (p0 : Int) (r : ByteArray) (h : Do N p0 = some r) : Ar Tryd.prog 64 [iD p0] [] (pD (.val (.string r))) := by
 unfold Do at h
 refine cw (n := 7) (rs := [.tmp 2]) Tryd.func64 fun w0 S0 => ?_
 refine wq rfl (qa rfl (Ab (wq rfl (Ev Qm VU VW rfl (qm rfl ?_)))))
 refine CB h fun v1 a1 b1 h => NG (.p rfl) rfl rfl rfl Qm VU a1 (Aj (f := eS) b1) ?_
 refine Nc (.p rfl) rfl VV rfl (Aj (f := eS) b1) rfl ?_
 refine qa rfl (Ab ?_)
 obtain rfl := sj h
 refine Af (sm [] [(2, pD (.val (.string v1)))] [] rfl rfl) (Ap ?_)
 exact ⟨⟨[_], tm, rfl⟩, tv⟩
def QT : Go.Shelf.Ren := ⟨fun | 129 => 96 | 171 => 65 | 243 => 77 | 246 => 85 | 283 => 90 | 284 => 91 | 285 => 92 | 286 => 93 | 317 => 95 | 318 => 97 | 319 => 98 | 320 => 99 | 337 => 100 | 338 => 101 | n => n, fun | 0 => 0 | 2 => 2 | 3 => 3 | 4 => 4 | 5 => 5 | 9 => 9 | 20 => 20 | 37 => 22 | 46 => 110 | 51 => 123 | 53 => 126 | 171 => 143 | 173 => 146 | 212 => 151 | 213 => 152 | 232 => 155 | 233 => 156 | n => n, fun | 17 => 0 | 18 => 1 | 19 => 2 | n => n⟩
theorem SV : LaysM.n171 Tryd.prog QT := { mixed := Az, f129 := Tryd.func96.trans (congrArg some (by kernel_rfl)), f171 := Tryd.func65.trans (congrArg some (by kernel_rfl)), f243 := Tryd.func77.trans (congrArg some (by kernel_rfl)), f246 := Tryd.func85.trans (congrArg some (by kernel_rfl)), f283 := Tryd.func90.trans (congrArg some (by kernel_rfl)), f284 := Tryd.func91.trans (congrArg some (by kernel_rfl)), f285 := Tryd.func92.trans (congrArg some (by kernel_rfl)), f286 := Tryd.func93.trans (congrArg some (by kernel_rfl)), f317 := Tryd.func95.trans (congrArg some (by kernel_rfl)), f318 := Tryd.func97.trans (congrArg some (by kernel_rfl)), f319 := Tryd.func98.trans (congrArg some (by kernel_rfl)), f320 := Tryd.func99.trans (congrArg some (by kernel_rfl)), f337 := Tryd.func100.trans (congrArg some (by kernel_rfl)), f338 := Tryd.func101.trans (congrArg some (by kernel_rfl)), t0 := Tryd.underlying0, a0 := Tryd.isAgg0, z0 := Tryd.sizeOf0, v0 := Tryd.zeroValue0, t2 := Tryd.underlying2, a2 := Tryd.isAgg2, z2 := Tryd.sizeOf2, v2 := Tryd.zeroValue2, t3 := Tryd.underlying3, a3 := Tryd.isAgg3, z3 := Tryd.sizeOf3, v3 := Tryd.zeroValue3, t4 := Tryd.underlying4, a4 := Tryd.isAgg4, z4 := Tryd.sizeOf4, v4 := Tryd.zeroValue4, t5 := Tryd.underlying5, a5 := Tryd.isAgg5, z5 := Tryd.sizeOf5, v5 := Tryd.zeroValue5, t9 := Tryd.underlying9, a9 := Tryd.isAgg9, z9 := Tryd.sizeOf9, v9 := Tryd.zeroValue9, t20 := Tryd.underlying20, a20 := Tryd.isAgg20, z20 := Tryd.sizeOf20, v20 := Tryd.zeroValue20, t37 := Tryd.underlying22, a37 := Tryd.isAgg22, z37 := Tryd.sizeOf22, v37 := Tryd.zeroValue22, t46 := Tryd.underlying110, a46 := Tryd.isAgg110, z46 := Tryd.sizeOf110, v46 := Tryd.zeroValue110, t51 := Tryd.underlying123, a51 := Tryd.isAgg123, z51 := Tryd.sizeOf123, v51 := Tryd.zeroValue123, t53 := Tryd.underlying126, a53 := Tryd.isAgg126, z53 := Tryd.sizeOf126, v53 := Tryd.zeroValue126, t171 := Tryd.underlying143, a171 := Tryd.isAgg143, z171 := Tryd.sizeOf143, v171 := Tryd.zeroValue143, t173 := Tryd.underlying146, a173 := Tryd.isAgg146, z173 := Tryd.sizeOf146, v173 := Tryd.zeroValue146, t212 := Tryd.underlying151, a212 := Tryd.isAgg151, z212 := Tryd.sizeOf151, v212 := Tryd.zeroValue151, t213 := Tryd.underlying152, a213 := Tryd.isAgg152, z213 := Tryd.sizeOf152, t232 := Tryd.underlying155, a232 := Tryd.isAgg155, z232 := Tryd.sizeOf155, v232 := Tryd.zeroValue155, t233 := Tryd.underlying156, a233 := Tryd.isAgg156, z233 := Tryd.sizeOf156, v233 := Tryd.zeroValue156, g17 := by kernel_rfl, g18 := by kernel_rfl, g19 := by kernel_rfl, i0 := by kernel_rfl, i2 := by kernel_rfl, i3 := by kernel_rfl, i4 := by kernel_rfl, i5 := by kernel_rfl, i9 := by kernel_rfl, i20 := by kernel_rfl, i37 := by kernel_rfl, i46 := by kernel_rfl, i51 := by kernel_rfl, i53 := by kernel_rfl, i171 := by kernel_rfl, i173 := by kernel_rfl, i212 := by kernel_rfl, i232 := by kernel_rfl, i233 := by kernel_rfl, m17 := by kernel_rfl, m18 := by kernel_rfl, m19 := by kernel_rfl }
theorem H8 (N : Nat) (p0 : Int) (r : ByteArray) (h : EW N p0 = some r) : Ar Tryd.prog 65 [iD p0] [] (pD (.val (.string r))) := S6 SV (g := QT.g 17) (by kernel_rfl) h
theorem Lz (N : Nat) (p0 : Ac) (r : ByteArray × Int) (h : Ek N p0 = some r) : Ar Tryd.prog 48 [.e (.agg (C0 p0))] [] (.tup [.one (.pure (.val (.string r.1))), .one (iC r.2)]) := by
 unfold Ek at h
 refine cw (n := 26) (rs := [.tmp 2, .tmp 3]) Tryd.func48 fun w0 S0 => ?_
 refine wq rfl (qb rfl (qa rfl (qa rfl (Ab (wp rfl (qL FY B9 rfl ?_))))))
 refine BT h fun v1 a1 h => As [] (I8 N p0 v1 a1) Uw rfl (Ck rfl (Ab ?_))
 refine Bp h (fun h => ?_) fun h => ?_
 ·refine wq rfl (qa rfl (qe rfl ?_))
  obtain rfl := sj h
  refine Af (sm [] [(2, pD (.val (.string ((⟨#[]⟩ : ByteArray))))), (3, iD 1)] [] rfl rfl) (Ap ?_)
  exact ⟨⟨[_, _], ⟨.tmp _ _ rfl, tm⟩, rfl⟩, tv⟩
 ·refine Am (wq rfl (qf Fg rfl (ql B6 rfl ?_)))
  refine BT h fun v3 a3 h => As [] (Nz N p0.ff v3 a3) Vw rfl ?_
  refine EN h fun c4 h => Fp (.p rfl) rfl rfl (Jb _ _ _ _ c4) rfl ?_
  refine qf Ez rfl (ql B6 rfl ?_)
  refine BT h fun v5 a5 h => As [] (H8 N p0.fh v5 a5) Ud rfl ?_
  refine EN h fun c6 h => Fp (.p rfl) rfl rfl (Jb _ _ _ _ c6) rfl ?_
  refine qa rfl (AI (by kernel_rfl) ?_)
  refine AO h (fun v7 => mk [(4, pD (.val (.string v7)))] []) (fun j7 h => ?_) (fun v7 h => ?_)
  ·refine wq rfl (qf Fg rfl (ql B6 rfl (BC rfl (Ab ?_))))
   refine Bp h (fun h => ?_) fun h => ?_
   ·refine Ai Az rfl (qm rfl (qf HA rfl (ql B6 rfl ?_)))
    refine BT h fun v9 a9 h => As [] (H8 N p0.fi v9 a9) Ud rfl ?_
    refine EN h fun c10 h => Fp (.p rfl) rfl rfl (Jb _ _ _ _ c10) rfl ?_
    refine EN h fun c11 h => Fp (.p rfl) rfl rfl (Jb _ _ _ _ c11) rfl ?_
    refine qa rfl (Ab ?_)
    exact sn [] h
   ·refine Am ?_
    exact sn [] h
  ·refine wq rfl (qm rfl (qa rfl (qe rfl ?_)))
   obtain rfl := sj h
   refine Af (sm [] [(2, pD (.val (.string v7))), (3, iD 0)] [] rfl rfl) (Ap ?_)
   exact ⟨⟨[_, _], ⟨.tmp _ _ rfl, tm⟩, rfl⟩, tv⟩
theorem Fl (N : Nat) (p0 : List Ac) (p1 : Ac) (r : Int) (h : Bi N p0 p1 = some r) : Ar Tryd.prog 66 [pD (.sl (p0.map Ah)), .e (.agg (C0 p1))] [] (iD r) := by
 unfold Bi at h
 refine cw (n := 19) (rs := [.tmp 4]) Tryd.func66 fun w0 S0 => ?_
 refine wq rfl (qb rfl (qa rfl (Ab (wp rfl (qm rfl (AA Bg rfl (qm rfl (Ab ?_))))))))
 refine AF (L := AL N p0 p1) h (fun v1 => mk [(0, pD (.sl (p0.map Ah))), (3, oD (.ptr 3 0)), (7, iD ((p0.length : Int))), (8, iD v1)] [(3, .box (C0 p1))]) (fun v2 => mk [] []) (fun _ _ => rfl) (sm [] _ _ rfl rfl) (fun j1 n1 v1 h => ?_) (fun v2 s h hs => ?_)
 ·unfold AL at h
  refine wq rfl (A3 rfl (Ab (AG ?_)))
  refine Bp h (fun h => ?_) fun h => ?_
  ·refine Am (AG (AP (wq rfl (qm rfl (qa rfl (Ab (wq rfl (qL FY B9 rfl (qw 2 rfl ?_)))))))))
   refine CB h fun v4 a4 b4 h => qi Bg B9 a4 (Aj b4) rfl (qK FY B9 rfl ?_)
   refine Ue [.int .i64 p1.ff, .int .i64 p1.fh, .int .i64 p1.fi] [.int .i64 v4.ff, .int .i64 v4.fh, .int .i64 v4.fi] (.p rfl) rfl rfl Sz rfl ?_
   refine AI (by kernel_rfl) ?_
   refine Bp h (fun h => ?_) fun h => ?_
   ·refine wq rfl (qm rfl (qe rfl ?_))
    obtain rfl := sj h
    refine Af (sm [] [(4, iD v1)] [] rfl rfl) (Ap ?_)
    exact ⟨⟨[_], tm, rfl⟩, tv⟩
   ·refine Am (Ai Az rfl (Bt rfl (qm rfl (Ab ?_))))
    exact sn [] h
  ·refine A5 ?_
   exact sn [] h
 ·refine Af hs (wq rfl (qe rfl ?_))
  obtain rfl := sj h
  refine Af (sm [] [(4, iD ((-1)))] [] rfl rfl) (Ap ?_)
  exact ⟨⟨[_], tm, rfl⟩, tv⟩
theorem EO (N : Nat) (p0 : List Ac) (p1 : Ac) (r : Bool) (h : A4 N p0 p1 = some r) : Ar Tryd.prog 49 [pD (.sl (p0.map Ah)), .e (.agg (C0 p1))] [] (bD r) := by
 unfold A4 at h
 refine cw (n := 9) (rs := [.tmp 4]) Tryd.func49 fun w0 S0 => ?_
 refine wq rfl (qb rfl (qa rfl (Ab (wq rfl (qm rfl (qL FY B9 rfl ?_))))))
 refine BT h fun v1 a1 h => As [] (Fl N p0 p1 v1 a1) VM rfl (FA rfl (qe rfl ?_))
 obtain rfl := sj h
 refine Af (sm [] [(4, bD ((decide (0 ≤ v1))))] [] rfl rfl) (Ap ?_)
 exact ⟨⟨[_], tm, rfl⟩, tv⟩
theorem Mr (N : Nat) (p0 : List Ac) (r : Int) (h : EG N p0 = some r) : Ar Tryd.prog 34 [pD (.sl (p0.map Ah))] [] (iD r) := by
 unfold EG at h
 refine cw (n := 42) (rs := [.tmp 2]) Tryd.func34 fun w0 S0 => ?_
 refine wq rfl (qa rfl (Ab (AG ?_)))
 refine AO h (fun v1 => mk [(0, pD (.sl (p0.map Ah))), (14, bD v1)] []) (fun j1 h => ?_) (fun v1 h => ?_)
 ·refine Ai Az rfl (qm rfl (AA Bg rfl (A3 rfl (qm rfl ?_))))
  refine DO 10 h rfl (fun h => ?_) fun h => ?_
  ·refine qw 3 rfl (qp rfl (Ab ?_))
   exact sn [] h
  ·refine qm rfl (AA Bg rfl (Ew rfl (qp rfl (Ab ?_))))
   exact sn [] h
 ·refine Bp h (fun h => ?_) fun h => ?_
  ·refine wq rfl (qe rfl ?_)
   obtain rfl := sj h
   refine Af (sm [] [(2, iD 6)] [] rfl rfl) (Ap ?_)
   exact ⟨⟨[_], tm, rfl⟩, tv⟩
  ·refine Am (wp rfl (qm rfl (AA Bg rfl (qm rfl (Ab ?_)))))
   refine AF (L := CD N p0) h (fun v4 => mk [(0, pD (.sl (p0.map Ah))), (15, pD (.sl (p0.map Ah))), (16, iD ((p0.length : Int))), (17, iD v4)] []) (fun v5 => mk [] []) (fun _ _ => rfl) (sm [] _ _ rfl rfl) (fun j4 n4 v4 h => ?_) (fun v5 s h hs => ?_)
   ·unfold CD at h
    refine wq rfl (A3 rfl (Ab (AG ?_)))
    refine Bp h (fun h => ?_) fun h => ?_
    ·refine Am (AG (AP (wq rfl (qm rfl ?_))))
     refine CB h fun v7 a7 b7 h => qi Bg B9 a7 (Aj b7) rfl (qK FY B9 rfl (qz H1 rfl (qa rfl (qs B9 rfl (Ab (wq rfl (qL FY B9 rfl ?_)))))))
     refine BT h fun v8 a8 h => As [] (Lz N v7 v8 a8) UY rfl (qm rfl (qx rfl (qx rfl (qa rfl (qe rfl ?_)))))
     refine AO h (fun v9 => mk [(0, pD (.sl (p0.map Ah))), (15, pD (.sl (p0.map Ah))), (16, iD ((p0.length : Int))), (17, iD v4), (40, bD v9)] []) (fun j9 h => ?_) (fun v9 h => ?_)
     ·refine Ai Az rfl (qm rfl (BM rfl (qm rfl ?_)))
      refine DO 29 h rfl (fun h => ?_) fun h => ?_
      ·refine qw 3 rfl (qp rfl (qw 6 rfl (qp rfl (AI (by kernel_rfl) ?_))))
       exact sn [] h
      ·refine qf Fg rfl (ql B6 rfl (BC rfl (qp rfl (qm rfl ?_))))
       refine DO 34 h rfl (fun h => ?_) fun h => ?_
       ·refine qw 5 rfl (qp rfl (AI (by kernel_rfl) ?_))
        exact sn [] h
       ·refine qw 2 rfl ?_
        refine EN h fun c12 h => GI (.g rfl rfl) rfl Bg B9 (EL (f := Ah) (n := 3) (fun _ => rfl) _) (.none _) (.some _ _ _ _ c12.1) tv ⟨rfl, tv⟩ (by have := c12.2.1; (try simp only [List.length_map]); omega) (by have := c12.2.2; (try simp only [List.length_map]); omega) (FR Ah p0 _ _ ((v4).toNat - 0) rfl) ?_
        refine qL FY B9 rfl ?_
        refine BT h fun v13 a13 h => As [] (EO N (((p0.drop 0).take ((v4).toNat - 0))) v7 v13 a13) Vk rfl (qp rfl (AI (by kernel_rfl) ?_))
        exact sn [] h
     ·refine Bp h (fun h => ?_) fun h => ?_
      ·refine wq rfl (qe rfl ?_)
       obtain rfl := sj h
       refine Af (sm [] [(2, iD 1)] [] rfl rfl) (Ap ?_)
       exact ⟨⟨[_], tm, rfl⟩, tv⟩
      ·refine Am (Ai Az rfl (Bt rfl (qm rfl (Ab ?_))))
       exact sn [] h
    ·refine A5 ?_
     exact sn [] h
   ·refine Af hs (wq rfl (qe rfl ?_))
    obtain rfl := sj h
    refine Af (sm [] [(2, iD 0)] [] rfl rfl) (Ap ?_)
    exact ⟨⟨[_], tm, rfl⟩, tv⟩
theorem EU (N : Nat) (p0 : Aa) (p1 : Ad) (p2 : List Ac) (r : Ad × Bool) (h : BR N p0 p1 p2 = some r) : Ar Tryd.prog 32 [.e (.agg (Al p0)), .e (.agg (AE p1)), pD (.sl (p2.map Ah))] [] (.tup [.agg (AE r.1), .one (.pure (.val (.bool r.2)))]) := by
 unfold BR at h
 refine cw (n := 46) (rs := [.cell 6 38, .tmp 7]) Tryd.func32 fun w0 S0 => ?_
 refine wq rfl (qb rfl (qb rfl (qz CM rfl (qa rfl (Ab (wp rfl (qm rfl (AA Bg rfl (qm rfl (Ab ?_))))))))))
 refine AF (L := Cv N p0 p2) h (fun v1 => mk [(3, oD (.ptr 3 0)), (4, oD (.ptr 4 0)), (6, oD (.ptr 6 0)), (14, pD (.sl (p2.map Ah))), (15, iD ((p2.length : Int))), (16, iD v1.2.2.2)] [(3, .box (Al p0)), (4, .box [sC (v1.1.map Ak), sC (v1.2.1.map Ak), sC (v1.2.2.1.map B5)]), (6, .box [.pure (.nil0), .pure (.nil0), .pure (.nil0)])]) (fun v2 => mk [(4, oD (.ptr 4 0)), (6, oD (.ptr 6 0))] [(4, .box (AE v2)), (6, .box [.pure (.nil0), .pure (.nil0), .pure (.nil0)])]) (fun _ _ => rfl) (sm [] _ _ rfl rfl) (fun j1 n1 v1 h => ?_) (fun v2 s h hs => ?_)
 ·unfold Cv at h
  refine wq rfl (A3 rfl (Ab (AG ?_)))
  refine Bp h (fun h => ?_) fun h => ?_
  ·refine Am (AG (AP (wq rfl ?_)))
   refine CB h fun v4 a4 b4 h => qi Bg B9 a4 (Aj b4) rfl (qK FY B9 rfl (qz H1 rfl (qs B9 rfl (Ab (wq rfl (qL CI Ce rfl (qL Br AH rfl (qL FY B9 rfl ?_))))))))
   refine BT h fun v5 a5 h => As [2001, 2002, 2003] (Ja N p0 ((Ad.mk v1.1 v1.2.1 v1.2.2.1)) v4 v5 a5) Ux rfl (qm rfl (qx rfl (qx rfl (qz CM rfl (qs AH rfl (qa rfl (Ab (wp rfl (qm rfl (BM rfl (Ab ?_)))))))))))
   refine Bp h (fun h => ?_) fun h => ?_
   ·refine wq rfl (Bv CM H5 rfl (qs AH rfl (qe rfl ?_)))
    obtain rfl := sj h
    refine Af ((Ey 6 _ rfl).trans (sm [] [(6, oD (.ptr 6 0)), (7, bD false)] [(6, .box [sC ((([] : List Int)).map Ak), sC ((([] : List Int)).map Ak), sC ((([] : List Int)).map B5)])] rfl rfl)) (Ap ?_)
    exact ⟨⟨[_, _], ⟨.cellN _ _ _ _ _ _ _ rfl rfl Br AH rfl rfl (Hi rfl), tm⟩, rfl⟩, tv⟩
   ·refine Am (wp rfl (qL CI Ce rfl (qL Br AH rfl ?_)))
    refine BT h fun v7 a7 h => FL [] [2001, 2002, 2003] (Ho N p0 v5.1 v7 a7) TB D7 rfl (qm rfl (qx rfl (qx rfl (qa rfl (qe rfl ?_)))))
    refine AO h (fun v8 => mk [(3, oD (.ptr 3 0)), (4, oD (.ptr 4 0)), (6, oD (.ptr 6 0)), (10, oD (.ptr 10 0)), (14, pD (.sl (p2.map Ah))), (15, iD ((p2.length : Int))), (16, iD v1.2.2.2), (41, bD v8)] [(3, .box (Al p0)), (4, .box [sC (v1.1.map Ak), sC (v1.2.1.map Ak), sC (v1.2.2.1.map B5)]), (6, .box [.pure (.nil0), .pure (.nil0), .pure (.nil0)]), (10, .box [.own 2004, .own 2005, .own 2006]), (2004, .vec 1 (v5.1.fe.map Ak)), (2005, .vec 1 (v5.1.fa.map Ak)), (2006, .vec 1 (v5.1.fc.map B5))]) (fun j8 h => ?_) (fun v8 h => ?_)
    ·refine Ai Az rfl (qm rfl (BM rfl (qm rfl ?_)))
     refine DO 38 h rfl (fun h => ?_) fun h => ?_
     ·refine qw 2 rfl (qp rfl (Ab ?_))
      exact sn [(2004, 2001), (2005, 2002), (2006, 2003)] h
     ·refine qm rfl (Ck rfl (qp rfl (Ab ?_)))
      exact sn [(2004, 2001), (2005, 2002), (2006, 2003)] h
    ·refine Bp h (fun h => ?_) fun h => ?_
     ·refine wq rfl (Bv CM H5 rfl (qs AH rfl (qe rfl ?_)))
      obtain rfl := sj h
      refine Af ((Ey 6 _ rfl).trans (sm [] [(6, oD (.ptr 6 0)), (7, bD false)] [(6, .box [sC ((([] : List Int)).map Ak), sC ((([] : List Int)).map Ak), sC ((([] : List Int)).map B5)])] rfl rfl)) (Ap ?_)
      exact ⟨⟨[_, _], ⟨.cellN _ _ _ _ _ _ _ rfl rfl Br AH rfl rfl (Hi rfl), tm⟩, rfl⟩, tv⟩
     ·refine Am (Ai Az rfl (qL Br AH rfl (qs AH rfl (Ab (Ai Az rfl (Bt rfl (qm rfl (Ab ?_))))))))
      exact Us _ h ((Ba 2004 _ _ rfl rfl).trans ((Ba 2005 _ _ rfl rfl).trans ((Ba 2006 _ _ rfl rfl).trans (sm [] _ _ rfl rfl))))
  ·refine A5 ?_
   exact sn [] h
 ·refine Af hs (wq rfl (qL Br AH rfl (qs AH rfl (qe rfl ?_))))
  obtain rfl := sj h
  refine Af (sm [] [(6, oD (.ptr 6 0)), (7, bD true)] [(6, .box (AE v2))] rfl rfl) (Ap ?_)
  exact ⟨⟨[_, _], ⟨.cellN _ _ _ _ _ _ _ rfl rfl Br AH rfl rfl (Hi rfl), tm⟩, rfl⟩, tv⟩
theorem BF (N : Nat) (p0 : List Ac) (r : (List Ac)) (h : AJ N p0 = some r) : Ar Tryd.prog 31 [pD (.sl (p0.map Ah))] [(3, r.map Ah)] (oD (.own 0)) := by
 unfold AJ at h
 refine cw (n := 8) (rs := [.tmp 2]) Tryd.func31 fun w0 S0 => ?_
 refine wq rfl (qa rfl (Ab (wp rfl (qm rfl ?_))))
 refine MG (.p rfl) rfl Bg ?_
 refine Ab ?_
 refine MM rfl (fun c2 => ?_) ?_
 ·have c2 := List.map_eq_nil_iff.1 c2
  rw [c2] at h
  have h : (some (([] : List Ac))) = some r := h
  refine wq rfl (qe rfl ?_)
  obtain rfl := sj h
  refine Af ((BV 2 2001 3 rfl rfl rfl).trans (sm [(1000, 2001)] [(2, oD (.own 1000))] [(1000, .vec 3 ((([] : List Ac)).map Ah))] rfl rfl)) (Ap ?_)
  exact ⟨⟨[_], tm, rfl⟩, ⟨rfl, tv⟩⟩
 ·refine Am (wq rfl (Ev Bg B9 H1 rfl (qm rfl ?_)))
  refine EN h fun c1 h => N8 (f := Ah) Bg Bg B9 Qx H1 (fun _ => rfl) c1 rfl (qe rfl ?_)
  obtain rfl := sj h
  refine Af (sm [(1000, 7)] [(2, oD (.own 1000))] [(1000, .vec 3 (((([] : List Ac)) ++ p0).map Ah))] rfl rfl) (Ap ?_)
  exact ⟨⟨[_], tm, rfl⟩, ⟨rfl, tv⟩⟩
theorem HE (N : Nat) (p0 : Int) (r : Bool) (h : DK N p0 = some r) : Ar Tryd.prog 78 [iD p0] [] (bD r) := by
 unfold DK at h
 refine cw (n := 6) (rs := [.tmp 2]) Tryd.func78 fun w0 S0 => ?_
 refine wq rfl (qa rfl (Ab (wq rfl (qw 2 rfl (BM rfl (qe rfl ?_))))))
 obtain rfl := sj h
 refine Af (sm [] [(2, bD ((p0 != p0)))] [] rfl rfl) (Ap ?_)
 exact ⟨⟨[_], tm, rfl⟩, tv⟩
theorem I7 (N : Nat) (p0 : Int) (p1 : Int) (r : Int) (h : Db N p0 p1 = some r) : Ar Tryd.prog 67 [iD p0, iD p1] [] (iD r) := by
 unfold Db at h
 refine cw (n := 20) (rs := [.tmp 4]) Tryd.func67 fun w0 S0 => ?_
 refine wq rfl (qa rfl (Ab (wq rfl (qm rfl ?_))))
 refine BT h fun v1 a1 h => As [] (HE N p0 v1 a1) T8 rfl (qa rfl (Ab (wq rfl (qm rfl ?_))))
 refine BT h fun v2 a2 h => As [] (HE N p1 v2 a2) T8 rfl (qa rfl (Ab (wp rfl (qm rfl (Ab ?_)))))
 refine Bp h (fun h => ?_) fun h => ?_
 ·refine wp rfl (qm rfl (Ab ?_))
  refine Bp h (fun h => ?_) fun h => ?_
  ·refine wq rfl (qe rfl ?_)
   obtain rfl := sj h
   refine Af (sm [] [(4, iD 0)] [] rfl rfl) (Ap ?_)
   exact ⟨⟨[_], tm, rfl⟩, tv⟩
  ·refine Am (wq rfl (qe rfl ?_))
   obtain rfl := sj h
   refine Af (sm [] [(4, iD ((-1)))] [] rfl rfl) (Ap ?_)
   exact ⟨⟨[_], tm, rfl⟩, tv⟩
 ·refine Am (wp rfl (qm rfl (Ab ?_)))
  refine Bp h (fun h => ?_) fun h => ?_
  ·refine wq rfl (qe rfl ?_)
   obtain rfl := sj h
   refine Af (sm [] [(4, iD 1)] [] rfl rfl) (Ap ?_)
   exact ⟨⟨[_], tm, rfl⟩, tv⟩
  ·refine Am (wp rfl (qw 2 rfl (A3 rfl (Ab ?_))))
   refine Bp h (fun h => ?_) fun h => ?_
   ·refine wq rfl (qe rfl ?_)
    obtain rfl := sj h
    refine Af (sm [] [(4, iD ((-1)))] [] rfl rfl) (Ap ?_)
    exact ⟨⟨[_], tm, rfl⟩, tv⟩
   ·refine Am (wp rfl (qw 2 rfl (Ew rfl (Ab ?_))))
    refine Bp h (fun h => ?_) fun h => ?_
    ·refine wq rfl (qe rfl ?_)
     obtain rfl := sj h
     refine Af (sm [] [(4, iD 1)] [] rfl rfl) (Ap ?_)
     exact ⟨⟨[_], tm, rfl⟩, tv⟩
    ·refine Am (wq rfl (qe rfl ?_))
     obtain rfl := sj h
     refine Af (sm [] [(4, iD 0)] [] rfl rfl) (Ap ?_)
     exact ⟨⟨[_], tm, rfl⟩, tv⟩
theorem EK (N : Nat) (p0 : List Int) (p1 : List Int) (r : Int) (h : By N p0 p1 = some r) : Ar Tryd.prog 52 [pD (.sl (p0.map Ak)), pD (.sl (p1.map Ak))] [] (iD r) := by
 unfold By at h
 refine cw (n := 36) (rs := [.tmp 4]) Tryd.func52 fun w0 S0 => ?_
 refine wq rfl (qa rfl (Ab (wp rfl (qm rfl (AA Ax rfl (qm rfl (Ab ?_)))))))
 refine AF (L := Bk N p0 p1) h (fun v1 => mk [(0, pD (.sl (p0.map Ak))), (1, pD (.sl (p1.map Ak))), (9, pD (.sl (p0.map Ak))), (10, iD ((p0.length : Int))), (11, iD v1)] []) (fun v2 => mk [(0, pD (.sl (p0.map Ak))), (1, pD (.sl (p1.map Ak)))] []) (fun _ _ => rfl) (sm [] _ _ rfl rfl) (fun j1 n1 v1 h => ?_) (fun v2 s h hs => ?_)
 ·unfold Bk at h
  refine wq rfl (A3 rfl (Ab (AG ?_)))
  refine Bp h (fun h => ?_) fun h => ?_
  ·refine Am (AG (AP (wq rfl (qm rfl ?_))))
   refine CB h fun v4 a4 b4 h => qi Ax Dk a4 (Aj b4) rfl (qk B6 rfl (qa rfl (qa rfl (Ab (wp rfl (qw 2 rfl (AA Ax rfl (FA rfl (Ab ?_)))))))))
   refine Bp h (fun h => ?_) fun h => ?_
   ·refine wq rfl (qe rfl ?_)
    obtain rfl := sj h
    refine Af (sm [] [(4, iD 1)] [] rfl rfl) (Ap ?_)
    exact ⟨⟨[_], tm, rfl⟩, tv⟩
   ·refine Am (wq rfl (qw 2 rfl ?_))
    refine CB h fun v6 a6 b6 h => qi Ax Dk a6 (Aj b6) rfl (qk B6 rfl (qa rfl (Ab (wq rfl (qw 2 rfl ?_)))))
    refine BT h fun v7 a7 h => As [] (I7 N v4 v6 v7 a7) UP rfl (qa rfl (Ab (wq rfl (qm rfl (BM rfl (Ab ?_))))))
    refine Bp h (fun h => ?_) fun h => ?_
    ·refine wq rfl (qm rfl (qe rfl ?_))
     obtain rfl := sj h
     refine Af (sm [] [(4, iD v7)] [] rfl rfl) (Ap ?_)
     exact ⟨⟨[_], tm, rfl⟩, tv⟩
    ·refine Am (Ai Az rfl (Bt rfl (qm rfl (Ab ?_))))
     exact sn [] h
  ·refine A5 ?_
   exact sn [] h
 ·refine Af hs (wp rfl (qm rfl (AA Ax rfl (qm rfl (AA Ax rfl (A3 rfl (Ab ?_)))))))
  refine Bp h (fun h => ?_) fun h => ?_
  ·refine wq rfl (qe rfl ?_)
   obtain rfl := sj h
   refine Af (sm [] [(4, iD ((-1)))] [] rfl rfl) (Ap ?_)
   exact ⟨⟨[_], tm, rfl⟩, tv⟩
  ·refine Am (wq rfl (qe rfl ?_))
   obtain rfl := sj h
   refine Af (sm [] [(4, iD 0)] [] rfl rfl) (Ap ?_)
   exact ⟨⟨[_], tm, rfl⟩, tv⟩
theorem F6 (N : Nat) (p0 : Int) (r : Bool) (h : CL N p0 = some r) : Ar Tryd.prog 79 [pD (.val (.int .u8 p0))] [] (bD r) := by
 unfold CL at h
 refine cw (n := 6) (rs := [.tmp 2]) Tryd.func79 fun w0 S0 => ?_
 refine wq rfl (qa rfl (Ab (wq rfl (qw 2 rfl (BM rfl (qe rfl ?_))))))
 obtain rfl := sj h
 refine Af (sm [] [(2, bD ((p0 != p0)))] [] rfl rfl) (Ap ?_)
 exact ⟨⟨[_], tm, rfl⟩, tv⟩
theorem HK (N : Nat) (p0 : Int) (p1 : Int) (r : Int) (h : Cm N p0 p1 = some r) : Ar Tryd.prog 68 [pD (.val (.int .u8 p0)), pD (.val (.int .u8 p1))] [] (iD r) := by
 unfold Cm at h
 refine cw (n := 20) (rs := [.tmp 4]) Tryd.func68 fun w0 S0 => ?_
 refine wq rfl (qa rfl (Ab (wq rfl (qm rfl ?_))))
 refine BT h fun v1 a1 h => As [] (F6 N p0 v1 a1) UF rfl (qa rfl (Ab (wq rfl (qm rfl ?_))))
 refine BT h fun v2 a2 h => As [] (F6 N p1 v2 a2) UF rfl (qa rfl (Ab (wp rfl (qm rfl (Ab ?_)))))
 refine Bp h (fun h => ?_) fun h => ?_
 ·refine wp rfl (qm rfl (Ab ?_))
  refine Bp h (fun h => ?_) fun h => ?_
  ·refine wq rfl (qe rfl ?_)
   obtain rfl := sj h
   refine Af (sm [] [(4, iD 0)] [] rfl rfl) (Ap ?_)
   exact ⟨⟨[_], tm, rfl⟩, tv⟩
  ·refine Am (wq rfl (qe rfl ?_))
   obtain rfl := sj h
   refine Af (sm [] [(4, iD ((-1)))] [] rfl rfl) (Ap ?_)
   exact ⟨⟨[_], tm, rfl⟩, tv⟩
 ·refine Am (wp rfl (qm rfl (Ab ?_)))
  refine Bp h (fun h => ?_) fun h => ?_
  ·refine wq rfl (qe rfl ?_)
   obtain rfl := sj h
   refine Af (sm [] [(4, iD 1)] [] rfl rfl) (Ap ?_)
   exact ⟨⟨[_], tm, rfl⟩, tv⟩
  ·refine Am (wp rfl (qw 2 rfl (A3 rfl (Ab ?_))))
   refine Bp h (fun h => ?_) fun h => ?_
   ·refine wq rfl (qe rfl ?_)
    obtain rfl := sj h
    refine Af (sm [] [(4, iD ((-1)))] [] rfl rfl) (Ap ?_)
    exact ⟨⟨[_], tm, rfl⟩, tv⟩
   ·refine Am (wp rfl (qw 2 rfl (Ew rfl (Ab ?_))))
    refine Bp h (fun h => ?_) fun h => ?_
    ·refine wq rfl (qe rfl ?_)
     obtain rfl := sj h
     refine Af (sm [] [(4, iD 1)] [] rfl rfl) (Ap ?_)
     exact ⟨⟨[_], tm, rfl⟩, tv⟩
    ·refine Am (wq rfl (qe rfl ?_))
     obtain rfl := sj h
     refine Af (sm [] [(4, iD 0)] [] rfl rfl) (Ap ?_)
     exact ⟨⟨[_], tm, rfl⟩, tv⟩
theorem Fm (N : Nat) (p0 : List Int) (p1 : List Int) (r : Int) (h : Bf N p0 p1 = some r) : Ar Tryd.prog 53 [pD (.sl (p0.map B5)), pD (.sl (p1.map B5))] [] (iD r) := by
 unfold Bf at h
 refine cw (n := 36) (rs := [.tmp 4]) Tryd.func53 fun w0 S0 => ?_
 refine wq rfl (qa rfl (Ab (wp rfl (qm rfl (AA DD rfl (qm rfl (Ab ?_)))))))
 refine AF (L := AW N p0 p1) h (fun v1 => mk [(0, pD (.sl (p0.map B5))), (1, pD (.sl (p1.map B5))), (9, pD (.sl (p0.map B5))), (10, iD ((p0.length : Int))), (11, iD v1)] []) (fun v2 => mk [(0, pD (.sl (p0.map B5))), (1, pD (.sl (p1.map B5)))] []) (fun _ _ => rfl) (sm [] _ _ rfl rfl) (fun j1 n1 v1 h => ?_) (fun v2 s h hs => ?_)
 ·unfold AW at h
  refine wq rfl (A3 rfl (Ab (AG ?_)))
  refine Bp h (fun h => ?_) fun h => ?_
  ·refine Am (AG (AP (wq rfl (qm rfl ?_))))
   refine CB h fun v4 a4 b4 h => qi DD GZ a4 (Aj b4) rfl (qk NH rfl (qa rfl (qa rfl (Ab (wp rfl (qw 2 rfl (AA DD rfl (FA rfl (Ab ?_)))))))))
   refine Bp h (fun h => ?_) fun h => ?_
   ·refine wq rfl (qe rfl ?_)
    obtain rfl := sj h
    refine Af (sm [] [(4, iD 1)] [] rfl rfl) (Ap ?_)
    exact ⟨⟨[_], tm, rfl⟩, tv⟩
   ·refine Am (wq rfl (qw 2 rfl ?_))
    refine CB h fun v6 a6 b6 h => qi DD GZ a6 (Aj b6) rfl (qk NH rfl (qa rfl (Ab (wq rfl (qw 2 rfl ?_)))))
    refine BT h fun v7 a7 h => As [] (HK N v4 v6 v7 a7) VE rfl (qa rfl (Ab (wq rfl (qm rfl (BM rfl (Ab ?_))))))
    refine Bp h (fun h => ?_) fun h => ?_
    ·refine wq rfl (qm rfl (qe rfl ?_))
     obtain rfl := sj h
     refine Af (sm [] [(4, iD v7)] [] rfl rfl) (Ap ?_)
     exact ⟨⟨[_], tm, rfl⟩, tv⟩
    ·refine Am (Ai Az rfl (Bt rfl (qm rfl (Ab ?_))))
     exact sn [] h
  ·refine A5 ?_
   exact sn [] h
 ·refine Af hs (wp rfl (qm rfl (AA DD rfl (qm rfl (AA DD rfl (A3 rfl (Ab ?_)))))))
  refine Bp h (fun h => ?_) fun h => ?_
  ·refine wq rfl (qe rfl ?_)
   obtain rfl := sj h
   refine Af (sm [] [(4, iD ((-1)))] [] rfl rfl) (Ap ?_)
   exact ⟨⟨[_], tm, rfl⟩, tv⟩
  ·refine Am (wq rfl (qe rfl ?_))
   obtain rfl := sj h
   refine Af (sm [] [(4, iD 0)] [] rfl rfl) (Ap ?_)
   exact ⟨⟨[_], tm, rfl⟩, tv⟩
theorem Mq (N : Nat) (p0 : List Int) (r : Int) (h : EJ N p0 = some r) : Ar Tryd.prog 51 [pD (.sl (p0.map Ak))] [] (iD r) := by
 unfold EJ at h
 refine cw (n := 18) (rs := [.tmp 2]) Tryd.func51 fun w0 S0 => ?_
 refine wq rfl (qa rfl (Ab (wq rfl (qa rfl (Ab (wp rfl (qm rfl (AA Ax rfl (qm rfl (Ab ?_))))))))))
 refine AF (L := C8 N p0) h (fun v1 => mk [(3, iD 0), (6, pD (.sl (p0.map Ak))), (7, iD ((p0.length : Int))), (8, iD v1)] []) (fun v2 => mk [(3, iD 0)] []) (fun _ _ => rfl) (sm [] _ _ rfl rfl) (fun j1 n1 v1 h => ?_) (fun v2 s h hs => ?_)
 ·unfold C8 at h
  refine wq rfl (A3 rfl (Ab (AG ?_)))
  refine Bp h (fun h => ?_) fun h => ?_
  ·refine Am (AG (AP (wq rfl ?_)))
   refine CB h fun v4 a4 b4 h => qi Ax Dk a4 (Aj b4) rfl (qk B6 rfl (qa rfl (Ab (wq rfl (qw 2 rfl (BM rfl (Ab ?_)))))))
   refine Bp h (fun h => ?_) fun h => ?_
   ·refine wq rfl (qm rfl (qe rfl ?_))
    obtain rfl := sj h
    refine Af (sm [] [(2, iD v4)] [] rfl rfl) (Ap ?_)
    exact ⟨⟨[_], tm, rfl⟩, tv⟩
   ·refine Am (Ai Az rfl (Bt rfl (qm rfl (Ab ?_))))
    exact sn [] h
  ·refine A5 ?_
   exact sn [] h
 ·refine Af hs (wq rfl (qm rfl (qe rfl ?_)))
  obtain rfl := sj h
  refine Af (sm [] [(2, iD 0)] [] rfl rfl) (Ap ?_)
  exact ⟨⟨[_], tm, rfl⟩, tv⟩
theorem Lf (N : Nat) (p0 : Ad) (p1 : Ad) (r : Int) (h : DI N p0 p1 = some r) : Ar Tryd.prog 37 [.e (.agg (AE p0)), .e (.agg (AE p1))] [] (iD r) := by
 unfold DI at h
 refine cw (n := 22) (rs := [.tmp 4]) Tryd.func37 fun w0 S0 => ?_
 refine wq rfl (qb rfl (qb rfl (qa rfl (Ab (wq rfl (qf C3 rfl (ql Bh rfl (qf C3 rfl (ql Bh rfl ?_)))))))))
 refine BT h fun v1 a1 h => As [] (EK N p0.fe p1.fe v1 a1) Ug rfl (qf B2 rfl (ql Bh rfl (qf B2 rfl (ql Bh rfl ?_))))
 refine BT h fun v2 a2 h => As [] (EK N p0.fa p1.fa v2 a2) Ug rfl (qf Dn rfl (ql IW rfl (qf Dn rfl (ql IW rfl ?_))))
 refine BT h fun v3 a3 h => As [] (Fm N p0.fc p1.fc v3 a3) UO rfl (Ev Ax Dk Ks rfl ?_)
 refine BT h fun v4 a4 h => FL [] [20] (Mq N (([v1, v2, v3] : List Int)) v4 a4) Vr D7 rfl (qa rfl (AI (by kernel_rfl) ?_))
 obtain rfl := sj h
 refine Af (sm [] [(4, iD v4)] [] rfl rfl) (Ap ?_)
 exact ⟨⟨[_], tm, rfl⟩, tv⟩
theorem LA (N : Nat) (p0 : List Ac) (p1 : List Int) (p2 : List Int) (p3 : List Int) (p4 : List Aq) (p5 : List Int) (p6 : List Int) (p7 : List Int) (p8 : List Int) (p9 : List Int) (p10 : List Int) (p11 : Option (List Ac)) (r : Bool × (Option (List Ac))) (h : Em N p0 p1 p2 p3 p4 p5 p6 p7 p8 p9 p10 p11 = some r) : Cu Tryd.prog 36 [pD (.sl (p0.map Ah)), oD (.rop [.sl (p1.map Ak), .sl (p2.map Ak), .sl (p3.map Ak), .sl (p4.map AC)]), oD (.rop [.sl (p5.map Ak), .sl (p6.map Ak), .sl (p7.map B5)]), oD (.rop [.sl (p8.map Ak), .sl (p9.map Ak), .sl (p10.map B5)]), oD (.ptr 90000 0)] [(.box [.pure (JN Ah p11)], .box [.pure (JN Ah r.2)])] [] (bD r.1) := by
 unfold Em at h
 refine En (n := 25) (rs := [.tmp 6]) Tryd.func36 rfl rfl rfl (Iz rfl) (Iz rfl) rfl rfl (Iz rfl) rfl (Iz rfl) fun w0 S0 GL => ?_
 refine Af (sm [] [(0, pD (.sl (p0.map Ah))), (1, oD (.rop [.sl (p1.map Ak), .sl (p2.map Ak), .sl (p3.map Ak), .sl (p4.map AC)])), (2, oD (.rop [.sl (p5.map Ak), .sl (p6.map Ak), .sl (p7.map B5)])), (3, oD (.rop [.sl (p8.map Ak), .sl (p9.map Ak), .sl (p10.map B5)])), (4, oD (.ptr 90000 0))] [(90000, .box [.pure (JN Ah p11)])] rfl rfl) (wq rfl (qa rfl (Ab (wp rfl (qK CI Ce rfl (qK Br AH rfl (qm rfl ?_)))))))
 refine BT h fun v1 a1 h => As [] (EU N ((Aa.mk p1 p2 p3 p4)) ((Ad.mk p5 p6 p7)) p0 v1 a1) RP rfl (qm rfl (qx rfl (qx rfl (qz CM rfl (qs AH rfl (qe rfl ?_))))))
 refine AO h (fun v2 => mk [(0, pD (.sl (p0.map Ah))), (4, oD (.ptr 90000 0)), (23, bD v2)] [(90000, .box [.pure (JN Ah p11)])]) (fun j2 h => ?_) (fun v2 h => ?_)
 ·refine Ai Az rfl (qm rfl (Ck rfl (qm rfl ?_)))
  refine DO 18 h rfl (fun h => ?_) fun h => ?_
  ·refine qw 4 rfl (qp rfl (Ab ?_))
   exact sn [] h
  ·refine qL Br AH rfl (qK Br AH rfl ?_)
   refine BT h fun v4 a4 h => As [] (Lf N v1.1 ((Ad.mk p8 p9 p10)) v4 a4) Vz rfl (BM rfl (qp rfl (Ab ?_)))
   exact sn [] h
 ·refine Bp h (fun h => ?_) fun h => ?_
  ·refine wq rfl (qm rfl (qs Nn rfl (Ab (wq rfl (qe rfl ?_)))))
   obtain rfl := sj h
   refine Af (sm [] [(6, bD false)] [(90000, .box [.pure (JN Ah ((some p0)))])] rfl rfl) (Ap ?_)
   exact ⟨⟨[_], tm, rfl⟩, ⟨rfl, tv⟩, tv⟩
  ·refine Am (wq rfl (qe rfl ?_))
   obtain rfl := sj h
   refine Af (sm [] [(6, bD true)] [(90000, .box [.pure (JN Ah p11)])] rfl rfl) (Ap ?_)
   exact ⟨⟨[_], tm, rfl⟩, ⟨rfl, tv⟩, tv⟩
theorem E6 (N : Nat) (p0 : List Ac) (p1 : Int) (p2 : Int) (r : Nat × (List Ac)) (h : Bb N p0 p1 p2 = some r) : Cu Tryd.prog 50 [oD (.own 90000), iD p1, iD p2] [(.vec 3 (p0.map Ah), .vec 3 (r.2.map Ah))] [] (oD (.view 90000 3 0 r.1)) := by
 unfold Bb at h
 refine En (n := 33) (rs := [.tmp 6]) Tryd.func50 rfl rfl rfl (Iz rfl) (Iz rfl) rfl rfl (Iz rfl) rfl (Iz rfl) fun w0 S0 GL => ?_
 refine Af (sm [] [(0, oD (.own 90000)), (1, iD p1), (2, iD p2)] [(90000, .vec 3 (p0.map Ah))] rfl rfl) (wq rfl (qa rfl (Ab (wq rfl (qw 4 rfl (FX Bg rfl ?_))))))
 refine EN h fun c1 h => Qb (.p rfl) rfl rfl Bg B9 rfl rfl rfl c1.1 c1.2.1 c1.2.2.1 c1.2.2.2.1 c1.2.2.2.2.1 (by rw [List.length_map]; exact c1.2.2.2.2.2) ?_
 refine Ab (wp rfl (qw 2 rfl (BC rfl (Ab ?_))))
 refine Bp h (fun h => ?_) fun h => ?_
 ·refine wq rfl (qm rfl (qe rfl ?_))
  obtain rfl := sj h
  refine Af ((RG Ah p0 6 90000 3 rfl rfl).trans (sm [] [(6, oD (.view 90000 3 0 p0.length))] [(90000, .vec 3 (p0.map Ah))] rfl rfl)) (Ap ?_)
  exact ⟨⟨[_], tm, rfl⟩, ⟨rfl, tv⟩, tv⟩
 ·refine Am (wq rfl (qm rfl (FX Bg rfl (qa rfl (Ab (wq rfl (qw 2 rfl ?_)))))))
  obtain ⟨c3, h⟩ := Fd h
  have w4 : 0 + ((p1).toNat) ≤ p0.length := by have := c3.2.1; have := c3.2.2; omega
  refine H7 Ah p0 (.p rfl) rfl (HY Ah _ _ p0) rfl Bg B9 (.none _) (.some _ _ _ _ c3.1) tv ⟨rfl, tv⟩ c3.2.1 (by rw [Nat.zero_add]; exact c3.2.2) (Nat.zero_add _) rfl ?_
  refine qw 2 rfl ?_
  obtain ⟨c5, h⟩ := Fd h
  have w6 : ((p2).toNat) + ((p0.length - (p2).toNat)) ≤ p0.length := by have := c5.2.1; have := c5.2.2; omega
  refine H7 Ah p0 (.p rfl) rfl (HY Ah _ _ p0) rfl Bg B9 (.some _ _ _ _ c5.1) (.none _) ⟨rfl, tv⟩ tv c5.2.1 (by rw [Nat.zero_add]; exact c5.2.2) (Nat.zero_add _) rfl ?_
  obtain ⟨c7, h⟩ := Fd h
  have w9f : 0 + ((p1).toNat) + (((p0.drop ((p2).toNat)).take ((p0.length - (p2).toNat)))).length ≤ p0.length := by have := c7; omega
  have w8 : (FV p0 (0 + ((p1).toNat)) (((p0.drop ((p2).toNat)).take ((p0.length - (p2).toNat))))).length = p0.length := FI w9f
  have w9 : 0 + ((p1).toNat + (((p0.drop ((p2).toNat)).take ((p0.length - (p2).toNat)))).length) ≤ (FV p0 (0 + ((p1).toNat)) (((p0.drop ((p2).toNat)).take ((p0.length - (p2).toNat))))).length := by rw [w8]; have := c7; omega
  refine Oq Ah p0 (((p0.drop ((p2).toNat)).take ((p0.length - (p2).toNat)))) (.p rfl) rfl (Ij Ah _ _ 0 ((p1).toNat) p0 w4) rfl rfl (LS Ah _ _ ((p2).toNat) ((p0.length - (p2).toNat)) p0 w6) ⟨rfl, tv⟩ Bg Bg B9 w9f rfl ?_
  refine qa rfl (AI (by kernel_rfl) (wq rfl (qw 2 rfl ?_)))
  refine Sf (.p rfl) rfl Bg ?_
  refine qm rfl ?_
  obtain ⟨c10, h⟩ := Fd h
  have w11 : (((((((p1).toNat + (((p0.drop ((p2).toNat)).take ((p0.length - (p2).toNat)))).length)) : Nat) : Int)).toNat) + ((((p0.length : Int)).toNat - ((((((p1).toNat + (((p0.drop ((p2).toNat)).take ((p0.length - (p2).toNat)))).length)) : Nat) : Int)).toNat)) ≤ (FV p0 (0 + ((p1).toNat)) (((p0.drop ((p2).toNat)).take ((p0.length - (p2).toNat))))).length := by have := c10.2.2.1; have := c10.2.2.2; omega
  refine H7 Ah (FV p0 (0 + ((p1).toNat)) (((p0.drop ((p2).toNat)).take ((p0.length - (p2).toNat))))) (.p rfl) rfl (Ij Ah _ _ 0 (((p1).toNat + (((p0.drop ((p2).toNat)).take ((p0.length - (p2).toNat)))).length)) (FV p0 (0 + ((p1).toNat)) (((p0.drop ((p2).toNat)).take ((p0.length - (p2).toNat))))) w9) rfl Bg B9 (.some _ _ _ _ c10.1) (.some _ _ _ _ c10.2.1) ⟨rfl, tv⟩ ⟨rfl, tv⟩ c10.2.2.1 (by rw [Nat.zero_add]; exact c10.2.2.2) (Nat.zero_add _) rfl ?_
  have w12 : (FV (FV p0 (0 + ((p1).toNat)) (((p0.drop ((p2).toNat)).take ((p0.length - (p2).toNat))))) (((((((p1).toNat + (((p0.drop ((p2).toNat)).take ((p0.length - (p2).toNat)))).length)) : Nat) : Int)).toNat) (List.replicate ((((p0.length : Int)).toNat - ((((((p1).toNat + (((p0.drop ((p2).toNat)).take ((p0.length - (p2).toNat)))).length)) : Nat) : Int)).toNat)) ((Ac.mk 0 0 0)))).length = (FV p0 (0 + ((p1).toNat)) (((p0.drop ((p2).toNat)).take ((p0.length - (p2).toNat))))).length := FI (by rw [List.length_replicate]; exact w11)
  refine QV Ah (FV p0 (0 + ((p1).toNat)) (((p0.drop ((p2).toNat)).take ((p0.length - (p2).toNat))))) ((Ac.mk 0 0 0)) rfl rfl (Ij Ah _ _ (((((((p1).toNat + (((p0.drop ((p2).toNat)).take ((p0.length - (p2).toNat)))).length)) : Nat) : Int)).toNat) ((((p0.length : Int)).toNat - ((((((p1).toNat + (((p0.drop ((p2).toNat)).take ((p0.length - (p2).toNat)))).length)) : Nat) : Int)).toNat)) (FV p0 (0 + ((p1).toNat)) (((p0.drop ((p2).toNat)).take ((p0.length - (p2).toNat))))) w11) rfl Bg H1 rfl rfl rfl rfl ?_
  refine Ab (wq rfl (qm rfl (qe rfl ?_)))
  obtain rfl := sj h
  refine Af (sm [] [(6, oD (.view 90000 3 0 (((p1).toNat + (((p0.drop ((p2).toNat)).take ((p0.length - (p2).toNat)))).length))))] [(90000, .vec 3 ((FV (FV p0 (0 + ((p1).toNat)) (((p0.drop ((p2).toNat)).take ((p0.length - (p2).toNat))))) (((((((p1).toNat + (((p0.drop ((p2).toNat)).take ((p0.length - (p2).toNat)))).length)) : Nat) : Int)).toNat) (List.replicate ((((p0.length : Int)).toNat - ((((((p1).toNat + (((p0.drop ((p2).toNat)).take ((p0.length - (p2).toNat)))).length)) : Nat) : Int)).toNat)) ((Ac.mk 0 0 0)))).map Ah))] rfl rfl) (Ap ?_)
  exact ⟨⟨[_], tm, rfl⟩, ⟨rfl, tv⟩, tv⟩
theorem IJ (N : Nat) (rc : (List Ac) → (List Ac) → (List Int) → (List Int) → (List Int) → (List Aq) → (List Int) → (List Int) → (List Int) → (List Int) → (List Int) → (List Int) → (Option (List Ac)) → Option (Bool × (Option (List Ac)))) (hrc : ∀ (p0 : List Ac) (p1 : List Ac) (p2 : List Int) (p3 : List Int) (p4 : List Int) (p5 : List Aq) (p6 : List Int) (p7 : List Int) (p8 : List Int) (p9 : List Int) (p10 : List Int) (p11 : List Int) (p12 : Option (List Ac)) (r : Bool × (Option (List Ac))), rc p0 p1 p2 p3 p4 p5 p6 p7 p8 p9 p10 p11 p12 = some r → Cu Tryd.prog 35 [pD (.sl (p0.map Ah)), pD (.sl (p1.map Ah)), oD (.cls 36 [.rop [.sl (p2.map Ak), .sl (p3.map Ak), .sl (p4.map Ak), .sl (p5.map AC)], .rop [.sl (p6.map Ak), .sl (p7.map Ak), .sl (p8.map B5)], .rop [.sl (p9.map Ak), .sl (p10.map Ak), .sl (p11.map B5)], .ptr 90000 0])] [(.box [.pure (JN Ah p12)], .box [.pure (JN Ah r.2)])] [] (bD r.1)) (p0 : List Ac) (p1 : List Ac) (p2 : List Int) (p3 : List Int) (p4 : List Int) (p5 : List Aq) (p6 : List Int) (p7 : List Int) (p8 : List Int) (p9 : List Int) (p10 : List Int) (p11 : List Int) (p12 : Option (List Ac)) (r : Bool × (Option (List Ac))) (h : DA N rc p0 p1 p2 p3 p4 p5 p6 p7 p8 p9 p10 p11 p12 = some r) : Cu Tryd.prog 35 [pD (.sl (p0.map Ah)), pD (.sl (p1.map Ah)), oD (.cls 36 [.rop [.sl (p2.map Ak), .sl (p3.map Ak), .sl (p4.map Ak), .sl (p5.map AC)], .rop [.sl (p6.map Ak), .sl (p7.map Ak), .sl (p8.map B5)], .rop [.sl (p9.map Ak), .sl (p10.map Ak), .sl (p11.map B5)], .ptr 90000 0])] [(.box [.pure (JN Ah p12)], .box [.pure (JN Ah r.2)])] [] (bD r.1) := by
 unfold DA at h
 refine En (n := 37) (rs := [.tmp 6]) Tryd.func35 rfl rfl rfl (Iz rfl) (Iz rfl) rfl rfl (Iz rfl) rfl (Iz rfl) fun w0 S0 GL => ?_
 refine Af (sm [] [(0, pD (.sl (p0.map Ah))), (1, pD (.sl (p1.map Ah))), (2, oD (.cls 36 [.rop [.sl (p2.map Ak), .sl (p3.map Ak), .sl (p4.map Ak), .sl (p5.map AC)], .rop [.sl (p6.map Ak), .sl (p7.map Ak), .sl (p8.map B5)], .rop [.sl (p9.map Ak), .sl (p10.map Ak), .sl (p11.map B5)], .ptr 90000 0]))] [(90000, .box [.pure (JN Ah p12)])] rfl rfl) (wq rfl (qa rfl (Ab (wp rfl (qm rfl (AA Bg rfl (BC rfl (Ab ?_))))))))
 refine Bp h (fun h => ?_) fun h => ?_
 ·refine wq rfl (qw 2 rfl ?_)
  refine BT h fun v2 a2 h => RV (ds0 := [_]) [90000] [] [true] (LA N p0 p2 p3 p4 p5 p6 p7 p8 p9 p10 p11 p12 v2 a2) (.p rfl) rfl U6 rfl ⟨rfl, tv⟩ rfl rfl (by decide) ⟨rfl, tv⟩ rfl (FP rfl) tv ⟨(fun h => by cases h), tv⟩ rfl rfl rfl ?_
  refine qa rfl (Ab ?_)
  obtain rfl := sj h
  refine Af (sm [] [(6, bD v2.1)] [(90000, .box [.pure (JN Ah v2.2)])] rfl rfl) (Ap ?_)
  exact ⟨⟨[_], tm, rfl⟩, ⟨rfl, tv⟩, tv⟩
 ·refine Am (wp rfl (qm rfl (AA Bg rfl (qm rfl (Ab ?_)))))
  refine AF (L := Cb N p0 p1 p2 p3 p4 p5 p6 p7 p8 p9 p10 p11 rc) h (fun v3 => mk [(0, pD (.sl (p0.map Ah))), (1, pD (.sl (p1.map Ah))), (2, oD (.cls 36 [.rop [.sl (p2.map Ak), .sl (p3.map Ak), .sl (p4.map Ak), .sl (p5.map AC)], .rop [.sl (p6.map Ak), .sl (p7.map Ak), .sl (p8.map B5)], .rop [.sl (p9.map Ak), .sl (p10.map Ak), .sl (p11.map B5)], .ptr 90000 0])), (15, pD (.sl (p1.map Ah))), (16, iD ((p1.length : Int))), (17, iD v3.2)] [(90000, .box [.pure (JN Ah v3.1)])]) (fun v4 => mk [] [(90000, .box [.pure (JN Ah v4)])]) (fun _ _ => rfl) (sm [] _ _ rfl rfl) (fun j3 n3 v3 h => ?_) (fun v4 s h hs => ?_)
  ·unfold Cb at h
   refine wq rfl (A3 rfl (Ab (AG ?_)))
   refine Bp h (fun h => ?_) fun h => ?_
   ·refine Am (AG (AP (wq rfl (qm rfl ?_))))
    refine CB h fun v6 a6 b6 h => qi Bg B9 a6 (Aj b6) rfl (qK FY B9 rfl (qz H1 rfl (qa rfl (qs B9 rfl (Ab (wq rfl (qm rfl ?_)))))))
    refine BT h fun v7 a7 h => As [2001] (BF N p0 v7 a7) Rw rfl (qL FY B9 rfl (Ev Bg B9 H1 rfl ?_))
    refine EN h fun c8 h => Pp (.p rfl) rfl (.own _ _ _) ⟨rfl, tv⟩ rfl (.own _ _ _) ⟨rfl, tv⟩ rfl Bg Bg B9 Qx (Iz rfl) H1 rfl (R0 (f := Ah) (g := Ah) (xs := v7) (ys := (([v6] : List Ac))) c8) (Rv Ah v7 (([v6] : List Ac))) rfl ?_
    refine qm rfl ?_
    refine BT h fun v9 a9 h => As [2002] (BF N p1 v9 a9) Rw rfl (qw 2 rfl (Bt rfl ?_))
    obtain ⟨v10, a10, h⟩ := bind_some h
    obtain ⟨c11, h⟩ := Fd h
    have w12 : 0 + v10.1 ≤ v10.2.length := by rw [Nat.zero_add]; exact c11
    refine QC (ds0 := [_, _, _]) (b := 2002) (E6 N v9 v3.2 ((wI .i64 (v3.2 + 1))) v10 a10) (.p rfl) VG rfl ⟨rfl, rfl, rfl, tv⟩ rfl ⟨rfl, tv⟩ rfl rfl (by rw [List.length_map]; exact c11) (List.map_take).symm ?_
    refine qm rfl ?_
    refine BT h fun v13 a13 h => Ko (ds0 := [_, _, _]) [90000] [] [true] (hrc ((v7 ++ (([v6] : List Ac)))) ((v10.2.take v10.1)) p2 p3 p4 p5 p6 p7 p8 p9 p10 p11 v3.1 v13 a13) (.p rfl) UH rfl ⟨rfl, rfl, rfl, tv⟩ rfl rfl (by decide) ⟨rfl, tv⟩ rfl (FP rfl) tv ⟨(fun h => by cases h), tv⟩ rfl rfl rfl ?_
    refine Ck rfl (AI (by kernel_rfl) ?_)
    refine Bp h (fun h => ?_) fun h => ?_
    ·refine wq rfl (qe rfl ?_)
     obtain rfl := sj h
     refine Af (sm [] [(6, bD false)] [(90000, .box [.pure (JN Ah v13.2)])] rfl rfl) (Ap ?_)
     exact ⟨⟨[_], tm, rfl⟩, ⟨rfl, tv⟩, tv⟩
    ·refine Am (Ai Az rfl (Bt rfl (qm rfl (Ab ?_))))
     exact sn [] h
   ·refine A5 ?_
    exact sn [] h
  ·refine Af hs (wq rfl (qe rfl ?_))
   obtain rfl := sj h
   refine Af (sm [] [(6, bD true)] [(90000, .box [.pure (JN Ah v4)])] rfl rfl) (Ap ?_)
   exact ⟨⟨[_], tm, rfl⟩, ⟨rfl, tv⟩, tv⟩
theorem Gt (N : Nat) : ∀ (k : Nat) (p0 : List Ac) (p1 : List Ac) (p2 : List Int) (p3 : List Int) (p4 : List Int) (p5 : List Aq) (p6 : List Int) (p7 : List Int) (p8 : List Int) (p9 : List Int) (p10 : List Int) (p11 : List Int) (p12 : Option (List Ac)) (r : Bool × (Option (List Ac))), BU N k p0 p1 p2 p3 p4 p5 p6 p7 p8 p9 p10 p11 p12 = some r → Cu Tryd.prog 35 [pD (.sl (p0.map Ah)), pD (.sl (p1.map Ah)), oD (.cls 36 [.rop [.sl (p2.map Ak), .sl (p3.map Ak), .sl (p4.map Ak), .sl (p5.map AC)], .rop [.sl (p6.map Ak), .sl (p7.map Ak), .sl (p8.map B5)], .rop [.sl (p9.map Ak), .sl (p10.map Ak), .sl (p11.map B5)], .ptr 90000 0])] [(.box [.pure (JN Ah p12)], .box [.pure (JN Ah r.2)])] [] (bD r.1)
 | 0, _, _, _, _, _, _, _, _, _, _, _, _, _, _, h => by cases h
 | k + 1, p0, p1, p2, p3, p4, p5, p6, p7, p8, p9, p10, p11, p12, r, h => IJ N (BU N k) (Gt N k) p0 p1 p2 p3 p4 p5 p6 p7 p8 p9 p10 p11 p12 r h
theorem JH (N : Nat) (p0 : List Ac) (p1 : List Ac) (p2 : List Int) (p3 : List Int) (p4 : List Int) (p5 : List Aq) (p6 : List Int) (p7 : List Int) (p8 : List Int) (p9 : List Int) (p10 : List Int) (p11 : List Int) (p12 : Option (List Ac)) (r : Bool × (Option (List Ac))) (h : Fh N p0 p1 p2 p3 p4 p5 p6 p7 p8 p9 p10 p11 p12 = some r) : Cu Tryd.prog 35 [pD (.sl (p0.map Ah)), pD (.sl (p1.map Ah)), oD (.cls 36 [.rop [.sl (p2.map Ak), .sl (p3.map Ak), .sl (p4.map Ak), .sl (p5.map AC)], .rop [.sl (p6.map Ak), .sl (p7.map Ak), .sl (p8.map B5)], .rop [.sl (p9.map Ak), .sl (p10.map Ak), .sl (p11.map B5)], .ptr 90000 0])] [(.box [.pure (JN Ah p12)], .box [.pure (JN Ah r.2)])] [] (bD r.1) := Gt N N p0 p1 p2 p3 p4 p5 p6 p7 p8 p9 p10 p11 p12 r h
theorem JV (N : Nat) (p0 : Aa) (p1 : Ad) (p2 : List Ac) (r : (List Ac) × Int) (h : EB N p0 p1 p2 = some r) : Ar Tryd.prog 13 [.e (.agg (Al p0)), .e (.agg (AE p1)), pD (.sl (p2.map Ah))] [] (.tup [.one (sC (r.1.map Ah)), .one (iC r.2)]) := by
 unfold EB at h
 refine cw (n := 49) (rs := [.tmp 6, .tmp 7]) Tryd.func13 fun w0 S0 => ?_
 refine wq rfl (qb rfl (qb rfl (qa rfl (qa rfl (Ab (wq rfl (qL CI Ce rfl (qL Br AH rfl ?_))))))))
 refine BT h fun v1 a1 h => As [] (Ho N p0 p1 v1 a1) TB rfl (qm rfl (qx rfl (qx rfl (qa rfl (qa rfl (Ab (wp rfl (qm rfl (BM rfl (Ab ?_))))))))))
 refine Bp h (fun h => ?_) fun h => ?_
 ·refine wq rfl (qm rfl (qa rfl (qe rfl ?_)))
  obtain rfl := sj h
  refine Af ((Kx 6 _ rfl).trans (sm [] [(6, pD (.sl ((([] : List Ac)).map Ah))), (7, iD v1.2)] [] rfl rfl)) (Ap ?_)
  exact ⟨⟨[_, _], ⟨.tmp _ _ rfl, tm⟩, rfl⟩, tv⟩
 ·refine Am (wp rfl (qm rfl ?_))
  refine BT h fun v3 a3 h => As [] (Mr N p2 v3 a3) U0 rfl (qa rfl (Ab (wq rfl (qm rfl (BM rfl (Ab ?_))))))
  refine Bp h (fun h => ?_) fun h => ?_
  ·refine wq rfl (qm rfl (qa rfl (qe rfl ?_)))
   obtain rfl := sj h
   refine Af ((Kx 6 _ rfl).trans (sm [] [(6, pD (.sl ((([] : List Ac)).map Ah))), (7, iD v3)] [] rfl rfl)) (Ap ?_)
   exact ⟨⟨[_, _], ⟨.tmp _ _ rfl, tm⟩, rfl⟩, tv⟩
  ·refine Am (wq rfl (qL CI Ce rfl (qL Br AH rfl (qm rfl ?_))))
   refine BT h fun v5 a5 h => As [] (EU N p0 p1 p2 v5 a5) RP rfl (qm rfl (qx rfl (qx rfl (qz CM rfl (qs AH rfl (qa rfl (Ab (AG ?_))))))))
   refine AO h (fun v6 => mk [(2, pD (.sl (p2.map Ah))), (3, oD (.ptr 3 0)), (4, oD (.ptr 4 0)), (11, oD (.ptr 11 0)), (40, bD v6)] [(3, .box (Al p0)), (4, .box (AE p1)), (11, .box (AE v5.1))]) (fun j6 h => ?_) (fun v6 h => ?_)
   ·refine Ai Az rfl (qm rfl (Ck rfl (qm rfl ?_)))
    refine DO 37 h rfl (fun h => ?_) fun h => ?_
    ·refine qw 2 rfl (qp rfl (Ab ?_))
     exact sn [] h
    ·refine qm rfl (Ck rfl (qp rfl (Ab ?_)))
     exact sn [] h
   ·refine Bp h (fun h => ?_) fun h => ?_
    ·refine wq rfl (qm rfl ?_)
     refine BT h fun v9 a9 h => As [2001] (BF N p2 v9 a9) Rw rfl (qa rfl (qe rfl ?_))
     obtain rfl := sj h
     refine Af ((Ba 2001 _ _ rfl rfl).trans (sm [] [(6, pD (.sl (v9.map Ah))), (7, iD 0)] [] rfl rfl)) (Ap ?_)
     exact ⟨⟨[_, _], ⟨.tmp _ _ rfl, tm⟩, rfl⟩, tv⟩
    ·refine Am (wq rfl ?_)
     refine Qs (.p rfl) Q8 rfl ?_
     refine Ab (wq rfl (qm rfl (Dy (Jk 3 [.sl (p0.fb.map Ak), .sl (p0.fm.map Ak), .sl (p0.fo.map Ak), .sl (p0.fd.map AC)] rfl rfl) (Dy (Jk 4 [.sl (p1.fe.map Ak), .sl (p1.fa.map Ak), .sl (p1.fc.map B5)] rfl rfl) (Dy (Jk 11 [.sl (v5.1.fe.map Ak), .sl (v5.1.fa.map Ak), .sl (v5.1.fc.map B5)] rfl rfl) ?_)))))
     refine ND [.rop [.sl (p0.fb.map Ak), .sl (p0.fm.map Ak), .sl (p0.fo.map Ak), .sl (p0.fd.map AC)], .rop [.sl (p1.fe.map Ak), .sl (p1.fa.map Ak), .sl (p1.fc.map B5)], .rop [.sl (v5.1.fe.map Ak), .sl (v5.1.fa.map Ak), .sl (v5.1.fc.map B5)], .ptr 13 0] (.p rfl) rfl ⟨rfl, rfl, rfl, rfl, tv⟩ ?_
     refine BT h fun v10 a10 h => Ko (ds0 := [_, _, _]) [13] [] [true] (JH N (([] : List Ac)) p2 p0.fb p0.fm p0.fo p0.fd p1.fe p1.fa p1.fc v5.1.fe v5.1.fa v5.1.fc ((none : Option (List Ac))) v10 a10) (.p rfl) UH rfl ⟨rfl, rfl, rfl, tv⟩ rfl rfl (by decide) ⟨rfl, tv⟩ rfl (FP rfl) tv ⟨(fun h => by cases h), tv⟩ rfl rfl rfl ?_
     refine Ab (wp rfl (ql Pl rfl ?_))
     refine EN h fun c11 h => QI (.p rfl) rfl Bg c11 ?_
     refine Ab ?_
     refine Bp h (fun h => ?_) fun h => ?_
     ·refine wq rfl (qa rfl (qe rfl ?_))
      obtain rfl := sj h
      refine Af ((Kx 6 _ rfl).trans (sm [] [(6, pD (.sl ((([] : List Ac)).map Ah))), (7, iD 15)] [] rfl rfl)) (Ap ?_)
      exact ⟨⟨[_, _], ⟨.tmp _ _ rfl, tm⟩, rfl⟩, tv⟩
     ·refine Am (wq rfl (ql Pl rfl (qa rfl (qe rfl ?_))))
      obtain rfl := sj h
      refine Af ((RJ 6 v10.2 rfl).trans (sm [] [(6, pD (.sl (((v10.2.getD [])).map Ah))), (7, iD 0)] [] rfl rfl)) (Ap ?_)
      exact ⟨⟨[_, _], ⟨.tmp _ _ rfl, tm⟩, rfl⟩, tv⟩
theorem Fu (N : Nat) (p0 : Aa) (p1 : Ad) (p2 : List Ac) (r : Bool × Int) (h : Ch N p0 p1 p2 = some r) : Ar Tryd.prog 9 [.e (.agg (Al p0)), .e (.agg (AE p1)), pD (.sl (p2.map Ah))] [] (.tup [.one (.pure (.val (.bool r.1))), .one (iC r.2)]) := by
 unfold Ch at h
 refine cw (n := 26) (rs := [.tmp 6, .tmp 7]) Tryd.func9 fun w0 S0 => ?_
 refine wq rfl (qb rfl (qb rfl (qa rfl (qa rfl (Ab (wp rfl (qL CI Ce rfl (qL Br AH rfl ?_))))))))
 refine BT h fun v1 a1 h => As [] (GR N p0 p1 v1 a1) RE rfl (qa rfl (Ab (wq rfl (qm rfl (BM rfl (Ab ?_))))))
 refine Bp h (fun h => ?_) fun h => ?_
 ·refine wq rfl (qm rfl (qa rfl (qe rfl ?_)))
  obtain rfl := sj h
  refine Af (sm [] [(6, bD false), (7, iD v1)] [] rfl rfl) (Ap ?_)
  exact ⟨⟨[_, _], ⟨.tmp _ _ rfl, tm⟩, rfl⟩, tv⟩
 ·refine Am (wq rfl (qL CI Ce rfl (qL Br AH rfl (qm rfl ?_))))
  refine BT h fun v3 a3 h => As [] (JV N p0 p1 p2 v3 a3) TP rfl (qm rfl (qx rfl (qx rfl (qa rfl (qa rfl (Ab (wq rfl (qm rfl (BC rfl (qa rfl (qe rfl ?_)))))))))))
  obtain rfl := sj h
  refine Af (sm [] [(6, bD ((v3.2 == 15))), (7, iD 0)] [] rfl rfl) (Ap ?_)
  exact ⟨⟨[_, _], ⟨.tmp _ _ rfl, tm⟩, rfl⟩, tv⟩
theorem Ol (N : Nat) (p0 : Aa) (p1 : List Ac) (r : (List (List Ac)) × Int) (h : HT N p0 p1 = some r) : Ar Tryd.prog 12 [.e (.agg (Al p0)), pD (.sl (p1.map Ah))] [(1, r.1.map (FW Ah))] (.tup [.one (.own 0), .one (iC r.2)]) := by
 unfold HT at h
 refine cw (n := 64) (rs := [.tmp 4, .tmp 5]) Tryd.func12 fun w0 S0 => ?_
 refine wq rfl (qb rfl (qa rfl (qa rfl (Ab (wq rfl (qL CI Ce rfl ?_))))))
 refine BT h fun v1 a1 h => As [2001, 2002, 2003] (HX N p0 v1 a1) Te rfl (qm rfl (qx rfl (qx rfl (qz CM rfl (qs AH rfl (qa rfl (Ab (wp rfl (qm rfl (BM rfl (Ab ?_)))))))))))
 refine Bp h (fun h => ?_) fun h => ?_
 ·refine wq rfl (qm rfl (qa rfl (qe rfl ?_)))
  obtain rfl := sj h
  refine Af ((BV 4 2004 1 rfl rfl rfl).trans (sm [(1000, 2004)] [(4, oD (.own 1000)), (5, iD v1.2)] [(1000, .vec 1 ((([] : List (List Ac))).map (FW Ah)))] rfl rfl)) (Ap ?_)
  exact ⟨⟨[_, _], ⟨.tmp _ _ rfl, tm⟩, rfl⟩, ⟨rfl, tv⟩⟩
 ·refine Am (wp rfl (qL CI Ce rfl (qm rfl ?_)))
  refine BT h fun v3 a3 h => As [] (MB N p0 p1 v3 a3) UR rfl (Ck rfl (Ab ?_))
  refine Bp h (fun h => ?_) fun h => ?_
  ·refine wq rfl (qa rfl (qe rfl ?_))
   obtain rfl := sj h
   refine Af ((BV 4 2005 1 rfl rfl rfl).trans (sm [(1000, 2005)] [(4, oD (.own 1000)), (5, iD 13)] [(1000, .vec 1 ((([] : List (List Ac))).map (FW Ah)))] rfl rfl)) (Ap ?_)
   exact ⟨⟨[_, _], ⟨.tmp _ _ rfl, tm⟩, rfl⟩, ⟨rfl, tv⟩⟩
  ·refine Am (wq rfl (qa rfl (Ab (AG ?_))))
   refine AF (L := Fr N p0) h (fun v5 => mk [(1, pD (.sl (v5.2.2.2.1.map Ah))), (2, oD (.ptr 2 0)), (6, oD (.ptr 6 0)), (8, oD (.own 2006))] [(2, .box (Al p0)), (6, .box [sC (v5.1.map Ak), sC (v5.2.1.map Ak), sC (v5.2.2.1.map B5)]), (2006, .vec 1 (v5.2.2.2.2.map (FW Ah)))]) (fun v6 => mk [(8, oD (.own 2007))] [(2007, .vec 1 (v6.map (FW Ah)))]) (fun _ _ => rfl) ((BV 8 2011 1 rfl rfl rfl).trans ((Ba 2001 _ _ rfl rfl).trans ((Ba 2002 _ _ rfl rfl).trans ((Ba 2003 _ _ rfl rfl).trans (sm [(2006, 2011)] _ _ rfl rfl))))) (fun j5 n5 v5 h => ?_) (fun v6 s h hs => ?_)
   ·unfold Fr at h
    refine wp rfl (qm rfl (AA Bg rfl (Ew rfl (Ab ?_))))
    refine Bp h (fun h => ?_) fun h => ?_
    ·refine Am (AP (wq rfl (qm rfl (AA Bg rfl ?_))))
     refine OM (.p rfl) rfl rfl ?_
     refine qa rfl (Ab (AG ?_))
     refine AF (L := Fs N p0 v5) h (fun v8 => mk [(1, pD (.sl (v5.2.2.2.1.map Ah))), (2, oD (.ptr 2 0)), (6, oD (.ptr 6 0)), (8, oD (.own 2008)), (9, iD v8)] [(2, .box (Al p0)), (6, .box [sC (v5.1.map Ak), sC (v5.2.1.map Ak), sC (v5.2.2.1.map B5)]), (2008, .vec 1 (v5.2.2.2.2.map (FW Ah)))]) (fun v9 => mk [(1, pD (.sl (v5.2.2.2.1.map Ah))), (2, oD (.ptr 2 0)), (6, oD (.ptr 6 0)), (8, oD (.own 2009)), (9, iD v9)] [(2, .box (Al p0)), (6, .box [sC (v5.1.map Ak), sC (v5.2.1.map Ak), sC (v5.2.2.1.map B5)]), (2009, .vec 1 (v5.2.2.2.2.map (FW Ah)))]) (fun _ _ => rfl) (sm [(2008, 2006)] _ _ rfl rfl) (fun j8 n8 v8 h => ?_) (fun v9 s h hs => ?_)
     ·unfold Fs at h
      refine wp rfl (qm rfl (Ew rfl (Ab ?_)))
      refine Bp h (fun h => ?_) fun h => ?_
      ·refine Am (AP (wp rfl (qL CI Ce rfl (qL Br AH rfl (qw 2 rfl ?_)))))
       refine EN h fun c11 h => GI (.p rfl) rfl Bg B9 (EL (f := Ah) (n := 3) (fun _ => rfl) _) (.none _) (.some _ _ _ _ c11.1) tv ⟨rfl, tv⟩ (by have := c11.2.1; (try simp only [List.length_map]); omega) (by have := c11.2.2; (try simp only [List.length_map]); omega) (FR Ah v5.2.2.2.1 _ _ ((v8).toNat - 0) rfl) ?_
       refine BT h fun v12 a12 h => As [] (Fu N p0 ((Ad.mk v5.1 v5.2.1 v5.2.2.1)) (((v5.2.2.2.1.drop 0).take ((v8).toNat - 0))) v12 a12) UA rfl (qm rfl (qx rfl (qx rfl (qa rfl (qa rfl (AI (by kernel_rfl) (wq rfl (qm rfl (Ab ?_)))))))))
       refine Bp h (fun h => ?_) fun h => ?_
       ·refine A5 ?_
        exact sn [(2009, 2008)] h
       ·refine Am (Ai Az rfl (qm rfl (KF rfl (qe rfl ?_))))
        exact sn [] h
      ·refine A5 ?_
       exact sn [(2009, 2008)] h
     ·refine Af hs (wq rfl (qw 3 rfl ?_))
      refine EN h fun c14 h => GI (.p rfl) rfl Bg B9 (EL (f := Ah) (n := 3) (fun _ => rfl) _) (.none _) (.some _ _ _ _ c14.1) tv ⟨rfl, tv⟩ (by have := c14.2.1; (try simp only [List.length_map]); omega) (by have := c14.2.2; (try simp only [List.length_map]); omega) (FR Ah v5.2.2.2.1 _ _ ((v9).toNat - 0) rfl) ?_
      refine BT h fun v15 a15 h => As [2010] (BF N (((v5.2.2.2.1.drop 0).take ((v9).toNat - 0))) v15 a15) Rw rfl (Dy (Ba 2010 _ _ rfl rfl) (Ev Hd Nn Q8 rfl ?_))
      refine EN h fun c16 h => Dp (f := (FW Ah)) Hd Hd Nn Uf Q8 c16 rfl (qa rfl (Ab (wq rfl (qL CI Ce rfl (qL Br AH rfl (qw 2 rfl ?_))))))
      refine EN h fun c17 h => GI (.p rfl) rfl Bg B9 (EL (f := Ah) (n := 3) (fun _ => rfl) _) (.none _) (.some _ _ _ _ c17.1) tv ⟨rfl, tv⟩ (by have := c17.2.1; (try simp only [List.length_map]); omega) (by have := c17.2.2; (try simp only [List.length_map]); omega) (FR Ah v5.2.2.2.1 _ _ ((v9).toNat - 0) rfl) ?_
      refine BT h fun v18 a18 h => As [] (EU N p0 ((Ad.mk v5.1 v5.2.1 v5.2.2.1)) (((v5.2.2.2.1.drop 0).take ((v9).toNat - 0))) v18 a18) RP rfl (qm rfl (qx rfl (qx rfl (qs AH rfl (AI (by kernel_rfl) (Ai Az rfl (qw 2 rfl ?_)))))))
      refine EN h fun c19 h => GI (.p rfl) rfl Bg B9 (EL (f := Ah) (n := 3) (fun _ => rfl) _) (.some _ _ _ _ c19.1) (.none _) ⟨rfl, tv⟩ tv (by have := c19.2.1; (try simp only [List.length_map]); omega) (by have := c19.2.2; (try simp only [List.length_map]); omega) (FR Ah v5.2.2.2.1 _ _ (v5.2.2.2.1.length - (v9).toNat) (by rw [List.length_map])) ?_
      refine qa rfl (Ab ?_)
      exact sn [(2006, 50)] h
    ·refine A5 ?_
     exact sn [(2007, 2006)] h
   ·refine Af hs (wq rfl (qm rfl (qa rfl (qe rfl ?_))))
    obtain rfl := sj h
    refine Af (sm [(1000, 2007)] [(4, oD (.own 1000)), (5, iD 0)] [(1000, .vec 1 (v6.map (FW Ah)))] rfl rfl) (Ap ?_)
    exact ⟨⟨[_, _], ⟨.tmp _ _ rfl, tm⟩, rfl⟩, ⟨rfl, tv⟩⟩
theorem FU (N : Nat) (p0 : List (List Bool)) (p1 : Int) (p2 : Int) (r : Bool) (h : De N p0 p1 p2 = some r) : Ar Tryd.prog 42 [pD (.sl (p0.map (FW eB))), iD p1, iD p2] [] (bD r) := by
 unfold De at h
 refine cw (n := 24) (rs := [.tmp 6]) Tryd.func42 fun w0 S0 => ?_
 refine wq rfl (qa rfl (Ab (wp rfl (qm rfl (AA Fz rfl (qm rfl (BM rfl (Ab ?_))))))))
 refine Bp h (fun h => ?_) fun h => ?_
 ·refine wq rfl (qe rfl ?_)
  obtain rfl := sj h
  refine Af (sm [] [(6, bD false)] [] rfl rfl) (Ap ?_)
  exact ⟨⟨[_], tm, rfl⟩, tv⟩
 ·refine Am (wp rfl (qe rfl ?_))
  refine AF (L := CF N p0 p1 p2) h (fun v2 => mk [(0, pD (.sl (p0.map (FW eB)))), (1, iD p1), (2, iD p2), (7, iD v2)] []) (fun v3 => mk [] []) (fun _ _ => rfl) (sm [] _ _ rfl rfl) (fun j2 n2 v2 h => ?_) (fun v3 s h hs => ?_)
  ·unfold CF at h
   refine wp rfl (qw 2 rfl (A3 rfl (Ab ?_)))
   refine Bp h (fun h => ?_) fun h => ?_
   ·refine Am (AG (AP (wq rfl (qw 2 rfl ?_))))
    refine CB h fun v5 a5 b5 h => qi Fz NE a5 (Aj b5) rfl (qk Pk rfl (AA F5 rfl (qm rfl (BM rfl (Ab ?_)))))
    refine Bp h (fun h => ?_) fun h => ?_
    ·refine wq rfl (qe rfl ?_)
     obtain rfl := sj h
     refine Af (sm [] [(6, bD false)] [] rfl rfl) (Ap ?_)
     exact ⟨⟨[_], tm, rfl⟩, tv⟩
    ·refine Am (Ai Az rfl (qm rfl (Bt rfl (qe rfl ?_))))
     exact sn [] h
   ·refine A5 ?_
    exact sn [] h
  ·refine Af hs (wq rfl (qe rfl ?_))
   obtain rfl := sj h
   refine Af (sm [] [(6, bD true)] [] rfl rfl) (Ap ?_)
   exact ⟨⟨[_], tm, rfl⟩, tv⟩
theorem Iq (N : Nat) (p0 : Aa) (p1 : Aq) (r : Int) (h : Eh N p0 p1 = some r) : Ar Tryd.prog 28 [.e (.agg (Al p0)), .e (.agg (Bz p1))] [] (iD r) := by
 unfold Eh at h
 refine cw (n := 101) (rs := [.tmp 4]) Tryd.func28 fun w0 S0 => ?_
 refine wq rfl (qb rfl (qb rfl (qa rfl (Ab (AG ?_)))))
 refine AO h (fun v1 => mk [(2, oD (.ptr 2 0)), (3, oD (.ptr 3 0)), (22, bD v1)] [(2, .box (Al p0)), (3, .box (Bz p1))]) (fun j1 h => ?_) (fun v1 h => ?_)
 ·refine Ai Az rfl (qf Ex rfl (ql B6 rfl (A3 rfl (qm rfl ?_))))
  refine DO 10 h rfl (fun h => ?_) fun h => ?_
  ·refine qw 3 rfl (qp rfl (qw 4 rfl (qu rfl (qu rfl (qn rfl (qp rfl (Ab ?_)))))))
   exact sn [] h
  ·refine qf Ex rfl (ql B6 rfl (Ew rfl (qp rfl (qm rfl ?_))))
   refine DO 15 h rfl (fun h => ?_) fun h => ?_
   ·refine qw 3 rfl (qu rfl (qu rfl (qn rfl (qp rfl (Ab ?_)))))
    exact sn [] h
   ·refine qf Ii rfl (ql Sg rfl (qm rfl ?_))
    refine DO 18 h rfl (fun h => ?_) fun h => ?_
    ·refine qL Hc DN rfl ?_
     refine BT h fun v5 a5 h => As [] (Dl N p1 v5 a5) R5 rfl (qp rfl (qp rfl (Ab ?_)))
     exact sn [] h
    ·refine qw 2 rfl (qp rfl (qp rfl (Ab ?_)))
     exact sn [] h
 ·refine Bp h (fun h => ?_) fun h => ?_
  ·refine wq rfl (qe rfl ?_)
   obtain rfl := sj h
   refine Af (sm [] [(4, iD 1)] [] rfl rfl) (Ap ?_)
   exact ⟨⟨[_], tm, rfl⟩, tv⟩
  ·refine Am (wq rfl (qf Bn rfl (ql Bh rfl (AA Ax rfl (qa rfl (Ab (AG ?_)))))))
   refine AO h (fun v7 => mk [(2, oD (.ptr 2 0)), (3, oD (.ptr 3 0)), (45, bD v7)] [(2, .box (Al p0)), (3, .box (Bz p1))]) (fun j7 h => ?_) (fun v7 h => ?_)
   ·refine Ai Az rfl (qf CQ rfl (ql B6 rfl (A3 rfl (qm rfl ?_))))
    refine DO 29 h rfl (fun h => ?_) fun h => ?_
    ·refine qw 4 rfl (qp rfl (qw 4 rfl (qp rfl (qw 5 rfl (qp rfl (Ab ?_))))))
     exact sn [] h
    ·refine qf CQ rfl (ql B6 rfl (qm rfl (FA rfl (qp rfl (qm rfl ?_)))))
     refine DO 35 h rfl (fun h => ?_) fun h => ?_
     ·refine qw 3 rfl (qp rfl (qw 5 rfl (qp rfl (Ab ?_))))
      exact sn [] h
     ·refine qf Hn rfl (ql B6 rfl (A3 rfl (qp rfl (qm rfl ?_))))
      refine DO 40 h rfl (fun h => ?_) fun h => ?_
      ·refine qw 4 rfl (qp rfl (Ab ?_))
       exact sn [] h
      ·refine qf Hn rfl (ql B6 rfl (qm rfl (FA rfl (qp rfl (Ab ?_)))))
       exact sn [] h
   ·refine Bp h (fun h => ?_) fun h => ?_
    ·refine wq rfl (qe rfl ?_)
     obtain rfl := sj h
     refine Af (sm [] [(4, iD 4)] [] rfl rfl) (Ap ?_)
     exact ⟨⟨[_], tm, rfl⟩, tv⟩
    ·refine Am (wp rfl (qf I5 rfl (ql Jp rfl (qf Bn rfl (ql Bh rfl (qf CQ rfl (ql B6 rfl ?_)))))))
     refine CB h fun v12 a12 b12 h => qi Ax Dk a12 (Aj b12) rfl (qk B6 rfl (qf Bn rfl (ql Bh rfl (qf Hn rfl (ql B6 rfl ?_)))))
     refine CB h fun v13 a13 b13 h => qi Ax Dk a13 (Aj b13) rfl (qk B6 rfl ?_)
     refine BT h fun v14 a14 h => As [] (FU N p1.fp v12 v13 v14 a14) TW rfl (Ck rfl (AI (by kernel_rfl) ?_))
     refine Bp h (fun h => ?_) fun h => ?_
     ·refine wq rfl (qe rfl ?_)
      obtain rfl := sj h
      refine Af (sm [] [(4, iD 6)] [] rfl rfl) (Ap ?_)
      exact ⟨⟨[_], tm, rfl⟩, tv⟩
     ·refine Am (wp rfl (qf Ex rfl (ql B6 rfl (BM rfl (Ab ?_)))))
      refine Bp h (fun h => ?_) fun h => ?_
      ·refine wp rfl (qf Ft rfl (ql Jp rfl (AA Fz rfl (BM rfl (Ab ?_)))))
       refine Bp h (fun h => ?_) fun h => ?_
       ·refine wq rfl (qe rfl ?_)
        obtain rfl := sj h
        refine Af (sm [] [(4, iD 6)] [] rfl rfl) (Ap ?_)
        exact ⟨⟨[_], tm, rfl⟩, tv⟩
       ·refine Am (wq rfl (qe rfl ?_))
        obtain rfl := sj h
        refine Af (sm [] [(4, iD 0)] [] rfl rfl) (Ap ?_)
        exact ⟨⟨[_], tm, rfl⟩, tv⟩
      ·refine Am (wp rfl (qf Ft rfl (ql Jp rfl (qf Bn rfl (ql Bh rfl (qf CQ rfl (ql B6 rfl ?_)))))))
       refine CB h fun v18 a18 b18 h => qi Ax Dk a18 (Aj b18) rfl (qk B6 rfl (qf Bn rfl (ql Bh rfl (qf CQ rfl (ql B6 rfl ?_)))))
       refine CB h fun v19 a19 b19 h => qi Ax Dk a19 (Aj b19) rfl (qk B6 rfl ?_)
       refine BT h fun v20 a20 h => As [] (FU N p1.fk v18 v19 v20 a20) TW rfl (Ck rfl (AI (by kernel_rfl) ?_))
       refine Bp h (fun h => ?_) fun h => ?_
       ·refine wq rfl (qe rfl ?_)
        obtain rfl := sj h
        refine Af (sm [] [(4, iD 6)] [] rfl rfl) (Ap ?_)
        exact ⟨⟨[_], tm, rfl⟩, tv⟩
       ·refine Am (wp rfl (qe rfl ?_))
        refine AF (L := CG N p1) h (fun v22 => mk [(3, oD (.ptr 3 0)), (6, iD v22)] [(3, .box (Bz p1))]) (fun v23 => mk [] []) (fun _ _ => rfl) (sm [] _ _ rfl rfl) (fun j22 n22 v22 h => ?_) (fun v23 s h hs => ?_)
        ·unfold CG at h
         refine wp rfl (qm rfl (qf Ft rfl (ql Jp rfl (AA Fz rfl (A3 rfl (Ab ?_))))))
         refine Bp h (fun h => ?_) fun h => ?_
         ·refine Am (AG (AP (wq rfl (qf Ft rfl (ql Jp rfl (qm rfl ?_))))))
          refine CB h fun v25 a25 b25 h => qi Fz NE a25 (Aj b25) rfl (qk Pk rfl (qm rfl ?_))
          refine CB h fun v26 a26 b26 h => qi F5 PK a26 (Aj b26) rfl (qk Sg rfl (Ck rfl (Ab ?_)))
          refine Bp h (fun h => ?_) fun h => ?_
          ·refine wq rfl (qe rfl ?_)
           obtain rfl := sj h
           refine Af (sm [] [(4, iD 1)] [] rfl rfl) (Ap ?_)
           exact ⟨⟨[_], tm, rfl⟩, tv⟩
          ·refine Am (Ai Az rfl (qm rfl (Bt rfl (qe rfl ?_))))
           exact sn [] h
         ·refine A5 ?_
          exact sn [] h
        ·refine Af hs (wq rfl (qe rfl ?_))
         obtain rfl := sj h
         refine Af (sm [] [(4, iD 0)] [] rfl rfl) (Ap ?_)
         exact ⟨⟨[_], tm, rfl⟩, tv⟩
end Go.Lift
