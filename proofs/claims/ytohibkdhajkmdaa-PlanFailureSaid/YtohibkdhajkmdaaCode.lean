/- Lemmas for PlanFailureSaid, which YtohibkdhajkmdaaFinP5 proves. -/
import Derived.Test.YtohibkdhajkmdaaTypes
import Derived.Test.YtohibkdhajkmdaaProg
import Derived.KernelRfl
/- The shallow programs. Written by a program (gen.py) out of the code. -/
namespace Go.Lift
def Sh.sheavelaw39_example (_ : Nat) (p0 : Bool) (p1 : Bool) : Option ApiProblem :=
 some ((ApiProblem.mk (([2, 2] : List Int)) (([0, 0] : List Int)) (([1, 1] : List Int)) (([(ApiTable.mk 1 0 1 p1 (([([true, (!p0)] : List Bool), ([false, true] : List Bool)] : List (List Bool))) (([] : List (List Bool))))] : List ApiTable))))
def Sh.fleet_within (_ : Nat) (p0 : Int) (p1 : Int) : Option Bool :=
 join (fun (v1 : Bool) =>
  some v1)
 fun j1 =>
 cnd ((decide (0 ≤ p0)))
  (j1 (decide (p0 < p1)))
  (j1 false)
def Sh.fleet_kind (_ : Nat) (p0 : Int) (p1 : Bool) : Option Bool :=
 join (fun (v1 : Bool) =>
  some v1)
 fun j1 =>
 cnd ((p0 == 1))
  (j1 true)
  (cnd ((p0 == 2))
   (j1 true)
   (cnd ((p0 == 3))
    (j1 (!p1))
    (cnd ((p0 == 4))
     (j1 (!p1))
     (j1 false))))
def Sh.fleet_matrix_1 (_ : Nat) (p0 : List Bool) (p1 : Int) : Option Bool :=
 some (((p0.length : Int) != p1))
def Sh.slices_IndexFunc_bool_bool_L1 (N : Nat) (p0 : List (List Bool)) (p1 : (List Bool) → Option Bool) (j1 : Unit → Option Int) : Nat → Int → Option Int
 | 0, _ => none
 | n1 + 1, v1 =>
  cnd ((decide (v1 < (p0.length : Int))))
   ((idx p0 v1).bind fun v4 =>
   (p1 v4).bind fun v5 =>
   cnd v5
    (some v1)
    (Sh.slices_IndexFunc_bool_bool_L1 N p0 p1 j1 n1 (IntKind.wrap .i64 (v1 + 1))))
   (j1 ())
def Sh.slices_IndexFunc_bool_bool (N : Nat) (p0 : List (List Bool)) (p1 : (List Bool) → Option Bool) : Option Int :=
 Sh.slices_IndexFunc_bool_bool_L1 N p0 p1 (fun (_ : Unit) =>
  some ((-1))) N 0
def Sh.slices_ContainsFunc_bool_bool (N : Nat) (p0 : List (List Bool)) (p1 : (List Bool) → Option Bool) : Option Bool :=
 (Sh.slices_IndexFunc_bool_bool N p0 p1).bind fun v1 =>
 some ((decide (0 ≤ v1)))
def Sh.fleet_matrix (N : Nat) (p0 : List (List Bool)) (p1 : Int) (p2 : Int) : Option Bool :=
 join (fun (v1 : Bool) =>
  some v1)
 fun j1 =>
 cnd (((p0.length : Int) == p1))
  ((Sh.slices_ContainsFunc_bool_bool N p0 ((fun (x : List Bool) => Sh.fleet_matrix_1 N x p2))).bind fun v3 =>
  j1 (!v3))
  (j1 false)
def Sh.fleet_table_L19 (N : Nat) (p1 : ApiTable) (j19 : Unit → Option Int) : Nat → Int → Option Int
 | 0, _ => none
 | n19 + 1, v19 =>
  cnd ((decide (v19 < (p1.fRewrite.length : Int))))
   ((idx p1.fRewrite v19).bind fun v22 =>
   (idx v22 v19).bind fun v23 =>
   cnd ((!v23))
    (some 1)
    (Sh.fleet_table_L19 N p1 j19 n19 (IntKind.wrap .i64 (v19 + 1))))
   (j19 ())
def Sh.fleet_table (N : Nat) (p0 : ApiProblem) (p1 : ApiTable) : Option Int :=
 (Sh.fleet_kind N p1.fKind p1.fAware).bind fun v1 =>
 cnd ((!v1))
  (some 1)
  (join (fun (v3 : Bool) =>
   cnd v3
    (some 4)
    ((idx p0.fVersions p1.fFrom).bind fun v8 =>
    join (fun (v9 : Bool) =>
     cnd v9
      (some 6)
      (Sh.fleet_table_L19 N p1 (fun (_ : Unit) =>
       some 0) N 0))
    fun j9 =>
    (idx p0.fVersions p1.fTo).bind fun v10 =>
    (Sh.fleet_matrix N p1.fOK v8 v10).bind fun v11 =>
    cnd ((!v11))
     (j9 true)
     (cnd ((p1.fKind == 4))
      ((Sh.fleet_matrix N p1.fRewrite v8 v8).bind fun v14 =>
      cnd ((!v14))
       (j9 true)
       (cnd ((!((p1.fKind == 4))))
        (j9 (decide (0 < (p1.fRewrite.length : Int))))
        (j9 false)))
      (cnd ((!((p1.fKind == 4))))
       (j9 (decide (0 < (p1.fRewrite.length : Int))))
       (j9 false)))))
  fun j3 =>
  (Sh.fleet_within N p1.fFrom ((p0.fVersions.length : Int))).bind fun v4 =>
  cnd ((!v4))
   (j3 true)
   ((Sh.fleet_within N p1.fTo ((p0.fVersions.length : Int))).bind fun v6 =>
   j3 (!v6)))
def Sh.fleet_ValidProblem_L7 (N : Nat) (p0 : ApiProblem) (j7 : Unit → Option Int) : Nat → Int → Option Int
 | 0, _ => none
 | n7 + 1, v7 =>
  cnd ((decide (v7 < (p0.fVersions.length : Int))))
   ((idx p0.fVersions v7).bind fun v10 =>
   join (fun (v11 : Bool) =>
    cnd v11
     (some 7)
     (Sh.fleet_ValidProblem_L7 N p0 j7 n7 (IntKind.wrap .i64 (v7 + 1))))
   fun j11 =>
   cnd ((decide (v10 < 1)))
    (j11 true)
    (cnd ((decide (6 < v10)))
     (j11 true)
     ((idx p0.fNow v7).bind fun v14 =>
     (Sh.fleet_within N v14 v10).bind fun v15 =>
     cnd ((!v15))
      (j11 true)
      ((idx p0.fTarget v7).bind fun v17 =>
      (Sh.fleet_within N v17 v10).bind fun v18 =>
      j11 (!v18)))))
   (j7 ())
def Sh.fleet_ValidProblem_L20 (N : Nat) (p0 : ApiProblem) (j20 : Unit → Option Int) : Nat → Int → Option Int
 | 0, _ => none
 | n20 + 1, v20 =>
  cnd ((decide (v20 < (p0.fTables.length : Int))))
   ((idx p0.fTables v20).bind fun v23 =>
   (Sh.fleet_table N p0 v23).bind fun v24 =>
   cnd ((v24 != 0))
    (some v24)
    (Sh.fleet_ValidProblem_L20 N p0 j20 n20 (IntKind.wrap .i64 (v20 + 1))))
   (j20 ())
def Sh.fleet_ValidProblem (N : Nat) (p0 : ApiProblem) : Option Int :=
 join (fun (v1 : Bool) =>
  cnd v1
   (some 3)
   (join (fun (v4 : Bool) =>
    cnd v4
     (some 6)
     (Sh.fleet_ValidProblem_L7 N p0 (fun (_ : Unit) =>
      Sh.fleet_ValidProblem_L20 N p0 (fun (_ : Unit) =>
       some 0) N 0) N 0))
   fun j4 =>
   cnd (((p0.fNow.length : Int) != (p0.fVersions.length : Int)))
    (j4 true)
    (j4 ((p0.fTarget.length : Int) != (p0.fVersions.length : Int)))))
 fun j1 =>
 cnd ((decide (6 < (p0.fVersions.length : Int))))
  (j1 true)
  (j1 (decide (12 < (p0.fTables.length : Int))))
def Sh.slices_Clone_int_int (_ : Nat) (p0 : List Int) : Option ((List Int)) :=
 (chk ((([] : List Int)).length + p0.length ≤ lim)).bind fun _ =>
 some ((([] : List Int)) ++ p0)
def Sh.math_bits_Mul32 (_ : Nat) (p0 : Int) (p1 : Int) : Option (Int × Int) :=
 some ((IntKind.wrap .u32 ((shrI .u64 ((IntKind.wrap .u64 ((IntKind.wrap .u64 p0) * (IntKind.wrap .u64 p1)))) 32))), (IntKind.wrap .u32 ((IntKind.wrap .u64 ((IntKind.wrap .u64 p0) * (IntKind.wrap .u64 p1))))))
def Sh.math_bits_Mul64 (_ : Nat) (p0 : Int) (p1 : Int) : Option (Int × Int) :=
 some ((IntKind.wrap .u64 ((IntKind.wrap .u64 ((IntKind.wrap .u64 ((shrI .u64 p0 32) * (shrI .u64 p1 32))) + (shrI .u64 ((IntKind.wrap .u64 ((IntKind.wrap .u64 ((shrI .u64 p0 32) * (andI .u64 p1 4294967295))) + (shrI .u64 ((IntKind.wrap .u64 ((andI .u64 p0 4294967295) * (andI .u64 p1 4294967295)))) 32)))) 32))) + (shrI .u64 ((IntKind.wrap .u64 ((andI .u64 ((IntKind.wrap .u64 ((IntKind.wrap .u64 ((shrI .u64 p0 32) * (andI .u64 p1 4294967295))) + (shrI .u64 ((IntKind.wrap .u64 ((andI .u64 p0 4294967295) * (andI .u64 p1 4294967295)))) 32)))) 4294967295) + (IntKind.wrap .u64 ((andI .u64 p0 4294967295) * (shrI .u64 p1 32)))))) 32))), (IntKind.wrap .u64 (p0 * p1)))
def Sh.math_bits_Mul (N : Nat) (p0 : Int) (p1 : Int) : Option (Int × Int) :=
 cnd false
  ((Sh.math_bits_Mul32 N ((IntKind.wrap .u32 p0)) ((IntKind.wrap .u32 p1))).bind fun v2 =>
  some ((IntKind.wrap .u64 v2.1), (IntKind.wrap .u64 v2.2)))
  ((Sh.math_bits_Mul64 N p0 p1).bind fun v3 =>
  some (v3.1, v3.2))
def Sh.slices_Repeat_int_int_L9 (N : Nat) (j9 : ((List Int)) → Option ((List Int))) : Nat → ((List Int) × Int) → Option ((List Int))
 | 0, _ => none
 | n9 + 1, v9 =>
  cnd ((decide (v9.2 < (v9.1.length : Int))))
   ((chk ((0 : Int) ≤ v9.2 ∧ (v9.2).toNat ≤ v9.1.length ∧ v9.1.length ≤ v9.1.length)).bind fun _ =>
   (chk ((0 : Int) ≤ v9.2 ∧ 0 ≤ (v9.2).toNat ∧ (v9.2).toNat ≤ v9.1.length)).bind fun _ =>
   Sh.slices_Repeat_int_int_L9 N j9 n9 (spl v9.1 ((v9.2).toNat) ((((v9.1.drop 0).take ((v9.2).toNat))).take (Nat.min (((v9.1.drop 0).take ((v9.2).toNat))).length ((v9.1.length - (v9.2).toNat)))), (IntKind.wrap .i64 (v9.2 + (((Nat.min (((v9.1.drop 0).take ((v9.2).toNat))).length ((v9.1.length - (v9.2).toNat))) : Nat) : Int)))))
   (j9 v9.1)
def Sh.slices_Repeat_int_int (N : Nat) (p0 : List Int) (p1 : Int) : Option ((List Int)) :=
 join (fun (_ : Unit) =>
  (Sh.math_bits_Mul N ((IntKind.wrap .u64 ((p0.length : Int)))) ((IntKind.wrap .u64 p1))).bind fun v3 =>
  join (fun (_ : Unit) =>
   (chk ((0 : Int) ≤ (IntKind.wrap .i64 v3.2) ∧ (IntKind.wrap .i64 v3.2) ≤ (IntKind.wrap .i64 v3.2) ∧ (IntKind.wrap .i64 v3.2) ≤ (lim : Int))).bind fun _ =>
   Sh.slices_Repeat_int_int_L9 N (fun (v10 : (List Int)) =>
    some v10) N (spl (List.replicate ((IntKind.wrap .i64 v3.2)).toNat ((0 : Int))) 0 (p0.take (Nat.min p0.length ((List.replicate ((IntKind.wrap .i64 v3.2)).toNat ((0 : Int))).length))), (((Nat.min p0.length ((List.replicate ((IntKind.wrap .i64 v3.2)).toNat ((0 : Int))).length)) : Nat) : Int)))
  fun j4 =>
  join (fun (v5 : Bool) =>
   cnd v5
    (none)
    (j4 ()))
  fun j5 =>
  cnd ((decide (0 < v3.1)))
   (j5 true)
   (j5 (decide (9223372036854775807 < v3.2))))
 fun j1 =>
 cnd ((decide (p1 < 0)))
  (none)
  (j1 ())
def Sh.mix_stored (_ : Nat) (p0 : ApiTable) : Option Bool :=
 join (fun (v1 : Bool) =>
  some v1)
 fun j1 =>
 cnd ((p0.fKind == 3))
  (j1 true)
  (j1 (p0.fKind == 4))
def Sh.mix_Start_L6 (N : Nat) (p0 : ApiProblem) (j6 : ((List Int)) → Option (ApiMix × Int)) : Nat → ((List Int) × Int) → Option (ApiMix × Int)
 | 0, _ => none
 | n6 + 1, v6 =>
  cnd ((decide (v6.2 < (p0.fTables.length : Int))))
   (join (fun (v9 : (List Int)) =>
    Sh.mix_Start_L6 N p0 j6 n6 (v9, (IntKind.wrap .i64 (v6.2 + 1))))
   fun j9 =>
   (idx p0.fTables v6.2).bind fun v10 =>
   (Sh.mix_stored N v10).bind fun v11 =>
   cnd v11
    ((idx p0.fNow v10.fFrom).bind fun v13 =>
    (chk (0 ≤ v13)).bind fun _ =>
    (idx v6.1 v6.2).bind fun _ =>
    j9 (v6.1.set (v6.2).toNat ((shlI .u8 1 v13))))
    (j9 v6.1))
   (j6 v6.1)
def Sh.mix_Start (N : Nat) (p0 : ApiProblem) : Option (ApiMix × Int) :=
 (Sh.fleet_ValidProblem N p0).bind fun v1 =>
 cnd ((v1 != 0))
  (some ((ApiMix.mk (([] : List Int)) (([] : List Int)) (([] : List Int))), v1))
  ((Sh.slices_Clone_int_int N p0.fNow).bind fun v3 =>
  (Sh.slices_Repeat_int_int N (([(-1)] : List Int)) ((p0.fNow.length : Int))).bind fun v4 =>
  (chk ((0 : Int) ≤ (p0.fTables.length : Int) ∧ (p0.fTables.length : Int) ≤ (p0.fTables.length : Int) ∧ (p0.fTables.length : Int) ≤ (lim : Int))).bind fun _ =>
  Sh.mix_Start_L6 N p0 (fun (v7 : (List Int)) =>
   some ((ApiMix.mk v3 v4 v7), 0)) N (List.replicate ((p0.fTables.length : Int)).toNat ((0 : Int)), 0))
def Sh.mix_running (_ : Nat) (p0 : ApiMix) (p1 : Int) : Option Int :=
 (idx p0.fBase p1).bind fun v1 =>
 (chk (0 ≤ v1)).bind fun _ =>
 join (fun (v3 : Int) =>
  some v3)
 fun j3 =>
 (idx p0.fNext p1).bind fun v4 =>
 cnd ((decide (0 ≤ v4)))
  ((idx p0.fNext p1).bind fun v6 =>
  (chk (0 ≤ v6)).bind fun _ =>
  j3 (orI .u8 ((shlI .u8 1 v1)) ((shlI .u8 1 v6))))
  (j3 (shlI .u8 1 v1))
def Sh.mix_Valid_L7 (N : Nat) (p0 : ApiProblem) (p1 : ApiMix) (j7 : Unit → Option Int) : Nat → Int → Option Int
 | 0, _ => none
 | n7 + 1, v7 =>
  cnd ((decide (v7 < (p0.fVersions.length : Int))))
   ((idx p0.fVersions v7).bind fun v10 =>
   join (fun (v11 : Bool) =>
    cnd v11
     (some 7)
     ((idx p1.fBase v7).bind fun v20 =>
     (idx p1.fNext v7).bind fun v21 =>
     cnd ((v20 == v21))
      (some 1)
      (Sh.mix_Valid_L7 N p0 p1 j7 n7 (IntKind.wrap .i64 (v7 + 1)))))
   fun j11 =>
   (idx p1.fBase v7).bind fun v12 =>
   cnd ((decide (v12 < 0)))
    (j11 true)
    ((idx p1.fBase v7).bind fun v14 =>
    cnd ((decide (v10 ≤ v14)))
     (j11 true)
     ((idx p1.fNext v7).bind fun v16 =>
     cnd ((decide (v16 < (-1))))
      (j11 true)
      ((idx p1.fNext v7).bind fun v18 =>
      j11 (decide (v10 ≤ v18))))))
   (j7 ())
def Sh.mix_Valid_L23 (N : Nat) (p0 : ApiProblem) (p1 : ApiMix) (j23 : Unit → Option Int) : Nat → Int → Option Int
 | 0, _ => none
 | n23 + 1, v23 =>
  cnd ((decide (v23 < (p0.fTables.length : Int))))
   ((idx p0.fTables v23).bind fun v26 =>
   join (fun (v27 : Int × Int) =>
    join (fun (v33 : Bool) =>
     cnd v33
      (some 1)
      (Sh.mix_Valid_L23 N p0 p1 j23 n23 (IntKind.wrap .i64 (v23 + 1))))
    fun j33 =>
    (idx p1.fHeld v23).bind fun v34 =>
    cnd (((andNotI .u8 v27.1 v34) != 0))
     (j33 true)
     ((idx p1.fHeld v23).bind fun v36 =>
     j33 ((andNotI .u8 v36 v27.2) != 0)))
   fun j27 =>
   (Sh.mix_stored N v26).bind fun v28 =>
   cnd v28
    ((Sh.mix_running N p1 v26.fFrom).bind fun v30 =>
    (idx p0.fVersions v26.fFrom).bind fun v31 =>
    (chk (0 ≤ v31)).bind fun _ =>
    j27 (v30, (IntKind.wrap .u8 ((shlI .u8 1 v31) - 1))))
    (j27 (0, 0)))
   (j23 ())
def Sh.mix_Valid (N : Nat) (p0 : ApiProblem) (p1 : ApiMix) : Option Int :=
 (Sh.fleet_ValidProblem N p0).bind fun v1 =>
 cnd ((v1 != 0))
  (some v1)
  (join (fun (v3 : Bool) =>
   cnd v3
    (some 6)
    (Sh.mix_Valid_L7 N p0 p1 (fun (_ : Unit) =>
     Sh.mix_Valid_L23 N p0 p1 (fun (_ : Unit) =>
      some 0) N 0) N 0))
  fun j3 =>
  cnd (((p1.fBase.length : Int) != (p0.fVersions.length : Int)))
   (j3 true)
   (cnd (((p1.fNext.length : Int) != (p0.fVersions.length : Int)))
    (j3 true)
    (j3 ((p1.fHeld.length : Int) != (p0.fTables.length : Int)))))
def Sh.slices_Clone_api_Set_api_Set (_ : Nat) (p0 : List Int) : Option ((List Int)) :=
 (chk ((([] : List Int)).length + p0.length ≤ lim)).bind fun _ =>
 some ((([] : List Int)) ++ p0)
def Sh.mix_Aborts_L3 (N : Nat) (p1 : ApiMix) (j3 : ((List Int)) → Option ((List ApiMix) × Int)) : Nat → ((List Int) × Int) → Option ((List ApiMix) × Int)
 | 0, _ => none
 | n3 + 1, v3 =>
  cnd ((decide (v3.2 < (p1.fNext.length : Int))))
   (join (fun (v6 : (List Int)) =>
    Sh.mix_Aborts_L3 N p1 j3 n3 (v6, (IntKind.wrap .i64 (v3.2 + 1))))
   fun j6 =>
   (idx p1.fNext v3.2).bind fun v7 =>
   cnd ((decide (0 ≤ v7)))
    ((chk (v3.1.length + (([v3.2] : List Int)).length ≤ lim)).bind fun _ =>
    j6 (v3.1 ++ (([v3.2] : List Int))))
    (j6 v3.1))
   (j3 v3.1)
def Sh.mix_Aborts_L17 (N : Nat) (v4 : (List Int)) (v11 : (List ApiMix) × Int) (j17 : ((List Int)) → Option ((List ApiMix) × Int)) : Nat → ((List Int) × Int) → Option ((List ApiMix) × Int)
 | 0, _ => none
 | n17 + 1, v17 =>
  cnd ((decide (v17.2 < (v4.length : Int))))
   (join (fun (v20 : (List Int)) =>
    Sh.mix_Aborts_L17 N v4 v11 j17 n17 (v20, (IntKind.wrap .i64 (v17.2 + 1))))
   fun j20 =>
   (idx v4 v17.2).bind fun v21 =>
   (chk (0 ≤ v17.2)).bind fun _ =>
   cnd (((andI .i64 ((shrI .i64 v11.2 v17.2)) 1) == 1))
    ((idx v17.1 v21).bind fun _ =>
    j20 (v17.1.set (v21).toNat ((-1))))
    (j20 v17.1))
   (j17 v17.1)
def Sh.mix_Aborts_L11 (N : Nat) (p1 : ApiMix) (v4 : (List Int)) (j11 : ((List ApiMix)) → Option ((List ApiMix) × Int)) : Nat → ((List ApiMix) × Int) → Option ((List ApiMix) × Int)
 | 0, _ => none
 | n11 + 1, v11 =>
  cnd ((decide (v11.2 < (shlI .i64 1 ((v4.length : Int))))))
   ((Sh.slices_Clone_int_int N p1.fBase).bind fun v14 =>
   (Sh.slices_Clone_int_int N p1.fNext).bind fun v15 =>
   (Sh.slices_Clone_api_Set_api_Set N p1.fHeld).bind fun v16 =>
   Sh.mix_Aborts_L17 N v4 v11 (fun (v18 : (List Int)) =>
    (chk (v11.1.length + (([(ApiMix.mk v14 v18 v16)] : List ApiMix)).length ≤ lim)).bind fun _ =>
    Sh.mix_Aborts_L11 N p1 v4 j11 n11 (v11.1 ++ (([(ApiMix.mk v14 v18 v16)] : List ApiMix)), (IntKind.wrap .i64 (v11.2 + 1)))) N (v15, 0))
   (j11 v11.1)
def Sh.mix_Aborts (N : Nat) (p0 : ApiProblem) (p1 : ApiMix) : Option ((List ApiMix) × Int) :=
 (Sh.mix_Valid N p0 p1).bind fun v1 =>
 cnd ((v1 != 0))
  (some (([] : List ApiMix), v1))
  (Sh.mix_Aborts_L3 N p1 (fun (v4 : (List Int)) =>
   (chk (0 ≤ (v4.length : Int))).bind fun _ =>
   Sh.mix_Aborts_L11 N p1 v4 (fun (v12 : (List ApiMix)) =>
    some (v12, 0)) N (([] : List ApiMix), 0)) N (([] : List Int), 0))
def Sh.mix_conflicts_L18 (N : Nat) (v1 : (List ApiConflict) × Int) (v4 : ApiTable) (v6 : Int) (v11 : (List ApiConflict) × Int) (v17 : List Bool) (j18 : ((List ApiConflict) × Bool) → Option ((List ApiConflict))) : Nat → ((List ApiConflict) × Bool × Int) → Option ((List ApiConflict))
 | 0, _ => none
 | n18 + 1, v18 =>
  cnd ((decide (v18.2.2 < (v17.length : Int))))
   (join (fun (v21 : (List ApiConflict) × Bool) =>
    Sh.mix_conflicts_L18 N v1 v4 v6 v11 v17 j18 n18 (v21.1, v21.2, (IntKind.wrap .i64 (v18.2.2 + 1))))
   fun j21 =>
   (idx v17 v18.2.2).bind fun v22 =>
   (chk (0 ≤ v18.2.2)).bind fun _ =>
   cnd (((andI .u8 ((shrI .u8 v6 v18.2.2)) 1) == 0))
    (j21 (v18.1, v18.2.1))
    (join (fun (v25 : Bool) =>
     join (fun (v27 : Bool) =>
      cnd v27
       ((chk (v18.1.length + (([(ApiConflict.mk v1.2 v11.2 v18.2.2)] : List ApiConflict)).length ≤ lim)).bind fun _ =>
       j21 (v18.1 ++ (([(ApiConflict.mk v1.2 v11.2 v18.2.2)] : List ApiConflict)), v25))
       (j21 (v18.1, v25)))
     fun j27 =>
     cnd ((!v22))
      (j27 (!v4.fAware))
      (j27 false))
    fun j25 =>
    cnd v18.2.1
     (j25 true)
     (j25 v22)))
   (j18 (v18.1, v18.2.1))
def Sh.mix_conflicts_L11 (N : Nat) (v1 : (List ApiConflict) × Int) (v4 : ApiTable) (v6 : Int) (v7 : Int) (j11 : ((List ApiConflict)) → Option ((List ApiConflict))) : Nat → ((List ApiConflict) × Int) → Option ((List ApiConflict))
 | 0, _ => none
 | n11 + 1, v11 =>
  cnd ((decide (v11.2 < (v4.fOK.length : Int))))
   (join (fun (v14 : (List ApiConflict)) =>
    Sh.mix_conflicts_L11 N v1 v4 v6 v7 j11 n11 (v14, (IntKind.wrap .i64 (v11.2 + 1))))
   fun j14 =>
   (chk (0 ≤ v11.2)).bind fun _ =>
   cnd (((andI .u8 ((shrI .u8 v7 v11.2)) 1) == 0))
    (j14 v11.1)
    ((idx v4.fOK v11.2).bind fun v17 =>
    Sh.mix_conflicts_L18 N v1 v4 v6 v11 v17 (fun (v19 : (List ApiConflict) × Bool) =>
     join (fun (v31 : Bool) =>
      cnd v31
       ((chk (v19.1.length + (([(ApiConflict.mk v1.2 v11.2 ((-1)))] : List ApiConflict)).length ≤ lim)).bind fun _ =>
       j14 (v19.1 ++ (([(ApiConflict.mk v1.2 v11.2 ((-1)))] : List ApiConflict))))
       (j14 v19.1))
     fun j31 =>
     cnd v4.fAware
      (j31 (!v19.2))
      (j31 false)) N (v11.1, false, 0)))
   (j11 v11.1)
def Sh.mix_conflicts_L1 (N : Nat) (p0 : ApiProblem) (p1 : ApiMix) (j1 : ((List ApiConflict)) → Option ((List ApiConflict))) : Nat → ((List ApiConflict) × Int) → Option ((List ApiConflict))
 | 0, _ => none
 | n1 + 1, v1 =>
  cnd ((decide (v1.2 < (p0.fTables.length : Int))))
   ((idx p0.fTables v1.2).bind fun v4 =>
   (Sh.mix_running N p1 v4.fFrom).bind fun v5 =>
   (Sh.mix_running N p1 v4.fTo).bind fun v6 =>
   join (fun (v7 : Int) =>
    Sh.mix_conflicts_L11 N v1 v4 v6 v7 (fun (v12 : (List ApiConflict)) =>
     Sh.mix_conflicts_L1 N p0 p1 j1 n1 (v12, (IntKind.wrap .i64 (v1.2 + 1)))) N (v1.1, 0))
   fun j7 =>
   (Sh.mix_stored N v4).bind fun v8 =>
   cnd v8
    ((idx p1.fHeld v1.2).bind fun v10 =>
    j7 v10)
    (j7 v5))
   (j1 v1.1)
def Sh.mix_conflicts (N : Nat) (p0 : ApiProblem) (p1 : ApiMix) : Option ((List ApiConflict)) :=
 Sh.mix_conflicts_L1 N p0 p1 (fun (v2 : (List ApiConflict)) =>
  some v2) N (([] : List ApiConflict), 0)
def Sh.mix_Blame_L3 (N : Nat) (p0 : ApiProblem) (v1 : (List ApiMix) × Int) (j3 : Unit → Option (ApiMix × ApiConflict × Int)) : Nat → Int → Option (ApiMix × ApiConflict × Int)
 | 0, _ => none
 | n3 + 1, v3 =>
  cnd ((decide (v3 < (v1.1.length : Int))))
   ((idx v1.1 v3).bind fun v6 =>
   (Sh.mix_conflicts N p0 v6).bind fun v7 =>
   cnd ((decide (0 < (v7.length : Int))))
    ((idx v7 0).bind fun v9 =>
    some (v6, v9, 0))
    (Sh.mix_Blame_L3 N p0 v1 j3 n3 (IntKind.wrap .i64 (v3 + 1))))
   (j3 ())
def Sh.mix_Blame (N : Nat) (p0 : ApiProblem) (p1 : ApiMix) : Option (ApiMix × ApiConflict × Int) :=
 (Sh.mix_Aborts N p0 p1).bind fun v1 =>
 cnd ((v1.2 != 0))
  (some ((ApiMix.mk (([] : List Int)) (([] : List Int)) (([] : List Int))), (ApiConflict.mk 0 0 0), v1.2))
  (Sh.mix_Blame_L3 N p0 v1 (fun (_ : Unit) =>
   some ((ApiMix.mk (([] : List Int)) (([] : List Int)) (([] : List Int))), (ApiConflict.mk 0 0 0), 15)) N 0)
def Sh.mix_Robust (N : Nat) (p0 : ApiProblem) (p1 : ApiMix) : Option (Bool × Int) :=
 (Sh.mix_Blame N p0 p1).bind fun v1 =>
 cnd ((v1.2.2 == 0))
  (some (false, 0))
  (cnd ((v1.2.2 == 15))
   (some (true, 0))
   (some (false, v1.2.2)))
def Sh.plan_key_L2 (N : Nat) (p0 : ApiMix) (j2 : ((List Int)) → Option ByteArray) : Nat → ((List Int) × Int) → Option ByteArray
 | 0, _ => none
 | n2 + 1, v2 =>
  cnd ((decide (v2.2 < (p0.fBase.length : Int))))
   ((idx p0.fBase v2.2).bind fun v5 =>
   (idx p0.fNext v2.2).bind fun v6 =>
   (chk (v2.1.length + (([(IntKind.wrap .u8 v5), (IntKind.wrap .u8 ((IntKind.wrap .i64 (v6 + 1))))] : List Int)).length ≤ lim)).bind fun _ =>
   Sh.plan_key_L2 N p0 j2 n2 (v2.1 ++ (([(IntKind.wrap .u8 v5), (IntKind.wrap .u8 ((IntKind.wrap .i64 (v6 + 1))))] : List Int)), (IntKind.wrap .i64 (v2.2 + 1))))
   (j2 v2.1)
def Sh.plan_key_L8 (N : Nat) (p0 : ApiMix) (j8 : ((List Int)) → Option ByteArray) : Nat → ((List Int) × Int) → Option ByteArray
 | 0, _ => none
 | n8 + 1, v8 =>
  cnd ((decide (v8.2 < (p0.fHeld.length : Int))))
   ((idx p0.fHeld v8.2).bind fun v11 =>
   (chk (v8.1.length + (([v11] : List Int)).length ≤ lim)).bind fun _ =>
   Sh.plan_key_L8 N p0 j8 n8 (v8.1 ++ (([v11] : List Int)), (IntKind.wrap .i64 (v8.2 + 1))))
   (j8 v8.1)
def Sh.plan_key (N : Nat) (p0 : ApiMix) : Option ByteArray :=
 (chk ((0 : Int) ≤ 0 ∧ 0 ≤ (IntKind.wrap .i64 ((IntKind.wrap .i64 (2 * (p0.fBase.length : Int))) + (p0.fHeld.length : Int))) ∧ (IntKind.wrap .i64 ((IntKind.wrap .i64 (2 * (p0.fBase.length : Int))) + (p0.fHeld.length : Int))) ≤ (lim : Int))).bind fun _ =>
 Sh.plan_key_L2 N p0 (fun (v3 : (List Int)) =>
  Sh.plan_key_L8 N p0 (fun (v9 : (List Int)) =>
   some ((bytesOf v9))) N (v3, 0)) N (List.replicate (0 : Int).toNat ((0 : Int)), 0)
def Sh.step_all_L5 (N : Nat) (v1 : (List ApiStep) × Int) (v4 : Int) (j5 : ((List ApiStep)) → Option ((List ApiStep))) : Nat → ((List ApiStep) × Int) → Option ((List ApiStep))
 | 0, _ => none
 | n5 + 1, v5 =>
  cnd ((decide (v5.2 < v4)))
   ((chk (v5.1.length + (([(ApiStep.mk 1 v1.2 v5.2)] : List ApiStep)).length ≤ lim)).bind fun _ =>
   Sh.step_all_L5 N v1 v4 j5 n5 (v5.1 ++ (([(ApiStep.mk 1 v1.2 v5.2)] : List ApiStep)), (IntKind.wrap .i64 (v5.2 + 1))))
   (j5 v5.1)
def Sh.step_all_L1 (N : Nat) (p0 : ApiProblem) (j1 : ((List ApiStep)) → Option ((List ApiStep))) : Nat → ((List ApiStep) × Int) → Option ((List ApiStep))
 | 0, _ => none
 | n1 + 1, v1 =>
  cnd ((decide (v1.2 < (p0.fVersions.length : Int))))
   ((idx p0.fVersions v1.2).bind fun v4 =>
   Sh.step_all_L5 N v1 v4 (fun (v6 : (List ApiStep)) =>
    Sh.step_all_L1 N p0 j1 n1 (v6, (IntKind.wrap .i64 (v1.2 + 1)))) N (v1.1, 0))
   (j1 v1.1)
def Sh.step_all_L9 (N : Nat) (p0 : ApiProblem) (j9 : ((List ApiStep)) → Option ((List ApiStep))) : Nat → ((List ApiStep) × Int) → Option ((List ApiStep))
 | 0, _ => none
 | n9 + 1, v9 =>
  cnd ((decide (v9.2 < (p0.fVersions.length : Int))))
   ((chk (v9.1.length + (([(ApiStep.mk 2 v9.2 0)] : List ApiStep)).length ≤ lim)).bind fun _ =>
   Sh.step_all_L9 N p0 j9 n9 (v9.1 ++ (([(ApiStep.mk 2 v9.2 0)] : List ApiStep)), (IntKind.wrap .i64 (v9.2 + 1))))
   (j9 v9.1)
def Sh.step_all_L13 (N : Nat) (p0 : ApiProblem) (j13 : ((List ApiStep)) → Option ((List ApiStep))) : Nat → ((List ApiStep) × Int) → Option ((List ApiStep))
 | 0, _ => none
 | n13 + 1, v13 =>
  cnd ((decide (v13.2 < (p0.fTables.length : Int))))
   ((chk (v13.1.length + (([(ApiStep.mk 3 v13.2 0)] : List ApiStep)).length ≤ lim)).bind fun _ =>
   Sh.step_all_L13 N p0 j13 n13 (v13.1 ++ (([(ApiStep.mk 3 v13.2 0)] : List ApiStep)), (IntKind.wrap .i64 (v13.2 + 1))))
   (j13 v13.1)
def Sh.step_all (N : Nat) (p0 : ApiProblem) : Option ((List ApiStep)) :=
 Sh.step_all_L1 N p0 (fun (v2 : (List ApiStep)) =>
  Sh.step_all_L9 N p0 (fun (v10 : (List ApiStep)) =>
   Sh.step_all_L13 N p0 (fun (v14 : (List ApiStep)) =>
    some v14) N (v10, 0)) N (v2, 0)) N (([] : List ApiStep), 0)
def Sh.step_cloned (N : Nat) (p0 : ApiMix) : Option ApiMix :=
 (Sh.slices_Clone_int_int N p0.fBase).bind fun v1 =>
 (Sh.slices_Clone_int_int N p0.fNext).bind fun v2 =>
 (Sh.slices_Clone_api_Set_api_Set N p0.fHeld).bind fun v3 =>
 some ((ApiMix.mk v1 v2 v3))
def Sh.step_stored (_ : Nat) (p0 : ApiTable) : Option Bool :=
 join (fun (v1 : Bool) =>
  some v1)
 fun j1 =>
 cnd ((p0.fKind == 3))
  (j1 true)
  (j1 (p0.fKind == 4))
def Sh.step_start_L7 (N : Nat) (p0 : ApiProblem) (p2 : ApiStep) (j7 : ((List Int)) → Option (Bool × (List Int) × (List Int))) : Nat → ((List Int) × Int) → Option (Bool × (List Int) × (List Int))
 | 0, _ => none
 | n7 + 1, v7 =>
  cnd ((decide (v7.2 < (p0.fTables.length : Int))))
   (join (fun (v10 : (List Int)) =>
    Sh.step_start_L7 N p0 p2 j7 n7 (v10, (IntKind.wrap .i64 (v7.2 + 1))))
   fun j10 =>
   (idx p0.fTables v7.2).bind fun v11 =>
   join (fun (v12 : Bool) =>
    cnd v12
     ((idx v7.1 v7.2).bind fun v16 =>
     (chk (0 ≤ p2.fVersion)).bind fun _ =>
     (idx v7.1 v7.2).bind fun _ =>
     j10 (v7.1.set (v7.2).toNat ((orI .u8 v16 ((shlI .u8 1 p2.fVersion))))))
     (j10 v7.1))
   fun j12 =>
   cnd ((v11.fFrom == p2.fIndex))
    ((Sh.step_stored N v11).bind fun v14 =>
    j12 v14)
    (j12 false))
   (j7 v7.1)
def Sh.step_start (N : Nat) (p0 : ApiProblem) (p1 : ApiMix) (p2 : ApiStep) : Option (Bool × (List Int) × (List Int)) :=
 join (fun (v1 : Bool) =>
  cnd v1
   (some (false, p1.fNext, p1.fHeld))
   ((idx p1.fNext p2.fIndex).bind fun _ =>
   Sh.step_start_L7 N p0 p2 (fun (v8 : (List Int)) =>
    some (true, p1.fNext.set (p2.fIndex).toNat p2.fVersion, v8)) N (p1.fHeld, 0)))
 fun j1 =>
 (idx p1.fNext p2.fIndex).bind fun v2 =>
 cnd ((decide (0 ≤ v2)))
  (j1 true)
  ((idx p1.fBase p2.fIndex).bind fun v4 =>
  j1 (v4 == p2.fVersion))
def Sh.step_running (_ : Nat) (p0 : ApiMix) (p1 : Int) : Option Int :=
 (idx p0.fBase p1).bind fun v1 =>
 (chk (0 ≤ v1)).bind fun _ =>
 join (fun (v3 : Int) =>
  some v3)
 fun j3 =>
 (idx p0.fNext p1).bind fun v4 =>
 cnd ((decide (0 ≤ v4)))
  ((idx p0.fNext p1).bind fun v6 =>
  (chk (0 ≤ v6)).bind fun _ =>
  j3 (orI .u8 ((shlI .u8 1 v1)) ((shlI .u8 1 v6))))
  (j3 (shlI .u8 1 v1))
def Sh.math_bits_TrailingZeros8 (_ : Nat) (p0 : Int) : Option Int :=
 (idxS ((⟨⟨(List.append (List.append [8, 0, 1, 0, 2, 0, 1, 0, 3, 0, 1, 0, 2, 0, 1, 0, 4, 0, 1, 0, 2, 0, 1, 0, 3, 0, 1, 0, 2, 0, 1, 0, 5, 0, 1, 0, 2, 0, 1, 0, 3, 0, 1, 0, 2, 0, 1, 0, 4, 0, 1, 0, 2, 0, 1, 0, 3, 0, 1, 0, 2, 0, 1, 0] [6, 0, 1, 0, 2, 0, 1, 0, 3, 0, 1, 0, 2, 0, 1, 0, 4, 0, 1, 0, 2, 0, 1, 0, 3, 0, 1, 0, 2, 0, 1, 0, 5, 0, 1, 0, 2, 0, 1, 0, 3, 0, 1, 0, 2, 0, 1, 0, 4, 0, 1, 0, 2, 0, 1, 0, 3, 0, 1, 0, 2, 0, 1, 0]) (List.append [7, 0, 1, 0, 2, 0, 1, 0, 3, 0, 1, 0, 2, 0, 1, 0, 4, 0, 1, 0, 2, 0, 1, 0, 3, 0, 1, 0, 2, 0, 1, 0, 5, 0, 1, 0, 2, 0, 1, 0, 3, 0, 1, 0, 2, 0, 1, 0, 4, 0, 1, 0, 2, 0, 1, 0, 3, 0, 1, 0, 2, 0, 1, 0] [6, 0, 1, 0, 2, 0, 1, 0, 3, 0, 1, 0, 2, 0, 1, 0, 4, 0, 1, 0, 2, 0, 1, 0, 3, 0, 1, 0, 2, 0, 1, 0, 5, 0, 1, 0, 2, 0, 1, 0, 3, 0, 1, 0, 2, 0, 1, 0, 4, 0, 1, 0, 2, 0, 1, 0, 3, 0, 1, 0, 2, 0, 1, 0]))⟩⟩ : ByteArray)) p0).bind fun v1 =>
 some ((IntKind.wrap .i64 v1))
def Sh.step_rewritable_L1 (N : Nat) (p0 : ApiTable) (p2 : Int) (j1 : Unit → Option Bool) : Nat → Int → Option Bool
 | 0, _ => none
 | n1 + 1, v1 =>
  cnd ((v1 != 0))
   ((Sh.math_bits_TrailingZeros8 N v1).bind fun v4 =>
   (idx p0.fRewrite v4).bind fun v5 =>
   (idx v5 p2).bind fun v6 =>
   cnd ((!v6))
    (some false)
    (Sh.step_rewritable_L1 N p0 p2 j1 n1 (andI .u8 v1 ((IntKind.wrap .u8 (v1 - 1))))))
   (j1 ())
def Sh.step_rewritable (N : Nat) (p0 : ApiTable) (p1 : Int) (p2 : Int) : Option Bool :=
 Sh.step_rewritable_L1 N p0 p2 (fun (_ : Unit) =>
  some true) N p1
def Sh.step_clear (N : Nat) (p0 : ApiProblem) (p1 : ApiMix) (p2 : Int) : Option (Bool × (List Int)) :=
 (idx p0.fTables p2).bind fun v1 =>
 (Sh.step_stored N v1).bind fun v2 =>
 cnd ((!v2))
  (some (false, p1.fHeld))
  ((Sh.step_running N p1 v1.fFrom).bind fun v4 =>
  (idx p1.fHeld p2).bind fun v5 =>
  join (fun (v6 : Bool) =>
   cnd v6
    (some (false, p1.fHeld))
    ((idx p1.fHeld p2).bind fun _ =>
    some (true, p1.fHeld.set (p2).toNat v4)))
  fun j6 =>
  (idx p1.fHeld p2).bind fun v7 =>
  cnd ((v7 == v4))
   (j6 true)
   (cnd ((v1.fKind == 4))
    ((idx p1.fBase v1.fFrom).bind fun v10 =>
    (Sh.step_rewritable N v1 ((andNotI .u8 v5 v4)) v10).bind fun v11 =>
    j6 (!v11))
    (j6 false)))
def Sh.step_after (N : Nat) (p0 : ApiProblem) (p1 : ApiMix) (p2 : ApiStep) : Option (ApiMix × Bool) :=
 (Sh.step_cloned N p1).bind fun v1 =>
 cnd ((p2.fKind == 1))
  ((Sh.step_start N p0 v1 p2).bind fun v3 =>
  some ((ApiMix.mk v1.fBase v3.2.1 v3.2.2), v3.1))
  (cnd ((p2.fKind == 3))
   ((Sh.step_clear N p0 v1 p2.fIndex).bind fun v5 =>
   some ((ApiMix.mk v1.fBase v1.fNext v5.2), v5.1))
   ((idx v1.fNext p2.fIndex).bind fun v6 =>
   cnd ((decide (v6 < 0)))
    (some (v1, false))
    ((idx v1.fNext p2.fIndex).bind fun _ =>
    join (fun (v9 : (List Int)) =>
     some ((ApiMix.mk v9 (v1.fNext.set (p2.fIndex).toNat ((-1))) v1.fHeld), true))
    fun j9 =>
    cnd ((p2.fKind == 2))
     ((idx v1.fBase p2.fIndex).bind fun _ =>
     j9 (v1.fBase.set (p2.fIndex).toNat v6))
     (j9 v1.fBase))))
def Sh.step_Enabled_1 (N : Nat) (p0 : ApiStep) (p1 : List Int) (p2 : List Int) (p3 : List Int) (p4 : List ApiTable) (p5 : List Int) (p6 : List Int) (p7 : List Int) : Option Bool :=
 (Sh.step_after N ((ApiProblem.mk p1 p2 p3 p4)) ((ApiMix.mk p5 p6 p7)) p0).bind fun v1 =>
 some ((!v1.2))
def Sh.slices_IndexFunc_api_Step_api_Step_L1 (N : Nat) (p0 : List ApiStep) (p1 : ApiStep → Option Bool) (j1 : Unit → Option Int) : Nat → Int → Option Int
 | 0, _ => none
 | n1 + 1, v1 =>
  cnd ((decide (v1 < (p0.length : Int))))
   ((idx p0 v1).bind fun v4 =>
   (p1 v4).bind fun v5 =>
   cnd v5
    (some v1)
    (Sh.slices_IndexFunc_api_Step_api_Step_L1 N p0 p1 j1 n1 (IntKind.wrap .i64 (v1 + 1))))
   (j1 ())
def Sh.slices_IndexFunc_api_Step_api_Step (N : Nat) (p0 : List ApiStep) (p1 : ApiStep → Option Bool) : Option Int :=
 Sh.slices_IndexFunc_api_Step_api_Step_L1 N p0 p1 (fun (_ : Unit) =>
  some ((-1))) N 0
def Sh.slices_DeleteFunc_api_Step_api_Step_L3 (N : Nat) (p1 : ApiStep → Option Bool) (j3 : ((List ApiStep) × Int) → Option (Nat × (List ApiStep))) : Nat → ((List ApiStep) × Int × Int) → Option (Nat × (List ApiStep))
 | 0, _ => none
 | n3 + 1, v3 =>
  cnd ((decide (v3.2.2 < (v3.1.length : Int))))
   (join (fun (v6 : (List ApiStep) × Int) =>
    Sh.slices_DeleteFunc_api_Step_api_Step_L3 N p1 j3 n3 (v6.1, v6.2, (IntKind.wrap .i64 (v3.2.2 + 1))))
   fun j6 =>
   (idx v3.1 v3.2.2).bind fun v7 =>
   (p1 v7).bind fun v8 =>
   cnd ((!v8))
    ((idx v3.1 v3.2.1).bind fun _ =>
    j6 (v3.1.set (v3.2.1).toNat v7, (IntKind.wrap .i64 (v3.2.1 + 1))))
    (j6 (v3.1, v3.2.1)))
   (j3 (v3.1, v3.2.1))
def Sh.slices_DeleteFunc_api_Step_api_Step (N : Nat) (p0 : List ApiStep) (p1 : ApiStep → Option Bool) : Option (Nat × (List ApiStep)) :=
 (Sh.slices_IndexFunc_api_Step_api_Step N p0 p1).bind fun v1 =>
 cnd ((v1 == (-1)))
  (some (p0.length, p0))
  (Sh.slices_DeleteFunc_api_Step_api_Step_L3 N p1 (fun (v4 : (List ApiStep) × Int) =>
   (chk ((0 : Int) ≤ v4.2 ∧ (v4.2).toNat ≤ v4.1.length ∧ v4.1.length ≤ v4.1.length)).bind fun _ =>
   (chk ((0 : Int) ≤ v4.2 ∧ 0 ≤ (v4.2).toNat ∧ (v4.2).toNat ≤ (spl v4.1 ((v4.2).toNat) (List.replicate ((v4.1.length - (v4.2).toNat)) ((ApiStep.mk 0 0 0)))).length)).bind fun _ =>
   some ((v4.2).toNat, spl v4.1 ((v4.2).toNat) (List.replicate ((v4.1.length - (v4.2).toNat)) ((ApiStep.mk 0 0 0))))) N (p0, v1, (IntKind.wrap .i64 (v1 + 1))))
def Sh.step_Enabled (N : Nat) (p0 : ApiProblem) (p1 : ApiMix) : Option ((List ApiStep) × Int) :=
 (Sh.mix_Valid N p0 p1).bind fun v1 =>
 cnd ((v1 != 0))
  (some (([] : List ApiStep), v1))
  ((Sh.step_all N p0).bind fun v3 =>
  (Sh.slices_DeleteFunc_api_Step_api_Step N v3 ((fun (x : ApiStep) => Sh.step_Enabled_1 N x p0.fVersions p0.fNow p0.fTarget p0.fTables p1.fBase p1.fNext p1.fHeld))).bind fun v4 =>
  (chk (v4.1 ≤ v4.2.length)).bind fun _ =>
  some (v4.2.take v4.1, 0))
def Sh.step_valid (_ : Nat) (p0 : ApiStep) : Option Bool :=
 join (fun (v1 : Bool) =>
  cnd v1
   (some false)
   (join (fun (v5 : Bool) =>
    some v5)
   fun j5 =>
   cnd ((p0.fKind == 1))
    (j5 true)
    (j5 (p0.fVersion == 0))))
 fun j1 =>
 cnd ((decide ((minI p0.fIndex p0.fVersion) < 0)))
  (j1 true)
  (cnd ((decide (p0.fKind < 1)))
   (j1 true)
   (j1 (decide (4 < p0.fKind))))
def Sh.step_exists (_ : Nat) (p0 : ApiProblem) (p1 : ApiStep) : Option Bool :=
 cnd ((p1.fKind == 3))
  (some ((decide (p1.fIndex < (p0.fTables.length : Int)))))
  (join (fun (v2 : Bool) =>
   some v2)
  fun j2 =>
  cnd ((decide (p1.fIndex < (p0.fVersions.length : Int))))
   (cnd ((p1.fKind != 1))
    (j2 true)
    ((idx p0.fVersions p1.fIndex).bind fun v5 =>
    j2 (decide (p1.fVersion < v5))))
   (j2 false))
def Sh.step_apply (N : Nat) (p0 : ApiProblem) (p1 : ApiMix) (p2 : ApiStep) : Option (ApiMix × Int) :=
 (Sh.step_valid N p2).bind fun v1 =>
 cnd ((!v1))
  (some ((ApiMix.mk (([] : List Int)) (([] : List Int)) (([] : List Int))), 1))
  ((Sh.step_exists N p0 p2).bind fun v3 =>
  cnd ((!v3))
   (some ((ApiMix.mk (([] : List Int)) (([] : List Int)) (([] : List Int))), 4))
   ((Sh.step_after N p0 p1 p2).bind fun v5 =>
   cnd ((!v5.2))
    (some ((ApiMix.mk (([] : List Int)) (([] : List Int)) (([] : List Int))), 11))
    (some (v5.1, 0))))
def Sh.step_Apply (N : Nat) (p0 : ApiProblem) (p1 : ApiMix) (p2 : ApiStep) : Option (ApiMix × Int) :=
 (Sh.mix_Valid N p0 p1).bind fun v1 =>
 cnd ((v1 != 0))
  (some ((ApiMix.mk (([] : List Int)) (([] : List Int)) (([] : List Int))), v1))
  ((Sh.step_apply N p0 p1 p2).bind fun v3 =>
  some (v3.1, v3.2))
def Sh.plan_region_L8 (N : Nat) (p0 : ApiProblem) (v2 : (List PlanNode) × (List (ByteArray × Int)) × Int) (v6 : (List ApiStep) × Int) (j8 : ((List PlanNode) × (List (ByteArray × Int))) → Option ((List PlanNode) × Int)) : Nat → ((List PlanNode) × (List (ByteArray × Int)) × Int) → Option ((List PlanNode) × Int)
 | 0, _ => none
 | n8 + 1, v8 =>
  cnd ((decide (v8.2.2 < (v6.1.length : Int))))
   ((idx v6.1 v8.2.2).bind fun v11 =>
   (idx v8.1 v2.2.2).bind fun v12 =>
   (Sh.step_Apply N p0 ((ApiMix.mk v12.fM.fBase v12.fM.fNext v12.fM.fHeld)) v11).bind fun v13 =>
   cnd ((v13.2 != 0))
    (some (([] : List PlanNode), v13.2))
    ((Sh.plan_key N v13.1).bind fun v15 =>
    join (fun (v16 : (List PlanNode) × (List (ByteArray × Int)) × Int) =>
     join (fun (v24 : (List PlanNode)) =>
      cnd ((decide (20000 < (v24.length : Int))))
       (some (([] : List PlanNode), 3))
       (Sh.plan_region_L8 N p0 v2 v6 j8 n8 (v24, v16.2.1, (IntKind.wrap .i64 (v8.2.2 + 1)))))
     fun j24 =>
     cnd ((decide (0 ≤ v16.2.2)))
      ((idx v16.1 v2.2.2).bind fun v26 =>
      (chk (v26.fNext.length + (([v16.2.2] : List Int)).length ≤ lim)).bind fun _ =>
      (idx v16.1 v2.2.2).bind fun v28 =>
      j24 (v16.1.set ((v2.2.2).toNat) ((PlanNode.mk ((ApiMix.mk v28.fM.fBase v28.fM.fNext v28.fM.fHeld)) v28.fFrom ((ApiStep.mk v28.fBy.fKind v28.fBy.fIndex v28.fBy.fVersion)) (v26.fNext ++ (([v16.2.2] : List Int)))))))
      (j24 v16.1))
    fun j16 =>
    cnd ((!((mget v15 v8.2.1).isSome)))
     (join (fun (v18 : (List PlanNode) × Int) =>
      j16 (v18.1, mset v15 v18.2 v8.2.1, v18.2))
     fun j18 =>
     (Sh.mix_Robust N p0 v13.1).bind fun v19 =>
     join (fun (v20 : Bool) =>
      cnd v20
       (j18 (v8.1, (-1)))
       ((chk (v8.1.length + (([(PlanNode.mk v13.1 v2.2.2 v11 (([] : List Int)))] : List PlanNode)).length ≤ lim)).bind fun _ =>
       j18 (v8.1 ++ (([(PlanNode.mk v13.1 v2.2.2 v11 (([] : List Int)))] : List PlanNode)), (v8.1.length : Int))))
     fun j20 =>
     cnd ((v19.2 != 0))
      (j20 true)
      (j20 (!v19.1)))
     (j16 (v8.1, v8.2.1, ((mget v15 v8.2.1).getD 0)))))
   (j8 (v8.1, v8.2.1))
def Sh.plan_region_L2 (N : Nat) (p0 : ApiProblem) (j2 : ((List PlanNode)) → Option ((List PlanNode) × Int)) : Nat → ((List PlanNode) × (List (ByteArray × Int)) × Int) → Option ((List PlanNode) × Int)
 | 0, _ => none
 | n2 + 1, v2 =>
  cnd ((decide (v2.2.2 < (v2.1.length : Int))))
   ((idx v2.1 v2.2.2).bind fun v5 =>
   (Sh.step_Enabled N p0 ((ApiMix.mk v5.fM.fBase v5.fM.fNext v5.fM.fHeld))).bind fun v6 =>
   cnd ((v6.2 != 0))
    (some (([] : List PlanNode), v6.2))
    (Sh.plan_region_L8 N p0 v2 v6 (fun (v9 : (List PlanNode) × (List (ByteArray × Int))) =>
     Sh.plan_region_L2 N p0 j2 n2 (v9.1, v9.2, (IntKind.wrap .i64 (v2.2.2 + 1)))) N (v2.1, v2.2.1, 0)))
   (j2 v2.1)
def Sh.plan_region (N : Nat) (p0 : ApiProblem) (p1 : ApiMix) : Option ((List PlanNode) × Int) :=
 (Sh.plan_key N p1).bind fun v1 =>
 Sh.plan_region_L2 N p0 (fun (v3 : (List PlanNode)) =>
  some (v3, 0)) N (([(PlanNode.mk p1 ((-1)) ((ApiStep.mk 0 0 0)) (([] : List Int)))] : List PlanNode), mset v1 0 (([] : List (ByteArray × Int))), 0)
def Sh.slices_Equal_int_int_L2 (N : Nat) (p0 : List Int) (p1 : List Int) (j2 : Unit → Option Bool) : Nat → Int → Option Bool
 | 0, _ => none
 | n2 + 1, v2 =>
  cnd ((decide (v2 < (p0.length : Int))))
   ((idx p0 v2).bind fun v5 =>
   (idx p1 v2).bind fun v6 =>
   cnd ((v5 != v6))
    (some false)
    (Sh.slices_Equal_int_int_L2 N p0 p1 j2 n2 (IntKind.wrap .i64 (v2 + 1))))
   (j2 ())
def Sh.slices_Equal_int_int (N : Nat) (p0 : List Int) (p1 : List Int) : Option Bool :=
 cnd (((p0.length : Int) != (p1.length : Int)))
  (some false)
  (Sh.slices_Equal_int_int_L2 N p0 p1 (fun (_ : Unit) =>
   some true) N 0)
def Sh.slices_IndexFunc_int_int_L1 (N : Nat) (p0 : List Int) (p1 : Int → Option Bool) (j1 : Unit → Option Int) : Nat → Int → Option Int
 | 0, _ => none
 | n1 + 1, v1 =>
  cnd ((decide (v1 < (p0.length : Int))))
   ((idx p0 v1).bind fun v4 =>
   (p1 v4).bind fun v5 =>
   cnd v5
    (some v1)
    (Sh.slices_IndexFunc_int_int_L1 N p0 p1 j1 n1 (IntKind.wrap .i64 (v1 + 1))))
   (j1 ())
def Sh.slices_IndexFunc_int_int (N : Nat) (p0 : List Int) (p1 : Int → Option Bool) : Option Int :=
 Sh.slices_IndexFunc_int_int_L1 N p0 p1 (fun (_ : Unit) =>
  some ((-1))) N 0
def Sh.slices_ContainsFunc_int_int (N : Nat) (p0 : List Int) (p1 : Int → Option Bool) : Option Bool :=
 (Sh.slices_IndexFunc_int_int N p0 p1).bind fun v1 =>
 some ((decide (0 ≤ v1)))
def Sh.mix_Goal_1 (_ : Nat) (p0 : Int) : Option Bool :=
 some ((decide (0 ≤ p0)))
def Sh.mix_Goal (N : Nat) (p0 : ApiProblem) (p1 : ApiMix) : Option Bool :=
 join (fun (v1 : Bool) =>
  some v1)
 fun j1 =>
 (Sh.mix_Valid N p0 p1).bind fun v2 =>
 cnd ((v2 == 0))
  ((Sh.slices_Equal_int_int N p1.fBase p0.fTarget).bind fun v4 =>
  cnd v4
   ((Sh.slices_ContainsFunc_int_int N p1.fNext ((fun (x : Int) => Sh.mix_Goal_1 N x))).bind fun v6 =>
   j1 (!v6))
   (j1 false))
  (j1 false)
def Sh.plan_From_1 (N : Nat) (p0 : PlanNode) (p1 : List Int) (p2 : List Int) (p3 : List Int) (p4 : List ApiTable) : Option Bool :=
 (Sh.mix_Goal N ((ApiProblem.mk p1 p2 p3 p4)) ((ApiMix.mk p0.fM.fBase p0.fM.fNext p0.fM.fHeld))).bind fun v1 =>
 some v1
def Sh.slices_IndexFunc_plan_node_plan_node_L1 (N : Nat) (p0 : List PlanNode) (p1 : PlanNode → Option Bool) (j1 : Unit → Option Int) : Nat → Int → Option Int
 | 0, _ => none
 | n1 + 1, v1 =>
  cnd ((decide (v1 < (p0.length : Int))))
   ((idx p0 v1).bind fun v4 =>
   (p1 ((PlanNode.mk ((ApiMix.mk v4.fM.fBase v4.fM.fNext v4.fM.fHeld)) v4.fFrom ((ApiStep.mk v4.fBy.fKind v4.fBy.fIndex v4.fBy.fVersion)) v4.fNext))).bind fun v5 =>
   cnd v5
    (some v1)
    (Sh.slices_IndexFunc_plan_node_plan_node_L1 N p0 p1 j1 n1 (IntKind.wrap .i64 (v1 + 1))))
   (j1 ())
def Sh.slices_IndexFunc_plan_node_plan_node (N : Nat) (p0 : List PlanNode) (p1 : PlanNode → Option Bool) : Option Int :=
 Sh.slices_IndexFunc_plan_node_plan_node_L1 N p0 p1 (fun (_ : Unit) =>
  some ((-1))) N 0
def Sh.slices_Reverse_api_Step_api_Step_L1 (N : Nat) (j1 : ((List ApiStep)) → Option ((List ApiStep))) : Nat → ((List ApiStep) × Int × Int) → Option ((List ApiStep))
 | 0, _ => none
 | n1 + 1, v1 =>
  cnd ((decide (v1.2.1 < v1.2.2)))
   ((idx v1.1 v1.2.2).bind fun v4 =>
   (idx v1.1 v1.2.1).bind fun v5 =>
   (idx v1.1 v1.2.1).bind fun _ =>
   (idx (v1.1.set (v1.2.1).toNat v4) v1.2.2).bind fun _ =>
   Sh.slices_Reverse_api_Step_api_Step_L1 N j1 n1 ((v1.1.set (v1.2.1).toNat v4).set (v1.2.2).toNat v5, (IntKind.wrap .i64 (v1.2.1 + 1)), (IntKind.wrap .i64 (v1.2.2 - 1))))
   (j1 v1.1)
def Sh.slices_Reverse_api_Step_api_Step (N : Nat) (p0 : List ApiStep) : Option ((List ApiStep)) :=
 Sh.slices_Reverse_api_Step_api_Step_L1 N (fun (v2 : (List ApiStep)) =>
  some v2) N (p0, 0, (IntKind.wrap .i64 ((p0.length : Int) - 1)))
def Sh.plan_way_L1 (N : Nat) (p0 : List PlanNode) (j1 : ((List ApiStep)) → Option ((List ApiStep))) : Nat → (Int × (List ApiStep)) → Option ((List ApiStep))
 | 0, _ => none
 | n1 + 1, v1 =>
  (idx p0 v1.1).bind fun v3 =>
  cnd ((decide (0 ≤ v3.fFrom)))
   ((idx p0 v1.1).bind fun v5 =>
   (chk (v1.2.length + (([(ApiStep.mk v5.fBy.fKind v5.fBy.fIndex v5.fBy.fVersion)] : List ApiStep)).length ≤ lim)).bind fun _ =>
   (idx p0 v1.1).bind fun v7 =>
   Sh.plan_way_L1 N p0 j1 n1 (v7.fFrom, v1.2 ++ (([(ApiStep.mk v5.fBy.fKind v5.fBy.fIndex v5.fBy.fVersion)] : List ApiStep))))
   (j1 v1.2)
def Sh.plan_way (N : Nat) (p0 : List PlanNode) (p1 : Int) : Option ((List ApiStep)) :=
 Sh.plan_way_L1 N p0 (fun (v2 : (List ApiStep)) =>
  (Sh.slices_Reverse_api_Step_api_Step N v2).bind fun v8 =>
  some v8) N (p1, ([] : List ApiStep))
def Sh.plan_From (N : Nat) (p0 : ApiProblem) (p1 : ApiMix) : Option ((List ApiStep) × Int) :=
 (Sh.mix_Robust N p0 p1).bind fun v1 =>
 cnd ((v1.2 != 0))
  (some (([] : List ApiStep), v1.2))
  (cnd ((!v1.1))
   (some (([] : List ApiStep), 13))
   ((Sh.plan_region N p0 p1).bind fun v4 =>
   cnd ((v4.2 != 0))
    (some (([] : List ApiStep), v4.2))
    ((Sh.slices_IndexFunc_plan_node_plan_node N v4.1 ((fun (x : PlanNode) => Sh.plan_From_1 N x p0.fVersions p0.fNow p0.fTarget p0.fTables))).bind fun v6 =>
    cnd ((decide (v6 < 0)))
     (some (([] : List ApiStep), 14))
     ((Sh.plan_way N v4.1 v6).bind fun v8 =>
     some (v8, 0)))))
def Sh.plan_Find (N : Nat) (p0 : ApiProblem) : Option ((List ApiStep) × Int) :=
 (Sh.mix_Start N p0).bind fun v1 =>
 cnd ((v1.2 != 0))
  (some (([] : List ApiStep), v1.2))
  ((Sh.plan_From N p0 v1.1).bind fun v3 =>
  some (v3.1, v3.2))
def Sh.plan_Failure_L5 (N : Nat) (p0 : ApiProblem) (p1 : List ApiStep) (j5 : ApiMix → Option (Int × ApiMix × ApiConflict × Int)) : Nat → (ApiMix × Int) → Option (Int × ApiMix × ApiConflict × Int)
 | 0, _ => none
 | n5 + 1, v5 =>
  cnd ((decide (v5.2 < (p1.length : Int))))
   ((idx p1 v5.2).bind fun v8 =>
   (Sh.step_Apply N p0 v5.1 v8).bind fun v9 =>
   join (fun (v10 : Bool) =>
    cnd v10
     (some (v5.2, (ApiMix.mk (([] : List Int)) (([] : List Int)) (([] : List Int))), (ApiConflict.mk 0 0 0), 0))
     ((Sh.mix_Blame N p0 v9.1).bind fun v13 =>
     cnd ((v13.2.2 == 0))
      (some (v5.2, v13.1, v13.2.1, 0))
      (Sh.plan_Failure_L5 N p0 p1 j5 n5 (v9.1, (IntKind.wrap .i64 (v5.2 + 1))))))
   fun j10 =>
   cnd ((v9.2 != 0))
    (j10 true)
    (j10 (v8.fKind == 4)))
   (j5 v5.1)
def Sh.plan_Failure (N : Nat) (p0 : ApiProblem) (p1 : List ApiStep) : Option (Int × ApiMix × ApiConflict × Int) :=
 (Sh.mix_Start N p0).bind fun v1 =>
 cnd ((v1.2 != 0))
  (some (0, (ApiMix.mk (([] : List Int)) (([] : List Int)) (([] : List Int))), (ApiConflict.mk 0 0 0), v1.2))
  ((Sh.mix_Blame N p0 v1.1).bind fun v3 =>
  cnd ((v3.2.2 == 0))
   (some ((-1), v3.1, v3.2.1, 0))
   (Sh.plan_Failure_L5 N p0 p1 (fun (v6 : ApiMix) =>
    (Sh.mix_Goal N p0 v6).bind fun v15 =>
    cnd ((!v15))
     (some ((p1.length : Int), (ApiMix.mk (([] : List Int)) (([] : List Int)) (([] : List Int))), (ApiConflict.mk 0 0 0), 14))
     (some (0, (ApiMix.mk (([] : List Int)) (([] : List Int)) (([] : List Int))), (ApiConflict.mk 0 0 0), 15))) N (v1.1, 0)))
def Sh.sheaveref37_Same_L2 (N : Nat) (p0 : List ApiStep) (p1 : List ApiStep) (j2 : Unit → Option Bool) : Nat → Int → Option Bool
 | 0, _ => none
 | n2 + 1, v2 =>
  cnd ((decide (v2 < (p0.length : Int))))
   ((idx p0 v2).bind fun v5 =>
   (idx p1 v2).bind fun v6 =>
   cnd ((!((v5.fKind == v6.fKind) && ((v5.fIndex == v6.fIndex) && ((v5.fVersion == v6.fVersion) && true)))))
    (some false)
    (Sh.sheaveref37_Same_L2 N p0 p1 j2 n2 (IntKind.wrap .i64 (v2 + 1))))
   (j2 ())
def Sh.sheaveref37_Same (N : Nat) (p0 : List ApiStep) (p1 : List ApiStep) : Option Bool :=
 cnd (((p0.length : Int) != (p1.length : Int)))
  (some false)
  (Sh.sheaveref37_Same_L2 N p0 p1 (fun (_ : Unit) =>
   some true) N 0)
def Sh.plan_Check (N : Nat) (p0 : ApiProblem) (p1 : List ApiStep) : Option Bool :=
 (Sh.plan_Failure N p0 p1).bind fun v1 =>
 some ((v1.2.2.2 == 15))
def Sh.sheavelaw39_awake (N : Nat) : Option Bool :=
 (Sh.sheavelaw39_example N false false).bind fun v1 =>
 (Sh.plan_Find N v1).bind fun v2 =>
 (Sh.sheavelaw39_example N true false).bind fun v3 =>
 (Sh.plan_Find N v3).bind fun v4 =>
 (Sh.sheavelaw39_example N true true).bind fun v5 =>
 (Sh.plan_Find N v5).bind fun v6 =>
 (Sh.sheavelaw39_example N false false).bind fun v7 =>
 (Sh.plan_Failure N v7 (([(ApiStep.mk 1 0 1)] : List ApiStep))).bind fun v8 =>
 join (fun (v9 : Bool) =>
  some v9)
 fun j9 =>
 cnd ((v2.2 == 0))
  ((Sh.sheaveref37_Same N v2.1 (([(ApiStep.mk 1 1 1), (ApiStep.mk 2 1 0), (ApiStep.mk 1 0 1), (ApiStep.mk 2 0 0)] : List ApiStep))).bind fun v11 =>
  cnd v11
   (cnd ((v4.2 == 14))
    (cnd ((v6.2 == 14))
     (cnd ((v8.2.2.2 == 0))
      (cnd ((v8.1 == 0))
       (cnd (((v8.2.2.1.fTable == 0) && ((v8.2.2.1.fWriter == 1) && ((v8.2.2.1.fReader == 0) && true))))
        ((Sh.sheavelaw39_example N false false).bind fun v18 =>
        (Sh.plan_Check N v18 (([(ApiStep.mk 1 1 1), (ApiStep.mk 2 1 0), (ApiStep.mk 1 0 1), (ApiStep.mk 2 0 0)] : List ApiStep))).bind fun v19 =>
        j9 v19)
        (j9 false))
       (j9 false))
      (j9 false))
     (j9 false))
    (j9 false))
   (j9 false))
  (j9 false)
def Sh.sheaveref35_Few_L14 (N : Nat) (p0 : ApiProblem) (v6 : Int) (j14 : Unit → Option Bool) : Nat → Int → Option Bool
 | 0, _ => none
 | n14 + 1, v14 =>
  (idx p0.fTables v6).bind fun v16 =>
  cnd ((decide (v14 < (v16.fOK.length : Int))))
   ((idx p0.fTables v6).bind fun v18 =>
   (idx v18.fOK v14).bind fun v19 =>
   cnd ((decide (8 < (v19.length : Int))))
    (some false)
    (Sh.sheaveref35_Few_L14 N p0 v6 j14 n14 (IntKind.wrap .i64 (v14 + 1))))
   (j14 ())
def Sh.sheaveref35_Few_L21 (N : Nat) (p0 : ApiProblem) (v6 : Int) (j21 : Unit → Option Bool) : Nat → Int → Option Bool
 | 0, _ => none
 | n21 + 1, v21 =>
  (idx p0.fTables v6).bind fun v23 =>
  cnd ((decide (v21 < (v23.fRewrite.length : Int))))
   ((idx p0.fTables v6).bind fun v25 =>
   (idx v25.fRewrite v21).bind fun v26 =>
   cnd ((decide (8 < (v26.length : Int))))
    (some false)
    (Sh.sheaveref35_Few_L21 N p0 v6 j21 n21 (IntKind.wrap .i64 (v21 + 1))))
   (j21 ())
def Sh.sheaveref35_Few_L6 (N : Nat) (p0 : ApiProblem) (j6 : Unit → Option Bool) : Nat → Int → Option Bool
 | 0, _ => none
 | n6 + 1, v6 =>
  cnd ((decide (v6 < (p0.fTables.length : Int))))
   (join (fun (v9 : Bool) =>
    cnd v9
     (some false)
     (Sh.sheaveref35_Few_L14 N p0 v6 (fun (_ : Unit) =>
      Sh.sheaveref35_Few_L21 N p0 v6 (fun (_ : Unit) =>
       Sh.sheaveref35_Few_L6 N p0 j6 n6 (IntKind.wrap .i64 (v6 + 1))) N 0) N 0))
   fun j9 =>
   (idx p0.fTables v6).bind fun v10 =>
   cnd ((decide (8 < (v10.fOK.length : Int))))
    (j9 true)
    ((idx p0.fTables v6).bind fun v12 =>
    j9 (decide (8 < (v12.fRewrite.length : Int)))))
   (j6 ())
def Sh.sheaveref35_Few (N : Nat) (p0 : ApiProblem) : Option Bool :=
 join (fun (v1 : Bool) =>
  cnd v1
   (some false)
   (Sh.sheaveref35_Few_L6 N p0 (fun (_ : Unit) =>
    some true) N 0))
 fun j1 =>
 cnd ((decide (8 < (p0.fVersions.length : Int))))
  (j1 true)
  (cnd ((decide (8 < (p0.fNow.length : Int))))
   (j1 true)
   (cnd ((decide (8 < (p0.fTarget.length : Int))))
    (j1 true)
    (j1 (decide (14 < (p0.fTables.length : Int))))))
def Sh.sheaveref35_Stored (_ : Nat) (p0 : ApiTable) : Option Bool :=
 join (fun (v1 : Bool) =>
  some v1)
 fun j1 =>
 cnd ((p0.fKind == 3))
  (j1 true)
  (j1 (p0.fKind == 4))
def Sh.sheaveref35_square_L2 (N : Nat) (p0 : List (List Bool)) (p1 : Int) (p2 : Int) (j2 : Unit → Option Bool) : Nat → Int → Option Bool
 | 0, _ => none
 | n2 + 1, v2 =>
  cnd ((decide (v2 < p1)))
   ((idx p0 v2).bind fun v5 =>
   cnd (((v5.length : Int) != p2))
    (some false)
    (Sh.sheaveref35_square_L2 N p0 p1 p2 j2 n2 (IntKind.wrap .i64 (v2 + 1))))
   (j2 ())
def Sh.sheaveref35_square (N : Nat) (p0 : List (List Bool)) (p1 : Int) (p2 : Int) : Option Bool :=
 cnd (((p0.length : Int) != p1))
  (some false)
  (Sh.sheaveref35_square_L2 N p0 p1 p2 (fun (_ : Unit) =>
   some true) N 0)
def Sh.sheaveref35_table_L22 (N : Nat) (p1 : ApiTable) (j22 : Unit → Option Int) : Nat → Int → Option Int
 | 0, _ => none
 | n22 + 1, v22 =>
  cnd ((decide (v22 < (p1.fRewrite.length : Int))))
   ((idx p1.fRewrite v22).bind fun v25 =>
   (idx v25 v22).bind fun v26 =>
   cnd ((!v26))
    (some 1)
    (Sh.sheaveref35_table_L22 N p1 j22 n22 (IntKind.wrap .i64 (v22 + 1))))
   (j22 ())
def Sh.sheaveref35_table (N : Nat) (p0 : ApiProblem) (p1 : ApiTable) : Option Int :=
 join (fun (v1 : Bool) =>
  cnd v1
   (some 1)
   (join (fun (v7 : Bool) =>
    cnd v7
     (some 4)
     ((idx p0.fVersions p1.fFrom).bind fun v12 =>
     (idx p0.fVersions p1.fTo).bind fun v13 =>
     (Sh.sheaveref35_square N p1.fOK v12 v13).bind fun v14 =>
     cnd ((!v14))
      (some 6)
      (cnd ((p1.fKind != 4))
       (cnd (((p1.fRewrite.length : Int) != 0))
        (some 6)
        (some 0))
       ((idx p0.fVersions p1.fFrom).bind fun v18 =>
       (idx p0.fVersions p1.fFrom).bind fun v19 =>
       (Sh.sheaveref35_square N p1.fRewrite v18 v19).bind fun v20 =>
       cnd ((!v20))
        (some 6)
        (Sh.sheaveref35_table_L22 N p1 (fun (_ : Unit) =>
         some 0) N 0)))))
   fun j7 =>
   cnd ((decide (p1.fFrom < 0)))
    (j7 true)
    (cnd ((decide ((p0.fVersions.length : Int) ≤ p1.fFrom)))
     (j7 true)
     (cnd ((decide (p1.fTo < 0)))
      (j7 true)
      (j7 (decide ((p0.fVersions.length : Int) ≤ p1.fTo)))))))
 fun j1 =>
 cnd ((decide (p1.fKind < 1)))
  (j1 true)
  (cnd ((decide (4 < p1.fKind)))
   (j1 true)
   (cnd p1.fAware
    ((Sh.sheaveref35_Stored N p1).bind fun v5 =>
    j1 v5)
    (j1 false)))
def Sh.sheaveref35_ValidProblem_L7 (N : Nat) (p0 : ApiProblem) (j7 : Unit → Option Int) : Nat → Int → Option Int
 | 0, _ => none
 | n7 + 1, v7 =>
  cnd ((decide (v7 < (p0.fVersions.length : Int))))
   ((idx p0.fVersions v7).bind fun v10 =>
   join (fun (v11 : Bool) =>
    cnd v11
     (some 7)
     (Sh.sheaveref35_ValidProblem_L7 N p0 j7 n7 (IntKind.wrap .i64 (v7 + 1))))
   fun j11 =>
   cnd ((decide (v10 < 1)))
    (j11 true)
    (cnd ((decide (6 < v10)))
     (j11 true)
     ((idx p0.fNow v7).bind fun v14 =>
     cnd ((decide (v14 < 0)))
      (j11 true)
      ((idx p0.fNow v7).bind fun v16 =>
      cnd ((decide (v10 ≤ v16)))
       (j11 true)
       ((idx p0.fTarget v7).bind fun v18 =>
       cnd ((decide (v18 < 0)))
        (j11 true)
        ((idx p0.fTarget v7).bind fun v20 =>
        j11 (decide (v10 ≤ v20))))))))
   (j7 ())
def Sh.sheaveref35_ValidProblem_L22 (N : Nat) (p0 : ApiProblem) (j22 : Unit → Option Int) : Nat → Int → Option Int
 | 0, _ => none
 | n22 + 1, v22 =>
  cnd ((decide (v22 < (p0.fTables.length : Int))))
   ((idx p0.fTables v22).bind fun v25 =>
   (Sh.sheaveref35_table N p0 v25).bind fun v26 =>
   cnd ((v26 != 0))
    (some v26)
    (Sh.sheaveref35_ValidProblem_L22 N p0 j22 n22 (IntKind.wrap .i64 (v22 + 1))))
   (j22 ())
def Sh.sheaveref35_ValidProblem (N : Nat) (p0 : ApiProblem) : Option Int :=
 join (fun (v1 : Bool) =>
  cnd v1
   (some 3)
   (join (fun (v4 : Bool) =>
    cnd v4
     (some 6)
     (Sh.sheaveref35_ValidProblem_L7 N p0 (fun (_ : Unit) =>
      Sh.sheaveref35_ValidProblem_L22 N p0 (fun (_ : Unit) =>
       some 0) N 0) N 0))
   fun j4 =>
   cnd (((p0.fNow.length : Int) != (p0.fVersions.length : Int)))
    (j4 true)
    (j4 ((p0.fTarget.length : Int) != (p0.fVersions.length : Int)))))
 fun j1 =>
 cnd ((decide (6 < (p0.fVersions.length : Int))))
  (j1 true)
  (j1 (decide (12 < (p0.fTables.length : Int))))
def Sh.sheaveref36_Start_L3 (N : Nat) (p0 : ApiProblem) (j3 : ((List Int) × (List Int)) → Option (ApiMix × Int)) : Nat → ((List Int) × (List Int) × Int) → Option (ApiMix × Int)
 | 0, _ => none
 | n3 + 1, v3 =>
  cnd ((decide (v3.2.2 < (p0.fVersions.length : Int))))
   ((idx p0.fNow v3.2.2).bind fun v6 =>
   (chk (v3.1.length + (([v6] : List Int)).length ≤ lim)).bind fun _ =>
   (chk (v3.2.1.length + (([(-1)] : List Int)).length ≤ lim)).bind fun _ =>
   Sh.sheaveref36_Start_L3 N p0 j3 n3 (v3.1 ++ (([v6] : List Int)), v3.2.1 ++ (([(-1)] : List Int)), (IntKind.wrap .i64 (v3.2.2 + 1))))
   (j3 (v3.1, v3.2.1))
def Sh.sheaveref36_Start_L9 (N : Nat) (p0 : ApiProblem) (j9 : ((List Int)) → Option (ApiMix × Int)) : Nat → ((List Int) × Int) → Option (ApiMix × Int)
 | 0, _ => none
 | n9 + 1, v9 =>
  cnd ((decide (v9.2 < (p0.fTables.length : Int))))
   (join (fun (v12 : Int) =>
    (chk (v9.1.length + (([v12] : List Int)).length ≤ lim)).bind fun _ =>
    Sh.sheaveref36_Start_L9 N p0 j9 n9 (v9.1 ++ (([v12] : List Int)), (IntKind.wrap .i64 (v9.2 + 1))))
   fun j12 =>
   (idx p0.fTables v9.2).bind fun v13 =>
   (Sh.sheaveref35_Stored N v13).bind fun v14 =>
   cnd v14
    ((idx p0.fTables v9.2).bind fun v16 =>
    (idx p0.fNow v16.fFrom).bind fun v17 =>
    (chk (0 ≤ v17)).bind fun _ =>
    j12 (shlI .u8 1 v17))
    (j12 0))
   (j9 v9.1)
def Sh.sheaveref36_Start (N : Nat) (p0 : ApiProblem) : Option (ApiMix × Int) :=
 (Sh.sheaveref35_ValidProblem N p0).bind fun v1 =>
 cnd ((v1 != 0))
  (some ((ApiMix.mk (([] : List Int)) (([] : List Int)) (([] : List Int))), v1))
  (Sh.sheaveref36_Start_L3 N p0 (fun (v4 : (List Int) × (List Int)) =>
   Sh.sheaveref36_Start_L9 N p0 (fun (v10 : (List Int)) =>
    some ((ApiMix.mk v4.1 v4.2 v10), 0)) N (([] : List Int), 0)) N (([] : List Int), ([] : List Int), 0))
def Sh.sheaveref36_Running (_ : Nat) (p0 : ApiMix) (p1 : Int) : Option Int :=
 (idx p0.fBase p1).bind fun v1 =>
 (chk (0 ≤ v1)).bind fun _ =>
 join (fun (v3 : Int) =>
  some v3)
 fun j3 =>
 (idx p0.fNext p1).bind fun v4 =>
 cnd ((decide (0 ≤ v4)))
  ((idx p0.fNext p1).bind fun v6 =>
  (chk (0 ≤ v6)).bind fun _ =>
  j3 (orI .u8 ((shlI .u8 1 v1)) ((shlI .u8 1 v6))))
  (j3 (shlI .u8 1 v1))
def Sh.sheaveref36_Valid_L7 (N : Nat) (p0 : ApiProblem) (p1 : ApiMix) (j7 : Unit → Option Int) : Nat → Int → Option Int
 | 0, _ => none
 | n7 + 1, v7 =>
  cnd ((decide (v7 < (p0.fVersions.length : Int))))
   (join (fun (v10 : Bool) =>
    cnd v10
     (some 7)
     ((idx p1.fBase v7).bind fun v21 =>
     (idx p1.fNext v7).bind fun v22 =>
     cnd ((v21 == v22))
      (some 1)
      (Sh.sheaveref36_Valid_L7 N p0 p1 j7 n7 (IntKind.wrap .i64 (v7 + 1)))))
   fun j10 =>
   (idx p1.fBase v7).bind fun v11 =>
   cnd ((decide (v11 < 0)))
    (j10 true)
    ((idx p1.fBase v7).bind fun v13 =>
    (idx p0.fVersions v7).bind fun v14 =>
    cnd ((decide (v14 ≤ v13)))
     (j10 true)
     ((idx p1.fNext v7).bind fun v16 =>
     cnd ((decide (v16 < (-1))))
      (j10 true)
      ((idx p1.fNext v7).bind fun v18 =>
      (idx p0.fVersions v7).bind fun v19 =>
      j10 (decide (v19 ≤ v18))))))
   (j7 ())
def Sh.sheaveref36_Valid_L24 (N : Nat) (p0 : ApiProblem) (p1 : ApiMix) (j24 : Unit → Option Int) : Nat → Int → Option Int
 | 0, _ => none
 | n24 + 1, v24 =>
  cnd ((decide (v24 < (p0.fTables.length : Int))))
   ((idx p0.fTables v24).bind fun v27 =>
   (idx p0.fVersions v27.fFrom).bind fun v28 =>
   (chk (0 ≤ v28)).bind fun _ =>
   join (fun (v30 : Bool) =>
    cnd v30
     (some 1)
     (Sh.sheaveref36_Valid_L24 N p0 p1 j24 n24 (IntKind.wrap .i64 (v24 + 1))))
   fun j30 =>
   (Sh.sheaveref35_Stored N v27).bind fun v31 =>
   cnd ((!v31))
    ((idx p1.fHeld v24).bind fun v33 =>
    cnd ((v33 != 0))
     (j30 true)
     ((Sh.sheaveref35_Stored N v27).bind fun v35 =>
     cnd v35
      ((idx p1.fHeld v24).bind fun v37 =>
      cnd (((andNotI .u8 v37 ((IntKind.wrap .u8 ((shlI .u8 1 v28) - 1)))) != 0))
       (j30 true)
       ((Sh.sheaveref36_Running N p1 v27.fFrom).bind fun v39 =>
       (idx p1.fHeld v24).bind fun v40 =>
       j30 ((andNotI .u8 v39 v40) != 0)))
      (j30 false)))
    ((Sh.sheaveref35_Stored N v27).bind fun v41 =>
    cnd v41
     ((idx p1.fHeld v24).bind fun v43 =>
     cnd (((andNotI .u8 v43 ((IntKind.wrap .u8 ((shlI .u8 1 v28) - 1)))) != 0))
      (j30 true)
      ((Sh.sheaveref36_Running N p1 v27.fFrom).bind fun v45 =>
      (idx p1.fHeld v24).bind fun v46 =>
      j30 ((andNotI .u8 v45 v46) != 0)))
     (j30 false)))
   (j24 ())
def Sh.sheaveref36_Valid (N : Nat) (p0 : ApiProblem) (p1 : ApiMix) : Option Int :=
 (Sh.sheaveref35_ValidProblem N p0).bind fun v1 =>
 cnd ((v1 != 0))
  (some v1)
  (join (fun (v3 : Bool) =>
   cnd v3
    (some 6)
    (Sh.sheaveref36_Valid_L7 N p0 p1 (fun (_ : Unit) =>
     Sh.sheaveref36_Valid_L24 N p0 p1 (fun (_ : Unit) =>
      some 0) N 0) N 0))
  fun j3 =>
  cnd (((p1.fBase.length : Int) != (p0.fVersions.length : Int)))
   (j3 true)
   (cnd (((p1.fNext.length : Int) != (p0.fVersions.length : Int)))
    (j3 true)
    (j3 ((p1.fHeld.length : Int) != (p0.fTables.length : Int)))))
def Sh.sheaveref37_Valid (_ : Nat) (p0 : ApiStep) : Option Bool :=
 join (fun (v1 : Bool) =>
  some v1)
 fun j1 =>
 cnd ((decide (1 ≤ p0.fKind)))
  (cnd ((decide (p0.fKind ≤ 4)))
   (cnd ((decide (0 ≤ p0.fIndex)))
    (cnd ((decide (0 ≤ p0.fVersion)))
     (cnd ((p0.fKind == 1))
      (j1 true)
      (j1 (p0.fVersion == 0)))
     (j1 false))
    (j1 false))
   (j1 false))
  (j1 false)
def Sh.sheaveref36_Has (_ : Nat) (p0 : Int) (p1 : Int) : Option Bool :=
 (chk (0 ≤ p1)).bind fun _ =>
 some (((andI .u8 ((shrI .u8 p0 p1)) 1) == 1))
def Sh.sheaveref37_After_L12 (N : Nat) (p0 : ApiProblem) (p2 : ApiStep) (j12 : ((List Int)) → Option (ApiMix × Bool)) : Nat → ((List Int) × Int) → Option (ApiMix × Bool)
 | 0, _ => none
 | n12 + 1, v12 =>
  cnd ((decide (v12.2 < (p0.fTables.length : Int))))
   (join (fun (v15 : (List Int)) =>
    Sh.sheaveref37_After_L12 N p0 p2 j12 n12 (v15, (IntKind.wrap .i64 (v12.2 + 1))))
   fun j15 =>
   join (fun (v16 : Bool) =>
    cnd v16
     ((idx v12.1 v12.2).bind fun v22 =>
     (chk (0 ≤ p2.fVersion)).bind fun _ =>
     (idx v12.1 v12.2).bind fun _ =>
     j15 (v12.1.set (v12.2).toNat ((orI .u8 v22 ((shlI .u8 1 p2.fVersion))))))
     (j15 v12.1))
   fun j16 =>
   (idx p0.fTables v12.2).bind fun v17 =>
   cnd ((v17.fFrom == p2.fIndex))
    ((idx p0.fTables v12.2).bind fun v19 =>
    (Sh.sheaveref35_Stored N v19).bind fun v20 =>
    j16 v20)
    (j16 false))
   (j12 v12.1)
def Sh.sheaveref37_After_L38 (N : Nat) (p0 : ApiProblem) (p1 : ApiMix) (p2 : ApiStep) (v32 : ApiTable) (v35 : Int) (j38 : Unit → Option (ApiMix × Bool)) : Nat → Int → Option (ApiMix × Bool)
 | 0, _ => none
 | n38 + 1, v38 =>
  (idx p0.fVersions v32.fFrom).bind fun v40 =>
  cnd ((decide (v38 < v40)))
   (join (fun (v42 : Bool) =>
    join (fun (v47 : Bool) =>
     cnd v47
      (some ((ApiMix.mk (([] : List Int)) (([] : List Int)) (([] : List Int))), false))
      (Sh.sheaveref37_After_L38 N p0 p1 p2 v32 v35 j38 n38 (IntKind.wrap .i64 (v38 + 1))))
    fun j47 =>
    cnd v42
     (cnd ((v32.fKind == 4))
      ((idx v32.fRewrite v38).bind fun v50 =>
      (idx p1.fBase v32.fFrom).bind fun v51 =>
      (idx v50 v51).bind fun v52 =>
      j47 (!v52))
      (j47 false))
     (j47 false))
   fun j42 =>
   (idx p1.fHeld p2.fIndex).bind fun v43 =>
   (Sh.sheaveref36_Has N v43 v38).bind fun v44 =>
   cnd v44
    ((Sh.sheaveref36_Has N v35 v38).bind fun v46 =>
    j42 (!v46))
    (j42 false))
   (j38 ())
def Sh.sheaveref37_After (N : Nat) (p0 : ApiProblem) (p1 : ApiMix) (p2 : ApiStep) : Option (ApiMix × Bool) :=
 (chk ((([] : List Int)).length + p1.fBase.length ≤ lim)).bind fun _ =>
 (chk ((([] : List Int)).length + p1.fNext.length ≤ lim)).bind fun _ =>
 (chk ((([] : List Int)).length + p1.fHeld.length ≤ lim)).bind fun _ =>
 join (fun (v4 : (List Int) × (List Int) × (List Int)) =>
  some ((ApiMix.mk v4.1 v4.2.1 v4.2.2), true))
 fun j4 =>
 cnd ((p2.fKind == 1))
  (join (fun (v6 : Bool) =>
   cnd v6
    (some ((ApiMix.mk (([] : List Int)) (([] : List Int)) (([] : List Int))), false))
    ((idx ((([] : List Int)) ++ p1.fNext) p2.fIndex).bind fun _ =>
    Sh.sheaveref37_After_L12 N p0 p2 (fun (v13 : (List Int)) =>
     j4 ((([] : List Int)) ++ p1.fBase, ((([] : List Int)) ++ p1.fNext).set (p2.fIndex).toNat p2.fVersion, v13)) N ((([] : List Int)) ++ p1.fHeld, 0)))
  fun j6 =>
  (idx p1.fNext p2.fIndex).bind fun v7 =>
  cnd ((decide (0 ≤ v7)))
   (j6 true)
   ((idx p1.fBase p2.fIndex).bind fun v9 =>
   j6 (p2.fVersion == v9)))
  (cnd ((p2.fKind == 2))
   ((idx p1.fNext p2.fIndex).bind fun v26 =>
   cnd ((decide (v26 < 0)))
    (some ((ApiMix.mk (([] : List Int)) (([] : List Int)) (([] : List Int))), false))
    ((idx p1.fNext p2.fIndex).bind fun v28 =>
    (idx ((([] : List Int)) ++ p1.fBase) p2.fIndex).bind fun _ =>
    (idx ((([] : List Int)) ++ p1.fNext) p2.fIndex).bind fun _ =>
    j4 (((([] : List Int)) ++ p1.fBase).set (p2.fIndex).toNat v28, ((([] : List Int)) ++ p1.fNext).set (p2.fIndex).toNat ((-1)), (([] : List Int)) ++ p1.fHeld)))
   (cnd ((p2.fKind == 3))
    ((idx p0.fTables p2.fIndex).bind fun v32 =>
    (Sh.sheaveref35_Stored N v32).bind fun v33 =>
    cnd ((!v33))
     (some ((ApiMix.mk (([] : List Int)) (([] : List Int)) (([] : List Int))), false))
     ((Sh.sheaveref36_Running N p1 v32.fFrom).bind fun v35 =>
     (idx p1.fHeld p2.fIndex).bind fun v36 =>
     cnd ((v36 == v35))
      (some ((ApiMix.mk (([] : List Int)) (([] : List Int)) (([] : List Int))), false))
      (Sh.sheaveref37_After_L38 N p0 p1 p2 v32 v35 (fun (_ : Unit) =>
       (idx ((([] : List Int)) ++ p1.fHeld) p2.fIndex).bind fun _ =>
       j4 ((([] : List Int)) ++ p1.fBase, (([] : List Int)) ++ p1.fNext, ((([] : List Int)) ++ p1.fHeld).set (p2.fIndex).toNat v35)) N 0)))
    ((idx p1.fNext p2.fIndex).bind fun v55 =>
    cnd ((decide (v55 < 0)))
     (some ((ApiMix.mk (([] : List Int)) (([] : List Int)) (([] : List Int))), false))
     ((idx ((([] : List Int)) ++ p1.fNext) p2.fIndex).bind fun _ =>
     j4 ((([] : List Int)) ++ p1.fBase, ((([] : List Int)) ++ p1.fNext).set (p2.fIndex).toNat ((-1)), (([] : List Int)) ++ p1.fHeld)))))
def Sh.sheaveref37_Apply (N : Nat) (p0 : ApiProblem) (p1 : ApiMix) (p2 : ApiStep) : Option (ApiMix × Int) :=
 (Sh.sheaveref36_Valid N p0 p1).bind fun v1 =>
 cnd ((v1 != 0))
  (some ((ApiMix.mk (([] : List Int)) (([] : List Int)) (([] : List Int))), v1))
  ((Sh.sheaveref37_Valid N p2).bind fun v3 =>
  cnd ((!v3))
   (some ((ApiMix.mk (([] : List Int)) (([] : List Int)) (([] : List Int))), 1))
   (join (fun (v5 : Bool) =>
    cnd v5
     (some ((ApiMix.mk (([] : List Int)) (([] : List Int)) (([] : List Int))), 4))
     (join (fun (v11 : Bool) =>
      cnd v11
       (some ((ApiMix.mk (([] : List Int)) (([] : List Int)) (([] : List Int))), 4))
       ((Sh.sheaveref37_After N p0 p1 p2).bind fun v15 =>
       cnd ((!v15.2))
        (some ((ApiMix.mk (([] : List Int)) (([] : List Int)) (([] : List Int))), 11))
        (some (v15.1, 0))))
     fun j11 =>
     cnd ((p2.fKind == 1))
      ((idx p0.fVersions p2.fIndex).bind fun v13 =>
      j11 (decide (v13 ≤ p2.fVersion)))
      (j11 false)))
   fun j5 =>
   cnd ((p2.fKind == 3))
    (cnd ((decide ((p0.fTables.length : Int) ≤ p2.fIndex)))
     (j5 true)
     (cnd ((p2.fKind != 3))
      (j5 (decide ((p0.fVersions.length : Int) ≤ p2.fIndex)))
      (j5 false)))
    (cnd ((p2.fKind != 3))
     (j5 (decide ((p0.fVersions.length : Int) ≤ p2.fIndex)))
     (j5 false))))
def Sh.sheaveref36_copied (_ : Nat) (p0 : ApiMix) : Option ApiMix :=
 (chk ((([] : List Int)).length + p0.fBase.length ≤ lim)).bind fun _ =>
 (chk ((([] : List Int)).length + p0.fNext.length ≤ lim)).bind fun _ =>
 (chk ((([] : List Int)).length + p0.fHeld.length ≤ lim)).bind fun _ =>
 some ((ApiMix.mk ((([] : List Int)) ++ p0.fBase) ((([] : List Int)) ++ p0.fNext) ((([] : List Int)) ++ p0.fHeld)))
def Sh.sheaveref36_All_L1 (N : Nat) (p0 : ApiMix) (j1 : Int → Option ((List ApiMix))) : Nat → (Int × Int) → Option ((List ApiMix))
 | 0, _ => none
 | n1 + 1, v1 =>
  cnd ((decide (v1.2 < (p0.fNext.length : Int))))
   (join (fun (v4 : Int) =>
    Sh.sheaveref36_All_L1 N p0 j1 n1 (v4, (IntKind.wrap .i64 (v1.2 + 1))))
   fun j4 =>
   (idx p0.fNext v1.2).bind fun v5 =>
   cnd ((decide (0 ≤ v5)))
    (j4 (IntKind.wrap .i64 (v1.1 + 1)))
    (j4 v1.1))
   (j1 v1.1)
def Sh.sheaveref36_All_L12 (N : Nat) (p0 : ApiMix) (v7 : (List ApiMix) × Int) (j12 : ((List Int)) → Option ((List ApiMix))) : Nat → ((List Int) × Int × Int) → Option ((List ApiMix))
 | 0, _ => none
 | n12 + 1, v12 =>
  cnd ((decide (v12.2.2 < (p0.fNext.length : Int))))
   (join (fun (v15 : (List Int) × Int) =>
    Sh.sheaveref36_All_L12 N p0 v7 j12 n12 (v15.1, v15.2, (IntKind.wrap .i64 (v12.2.2 + 1))))
   fun j15 =>
   (idx p0.fNext v12.2.2).bind fun v16 =>
   cnd ((decide (v16 < 0)))
    (j15 (v12.1, v12.2.1))
    (join (fun (v18 : (List Int)) =>
     j15 (v18, (IntKind.wrap .i64 (v12.2.1 + 1))))
    fun j18 =>
    (chk (0 ≤ v12.2.1)).bind fun _ =>
    cnd (((Int.tmod ((shrI .i64 v7.2 v12.2.1)) 2) == 1))
     ((idx v12.1 v12.2.2).bind fun _ =>
     j18 (v12.1.set (v12.2.2).toNat ((-1))))
     (j18 v12.1)))
   (j12 v12.1)
def Sh.sheaveref36_All_L7 (N : Nat) (p0 : ApiMix) (v2 : Int) (j7 : ((List ApiMix)) → Option ((List ApiMix))) : Nat → ((List ApiMix) × Int) → Option ((List ApiMix))
 | 0, _ => none
 | n7 + 1, v7 =>
  (chk (0 ≤ v2)).bind fun _ =>
  cnd ((decide (v7.2 < (shlI .i64 1 v2))))
   ((Sh.sheaveref36_copied N p0).bind fun v11 =>
   Sh.sheaveref36_All_L12 N p0 v7 (fun (v13 : (List Int)) =>
    (chk (v7.1.length + (([(ApiMix.mk v11.fBase v13 v11.fHeld)] : List ApiMix)).length ≤ lim)).bind fun _ =>
    Sh.sheaveref36_All_L7 N p0 v2 j7 n7 (v7.1 ++ (([(ApiMix.mk v11.fBase v13 v11.fHeld)] : List ApiMix)), (IntKind.wrap .i64 (v7.2 + 1)))) N (v11.fNext, 0, 0))
   (j7 v7.1)
def Sh.sheaveref36_All (N : Nat) (p0 : ApiMix) : Option ((List ApiMix)) :=
 Sh.sheaveref36_All_L1 N p0 (fun (v2 : Int) =>
  Sh.sheaveref36_All_L7 N p0 v2 (fun (v8 : (List ApiMix)) =>
   some v8) N (([] : List ApiMix), 0)) N (0, 0)
def Sh.sheaveref36_Aborts (N : Nat) (p0 : ApiProblem) (p1 : ApiMix) : Option ((List ApiMix) × Int) :=
 (Sh.sheaveref36_Valid N p0 p1).bind fun v1 =>
 cnd ((v1 != 0))
  (some (([] : List ApiMix), v1))
  ((Sh.sheaveref36_All N p1).bind fun v3 =>
  some (v3, 0))
def Sh.sheaveref36_Found_L17 (N : Nat) (p0 : ApiProblem) (p1 : ApiMix) (v1 : (List ApiConflict) × Int) (v4 : ApiTable) (v10 : (List ApiConflict) × Int) (j17 : ((List ApiConflict) × Bool) → Option ((List ApiConflict))) : Nat → ((List ApiConflict) × Bool × Int) → Option ((List ApiConflict))
 | 0, _ => none
 | n17 + 1, v17 =>
  (idx p0.fVersions v4.fTo).bind fun v19 =>
  cnd ((decide (v17.2.2 < v19)))
   (join (fun (v21 : (List ApiConflict) × Bool) =>
    Sh.sheaveref36_Found_L17 N p0 p1 v1 v4 v10 j17 n17 (v21.1, v21.2, (IntKind.wrap .i64 (v17.2.2 + 1))))
   fun j21 =>
   (Sh.sheaveref36_Running N p1 v4.fTo).bind fun v22 =>
   (Sh.sheaveref36_Has N v22 v17.2.2).bind fun v23 =>
   cnd ((!v23))
    (j21 (v17.1, v17.2.1))
    (join (fun (v25 : Bool) =>
     join (fun (v29 : Bool) =>
      cnd v29
       ((chk (v17.1.length + (([(ApiConflict.mk v1.2 v10.2 v17.2.2)] : List ApiConflict)).length ≤ lim)).bind fun _ =>
       j21 (v17.1 ++ (([(ApiConflict.mk v1.2 v10.2 v17.2.2)] : List ApiConflict)), v25))
       (j21 (v17.1, v25)))
     fun j29 =>
     cnd ((!v4.fAware))
      ((idx v4.fOK v10.2).bind fun v31 =>
      (idx v31 v17.2.2).bind fun v32 =>
      j29 (!v32))
      (j29 false))
    fun j25 =>
    cnd v17.2.1
     (j25 true)
     ((idx v4.fOK v10.2).bind fun v27 =>
     (idx v27 v17.2.2).bind fun v28 =>
     j25 v28)))
   (j17 (v17.1, v17.2.1))
def Sh.sheaveref36_Found_L10 (N : Nat) (p0 : ApiProblem) (p1 : ApiMix) (v1 : (List ApiConflict) × Int) (v4 : ApiTable) (v6 : Int) (j10 : ((List ApiConflict)) → Option ((List ApiConflict))) : Nat → ((List ApiConflict) × Int) → Option ((List ApiConflict))
 | 0, _ => none
 | n10 + 1, v10 =>
  (idx p0.fVersions v4.fFrom).bind fun v12 =>
  cnd ((decide (v10.2 < v12)))
   (join (fun (v14 : (List ApiConflict)) =>
    Sh.sheaveref36_Found_L10 N p0 p1 v1 v4 v6 j10 n10 (v14, (IntKind.wrap .i64 (v10.2 + 1))))
   fun j14 =>
   (Sh.sheaveref36_Has N v6 v10.2).bind fun v15 =>
   cnd ((!v15))
    (j14 v10.1)
    (Sh.sheaveref36_Found_L17 N p0 p1 v1 v4 v10 (fun (v18 : (List ApiConflict) × Bool) =>
     join (fun (v35 : Bool) =>
      cnd v35
       ((chk (v18.1.length + (([(ApiConflict.mk v1.2 v10.2 ((-1)))] : List ApiConflict)).length ≤ lim)).bind fun _ =>
       j14 (v18.1 ++ (([(ApiConflict.mk v1.2 v10.2 ((-1)))] : List ApiConflict))))
       (j14 v18.1))
     fun j35 =>
     cnd v4.fAware
      (j35 (!v18.2))
      (j35 false)) N (v10.1, false, 0)))
   (j10 v10.1)
def Sh.sheaveref36_Found_L1 (N : Nat) (p0 : ApiProblem) (p1 : ApiMix) (j1 : ((List ApiConflict)) → Option ((List ApiConflict))) : Nat → ((List ApiConflict) × Int) → Option ((List ApiConflict))
 | 0, _ => none
 | n1 + 1, v1 =>
  cnd ((decide (v1.2 < (p0.fTables.length : Int))))
   ((idx p0.fTables v1.2).bind fun v4 =>
   (Sh.sheaveref36_Running N p1 v4.fFrom).bind fun v5 =>
   join (fun (v6 : Int) =>
    Sh.sheaveref36_Found_L10 N p0 p1 v1 v4 v6 (fun (v11 : (List ApiConflict)) =>
     Sh.sheaveref36_Found_L1 N p0 p1 j1 n1 (v11, (IntKind.wrap .i64 (v1.2 + 1)))) N (v1.1, 0))
   fun j6 =>
   (Sh.sheaveref35_Stored N v4).bind fun v7 =>
   cnd v7
    ((idx p1.fHeld v1.2).bind fun v9 =>
    j6 v9)
    (j6 v5))
   (j1 v1.1)
def Sh.sheaveref36_Found (N : Nat) (p0 : ApiProblem) (p1 : ApiMix) : Option ((List ApiConflict)) :=
 Sh.sheaveref36_Found_L1 N p0 p1 (fun (v2 : (List ApiConflict)) =>
  some v2) N (([] : List ApiConflict), 0)
def Sh.sheaveref36_Blame_L3 (N : Nat) (p0 : ApiProblem) (v1 : (List ApiMix) × Int) (j3 : Unit → Option (ApiMix × ApiConflict × Int)) : Nat → Int → Option (ApiMix × ApiConflict × Int)
 | 0, _ => none
 | n3 + 1, v3 =>
  cnd ((decide (v3 < (v1.1.length : Int))))
   ((idx v1.1 v3).bind fun v6 =>
   (Sh.sheaveref36_Found N p0 v6).bind fun v7 =>
   cnd ((decide (0 < (v7.length : Int))))
    ((idx v1.1 v3).bind fun v9 =>
    (idx v7 0).bind fun v10 =>
    some (v9, v10, 0))
    (Sh.sheaveref36_Blame_L3 N p0 v1 j3 n3 (IntKind.wrap .i64 (v3 + 1))))
   (j3 ())
def Sh.sheaveref36_Blame (N : Nat) (p0 : ApiProblem) (p1 : ApiMix) : Option (ApiMix × ApiConflict × Int) :=
 (Sh.sheaveref36_Aborts N p0 p1).bind fun v1 =>
 cnd ((v1.2 != 0))
  (some ((ApiMix.mk (([] : List Int)) (([] : List Int)) (([] : List Int))), (ApiConflict.mk 0 0 0), v1.2))
  (Sh.sheaveref36_Blame_L3 N p0 v1 (fun (_ : Unit) =>
   some ((ApiMix.mk (([] : List Int)) (([] : List Int)) (([] : List Int))), (ApiConflict.mk 0 0 0), 15)) N 0)
def Sh.sheaveref36_Goal_L3 (N : Nat) (p0 : ApiProblem) (p1 : ApiMix) (j3 : Unit → Option Bool) : Nat → Int → Option Bool
 | 0, _ => none
 | n3 + 1, v3 =>
  cnd ((decide (v3 < (p1.fBase.length : Int))))
   (join (fun (v6 : Bool) =>
    cnd v6
     (some false)
     (Sh.sheaveref36_Goal_L3 N p0 p1 j3 n3 (IntKind.wrap .i64 (v3 + 1))))
   fun j6 =>
   (idx p1.fNext v3).bind fun v7 =>
   cnd ((decide (0 ≤ v7)))
    (j6 true)
    ((idx p1.fBase v3).bind fun v9 =>
    (idx p0.fTarget v3).bind fun v10 =>
    j6 (v9 != v10)))
   (j3 ())
def Sh.sheaveref36_Goal (N : Nat) (p0 : ApiProblem) (p1 : ApiMix) : Option Bool :=
 (Sh.sheaveref36_Valid N p0 p1).bind fun v1 =>
 cnd ((v1 != 0))
  (some false)
  (Sh.sheaveref36_Goal_L3 N p0 p1 (fun (_ : Unit) =>
   some true) N 0)
def Sh.sheaveref39_Failure_L3 (N : Nat) (p0 : ApiProblem) (p1 : List ApiStep) (j3 : ApiMix → Option (Int × ApiMix × ApiConflict × Int)) : Nat → ((List Int) × (List Int) × (List Int) × Int) → Option (Int × ApiMix × ApiConflict × Int)
 | 0, _ => none
 | n3 + 1, v3 =>
  cnd ((decide (v3.2.2.2 < (p1.length : Int))))
   (join (fun (v6 : (List Int) × (List Int) × (List Int)) =>
    (Sh.sheaveref36_Blame N p0 ((ApiMix.mk v6.1 v6.2.1 v6.2.2))).bind fun v14 =>
    cnd ((v14.2.2 == 0))
     (some (v3.2.2.2, v14.1, v14.2.1, 0))
     (Sh.sheaveref39_Failure_L3 N p0 p1 j3 n3 (v6.1, v6.2.1, v6.2.2, (IntKind.wrap .i64 (v3.2.2.2 + 1)))))
   fun j6 =>
   cnd ((decide (0 ≤ v3.2.2.2)))
    ((idx p1 v3.2.2.2).bind fun v8 =>
    (Sh.sheaveref37_Apply N p0 ((ApiMix.mk v3.1 v3.2.1 v3.2.2.1)) v8).bind fun v9 =>
    join (fun (v10 : Bool) =>
     cnd v10
      (some (v3.2.2.2, (ApiMix.mk (([] : List Int)) (([] : List Int)) (([] : List Int))), (ApiConflict.mk 0 0 0), 0))
      (j6 (v9.1.fBase, v9.1.fNext, v9.1.fHeld)))
    fun j10 =>
    cnd ((v9.2 != 0))
     (j10 true)
     ((idx p1 v3.2.2.2).bind fun v12 =>
     j10 (v12.fKind == 4)))
    (j6 (v3.1, v3.2.1, v3.2.2.1)))
   (j3 (ApiMix.mk v3.1 v3.2.1 v3.2.2.1))
def Sh.sheaveref39_Failure (N : Nat) (p0 : ApiProblem) (p1 : List ApiStep) : Option (Int × ApiMix × ApiConflict × Int) :=
 (Sh.sheaveref36_Start N p0).bind fun v1 =>
 cnd ((v1.2 != 0))
  (some (0, (ApiMix.mk (([] : List Int)) (([] : List Int)) (([] : List Int))), (ApiConflict.mk 0 0 0), v1.2))
  (Sh.sheaveref39_Failure_L3 N p0 p1 (fun (v4 : ApiMix) =>
   (Sh.sheaveref36_Goal N p0 v4).bind fun v16 =>
   cnd ((!v16))
    (some ((p1.length : Int), (ApiMix.mk (([] : List Int)) (([] : List Int)) (([] : List Int))), (ApiConflict.mk 0 0 0), 14))
    (some (0, (ApiMix.mk (([] : List Int)) (([] : List Int)) (([] : List Int))), (ApiConflict.mk 0 0 0), 15))) N (v1.1.fBase, v1.1.fNext, v1.1.fHeld, (-1)))
def Sh.sheaveref36_ints_L1 (N : Nat) (p0 : List Int) (p1 : List Int) (j1 : Unit → Option Int) : Nat → Int → Option Int
 | 0, _ => none
 | n1 + 1, v1 =>
  join (fun (v3 : Bool) =>
   cnd v3
    ((idx p0 v1).bind fun v6 =>
    (idx p1 v1).bind fun v7 =>
    cnd ((decide (v6 < v7)))
     (some ((-1)))
     ((idx p0 v1).bind fun v9 =>
     (idx p1 v1).bind fun v10 =>
     cnd ((decide (v10 < v9)))
      (some 1)
      (Sh.sheaveref36_ints_L1 N p0 p1 j1 n1 (IntKind.wrap .i64 (v1 + 1)))))
    (j1 ()))
  fun j3 =>
  cnd ((decide (v1 < (p0.length : Int))))
   (j3 (decide (v1 < (p1.length : Int))))
   (j3 false)
def Sh.sheaveref36_ints (N : Nat) (p0 : List Int) (p1 : List Int) : Option Int :=
 Sh.sheaveref36_ints_L1 N p0 p1 (fun (_ : Unit) =>
  cnd ((decide ((p0.length : Int) < (p1.length : Int))))
   (some ((-1)))
   (cnd ((decide ((p1.length : Int) < (p0.length : Int))))
    (some 1)
    (some 0))) N 0
def Sh.sheaveref36_numbers_L1 (N : Nat) (p0 : List Int) (j1 : ((List Int)) → Option ((List Int))) : Nat → ((List Int) × Int) → Option ((List Int))
 | 0, _ => none
 | n1 + 1, v1 =>
  cnd ((decide (v1.2 < (p0.length : Int))))
   ((idx p0 v1.2).bind fun v4 =>
   (chk (v1.1.length + (([(IntKind.wrap .i64 v4)] : List Int)).length ≤ lim)).bind fun _ =>
   Sh.sheaveref36_numbers_L1 N p0 j1 n1 (v1.1 ++ (([(IntKind.wrap .i64 v4)] : List Int)), (IntKind.wrap .i64 (v1.2 + 1))))
   (j1 v1.1)
def Sh.sheaveref36_numbers (N : Nat) (p0 : List Int) : Option ((List Int)) :=
 Sh.sheaveref36_numbers_L1 N p0 (fun (v2 : (List Int)) =>
  some v2) N (([] : List Int), 0)
def Sh.sheaveref36_Compare (N : Nat) (p0 : ApiMix) (p1 : ApiMix) : Option Int :=
 (Sh.sheaveref36_ints N p0.fBase p1.fBase).bind fun v1 =>
 cnd ((v1 != 0))
  (some v1)
  ((Sh.sheaveref36_ints N p0.fNext p1.fNext).bind fun v3 =>
  cnd ((v3 != 0))
   (some v3)
   ((Sh.sheaveref36_numbers N p0.fHeld).bind fun v5 =>
   (Sh.sheaveref36_numbers N p1.fHeld).bind fun v6 =>
   (Sh.sheaveref36_ints N v5 v6).bind fun v7 =>
   some v7))
def Sh.sheaveref36_Equal (N : Nat) (p0 : ApiMix) (p1 : ApiMix) : Option Bool :=
 (Sh.sheaveref36_Compare N p0 p1).bind fun v1 =>
 some ((v1 == 0))
def Sh.sheavelaw39_PlanFailure (N : Nat) (p0 : ApiProblem) (p1 : List ApiStep) : Option Bool :=
 join (fun (v1 : Bool) =>
  cnd v1
   ((Sh.sheavelaw39_awake N).bind fun v7 =>
   some v7)
   ((Sh.plan_Failure N p0 p1).bind fun v8 =>
   (Sh.sheaveref39_Failure N p0 p1).bind fun v9 =>
   join (fun (v10 : Bool) =>
    some v10)
   fun j10 =>
   cnd ((v8.1 == v9.1))
    ((Sh.sheaveref36_Equal N v8.2.1 v9.2.1).bind fun v12 =>
    cnd v12
     (cnd (((v8.2.2.1.fTable == v9.2.2.1.fTable) && ((v8.2.2.1.fWriter == v9.2.2.1.fWriter) && ((v8.2.2.1.fReader == v9.2.2.1.fReader) && true))))
      (cnd ((v8.2.2.2 == v9.2.2.2))
       ((Sh.plan_Check N p0 p1).bind fun v16 =>
       j10 ((v8.2.2.2 == 15) == v16))
       (j10 false))
      (j10 false))
     (j10 false))
    (j10 false)))
 fun j1 =>
 (Sh.sheavelaw39_awake N).bind fun v2 =>
 cnd ((!v2))
  (j1 true)
  ((Sh.sheaveref35_Few N p0).bind fun v4 =>
  cnd ((!v4))
   (j1 true)
   (j1 (decide (30 < (p1.length : Int)))))
def wSl {α : Type} (w : α → Prop) (xs : List α) : Prop := ∀ x, x ∈ xs → w x
def wI64 (n : Int) : Prop := (Lit.int .i64 n).wf = true
def wU8 (n : Int) : Prop := (Lit.int .u8 n).wf = true
def wApiTable (x : ApiTable) : Prop := wI64 x.fKind ∧ wI64 x.fFrom ∧ wI64 x.fTo ∧ (fun _ => True) x.fAware ∧ (wSl (wSl (fun _ => True))) x.fOK ∧ (wSl (wSl (fun _ => True))) x.fRewrite ∧ True
def wApiProblem (x : ApiProblem) : Prop := (wSl wI64) x.fVersions ∧ (wSl wI64) x.fNow ∧ (wSl wI64) x.fTarget ∧ (wSl wApiTable) x.fTables ∧ True
def wApiStep (x : ApiStep) : Prop := wI64 x.fKind ∧ wI64 x.fIndex ∧ wI64 x.fVersion ∧ True
end Go.Lift

/- That the code does what the shallow programs do, function by function. Written by a program (gen.py). -/
namespace Go.Lift
open Go.RowKit
open Go.Proofs
theorem mixed : Try.prog.follows .mixedOrders = true := by kernel_rfl
theorem ag101 : aggB Try.prog 101 true = true := by kernel_rfl
theorem ag27 : aggB Try.prog 27 false = true := by kernel_rfl
theorem ag28 : aggB Try.prog 28 false = true := by kernel_rfl
theorem ag3 : aggB Try.prog 3 false = true := by kernel_rfl
theorem ag30 : aggB Try.prog 30 true = true := by kernel_rfl
theorem ag4 : aggB Try.prog 4 false = true := by kernel_rfl
theorem ag41 : aggB Try.prog 41 false = true := by kernel_rfl
theorem ag43 : aggB Try.prog 43 true = true := by kernel_rfl
theorem ag45 : aggB Try.prog 45 true = true := by kernel_rfl
theorem ag63 : aggB Try.prog 63 true = true := by kernel_rfl
theorem ag73 : aggB Try.prog 73 false = true := by kernel_rfl
theorem ag75 : aggB Try.prog 75 true = true := by kernel_rfl
theorem ag76 : aggB Try.prog 76 false = true := by kernel_rfl
theorem ag87 : aggB Try.prog 87 false = true := by kernel_rfl
theorem bo4 : boolB Try.prog 4 = true := by kernel_rfl
theorem bsl22 : bytesSl Try.prog 22 = true := by kernel_rfl
theorem byt101 : bytesB Try.prog 101 128 = true := by kernel_rfl
theorem byt3 : bytesB Try.prog 3 8 = true := by kernel_rfl
theorem byt43 : bytesB Try.prog 43 72 = true := by kernel_rfl
theorem byt45 : bytesB Try.prog 45 24 = true := by kernel_rfl
theorem byt5 : bytesB Try.prog 5 1 = true := by kernel_rfl
theorem byt63 : bytesB Try.prog 63 24 = true := by kernel_rfl
theorem byt87 : bytesB Try.prog 87 1 = true := by kernel_rfl
theorem fld101_0 : fieldB Try.prog 101 0 0 = true := by kernel_rfl
theorem fld101_1 : fieldB Try.prog 101 1 3 = true := by kernel_rfl
theorem fld101_2 : fieldB Try.prog 101 2 4 = true := by kernel_rfl
theorem fld101_3 : fieldB Try.prog 101 3 7 = true := by kernel_rfl
theorem fld30_0 : fieldB Try.prog 30 0 0 = true := by kernel_rfl
theorem fld30_1 : fieldB Try.prog 30 1 1 = true := by kernel_rfl
theorem fld30_2 : fieldB Try.prog 30 2 2 = true := by kernel_rfl
theorem fld30_3 : fieldB Try.prog 30 3 3 = true := by kernel_rfl
theorem fld43_0 : fieldB Try.prog 43 0 0 = true := by kernel_rfl
theorem fld43_1 : fieldB Try.prog 43 1 1 = true := by kernel_rfl
theorem fld43_2 : fieldB Try.prog 43 2 2 = true := by kernel_rfl
theorem fld63_0 : fieldB Try.prog 63 0 0 = true := by kernel_rfl
theorem fld63_1 : fieldB Try.prog 63 1 1 = true := by kernel_rfl
theorem fld63_2 : fieldB Try.prog 63 2 2 = true := by kernel_rfl
theorem fld75_0 : fieldB Try.prog 75 0 0 = true := by kernel_rfl
theorem fld75_1 : fieldB Try.prog 75 1 1 = true := by kernel_rfl
theorem fld75_2 : fieldB Try.prog 75 2 2 = true := by kernel_rfl
theorem fld75_3 : fieldB Try.prog 75 3 3 = true := by kernel_rfl
theorem fld75_4 : fieldB Try.prog 75 4 4 = true := by kernel_rfl
theorem fld75_5 : fieldB Try.prog 75 5 5 = true := by kernel_rfl
theorem gd100 : goodFn Try.prog 100 = true := by kernel_rfl
theorem gd101 : goodFn Try.prog 101 = true := by kernel_rfl
theorem gd102 : goodFn Try.prog 102 = true := by kernel_rfl
theorem gd103 : goodFn Try.prog 103 = true := by kernel_rfl
theorem gd104 : goodFn Try.prog 104 = true := by kernel_rfl
theorem gd105 : goodFn Try.prog 105 = true := by kernel_rfl
theorem gd106 : goodFn Try.prog 106 = true := by kernel_rfl
theorem gd107 : goodFn Try.prog 107 = true := by kernel_rfl
theorem gd11 : goodFn Try.prog 11 = true := by kernel_rfl
theorem gd110 : goodFn Try.prog 110 = true := by kernel_rfl
theorem gd111 : goodFn Try.prog 111 = true := by kernel_rfl
theorem gd112 : goodFn Try.prog 112 = true := by kernel_rfl
theorem gd113 : goodFn Try.prog 113 = true := by kernel_rfl
theorem gd114 : goodFn Try.prog 114 = true := by kernel_rfl
theorem gd115 : goodFn Try.prog 115 = true := by kernel_rfl
theorem gd116 : goodFn Try.prog 116 = true := by kernel_rfl
theorem gd119 : goodFn Try.prog 119 = true := by kernel_rfl
theorem gd120 : goodFn Try.prog 120 = true := by kernel_rfl
theorem gd121 : goodFn Try.prog 121 = true := by kernel_rfl
theorem gd122 : goodFn Try.prog 122 = true := by kernel_rfl
theorem gd123 : goodFn Try.prog 123 = true := by kernel_rfl
theorem gd13 : goodFn Try.prog 13 = true := by kernel_rfl
theorem gd15 : goodFn Try.prog 15 = true := by kernel_rfl
theorem gd16 : goodFn Try.prog 16 = true := by kernel_rfl
theorem gd17 : goodFn Try.prog 17 = true := by kernel_rfl
theorem gd19 : goodFn Try.prog 19 = true := by kernel_rfl
theorem gd20 : goodFn Try.prog 20 = true := by kernel_rfl
theorem gd21 : goodFn Try.prog 21 = true := by kernel_rfl
theorem gd24 : goodFn Try.prog 24 = true := by kernel_rfl
theorem gd27 : goodFn Try.prog 27 = true := by kernel_rfl
theorem gd29 : goodFn Try.prog 29 = true := by kernel_rfl
theorem gd30 : goodFn Try.prog 30 = true := by kernel_rfl
theorem gd33 : goodFn Try.prog 33 = true := by kernel_rfl
theorem gd35 : goodFn Try.prog 35 = true := by kernel_rfl
theorem gd37 : goodFn Try.prog 37 = true := by kernel_rfl
theorem gd38 : goodFn Try.prog 38 = true := by kernel_rfl
theorem gd39 : goodFn Try.prog 39 = true := by kernel_rfl
theorem gd40 : goodFn Try.prog 40 = true := by kernel_rfl
theorem gd41 : goodFn Try.prog 41 = true := by kernel_rfl
theorem gd42 : goodFn Try.prog 42 = true := by kernel_rfl
theorem gd43 : goodFn Try.prog 43 = true := by kernel_rfl
theorem gd44 : goodFn Try.prog 44 = true := by kernel_rfl
theorem gd46 : goodFn Try.prog 46 = true := by kernel_rfl
theorem gd49 : goodFn Try.prog 49 = true := by kernel_rfl
theorem gd50 : goodFn Try.prog 50 = true := by kernel_rfl
theorem gd54 : goodFn Try.prog 54 = true := by kernel_rfl
theorem gd55 : goodFn Try.prog 55 = true := by kernel_rfl
theorem gd56 : goodFn Try.prog 56 = true := by kernel_rfl
theorem gd57 : goodFn Try.prog 57 = true := by kernel_rfl
theorem gd58 : goodFn Try.prog 58 = true := by kernel_rfl
theorem gd60 : goodFn Try.prog 60 = true := by kernel_rfl
theorem gd61 : goodFn Try.prog 61 = true := by kernel_rfl
theorem gd64 : goodFn Try.prog 64 = true := by kernel_rfl
theorem gd65 : goodFn Try.prog 65 = true := by kernel_rfl
theorem gd66 : goodFn Try.prog 66 = true := by kernel_rfl
theorem gd72 : goodFn Try.prog 72 = true := by kernel_rfl
theorem gd73 : goodFn Try.prog 73 = true := by kernel_rfl
theorem gd74 : goodFn Try.prog 74 = true := by kernel_rfl
theorem gd75 : goodFn Try.prog 75 = true := by kernel_rfl
theorem gd76 : goodFn Try.prog 76 = true := by kernel_rfl
theorem gd77 : goodFn Try.prog 77 = true := by kernel_rfl
theorem gd78 : goodFn Try.prog 78 = true := by kernel_rfl
theorem gd79 : goodFn Try.prog 79 = true := by kernel_rfl
theorem gd80 : goodFn Try.prog 80 = true := by kernel_rfl
theorem gd81 : goodFn Try.prog 81 = true := by kernel_rfl
theorem gd82 : goodFn Try.prog 82 = true := by kernel_rfl
theorem gd83 : goodFn Try.prog 83 = true := by kernel_rfl
theorem gd84 : goodFn Try.prog 84 = true := by kernel_rfl
theorem gd85 : goodFn Try.prog 85 = true := by kernel_rfl
theorem gd86 : goodFn Try.prog 86 = true := by kernel_rfl
theorem gd87 : goodFn Try.prog 87 = true := by kernel_rfl
theorem gd88 : goodFn Try.prog 88 = true := by kernel_rfl
theorem gd89 : goodFn Try.prog 89 = true := by kernel_rfl
theorem gd90 : goodFn Try.prog 90 = true := by kernel_rfl
theorem gd91 : goodFn Try.prog 91 = true := by kernel_rfl
theorem gd92 : goodFn Try.prog 92 = true := by kernel_rfl
theorem gd93 : goodFn Try.prog 93 = true := by kernel_rfl
theorem gd97 : goodFn Try.prog 97 = true := by kernel_rfl
theorem gd98 : goodFn Try.prog 98 = true := by kernel_rfl
theorem gd99 : goodFn Try.prog 99 = true := by kernel_rfl
theorem in133 : intB Try.prog 133 .u64 = true := by kernel_rfl
theorem in143 : intB Try.prog 143 .u32 = true := by kernel_rfl
theorem in146 : intB Try.prog 146 .u64 = true := by kernel_rfl
theorem in3 : intB Try.prog 3 .i64 = true := by kernel_rfl
theorem in5 : intB Try.prog 5 .u8 = true := by kernel_rfl
theorem kst9 : Try.prog.underlying 9 = some .string := by kernel_rfl
theorem mpt125 : Try.prog.underlying 125 = some (.map 9 3) := by kernel_rfl
theorem pl101 : placesB Try.prog 101 = some [(0, 3), (3, 1), (4, 3), (7, 1)] := by kernel_rfl
theorem pl30 : placesB Try.prog 30 = some [(0, 1), (1, 1), (2, 1), (3, 1)] := by kernel_rfl
theorem pl43 : placesB Try.prog 43 = some [(0, 1), (1, 1), (2, 1)] := by kernel_rfl
theorem pl45 : placesB Try.prog 45 = some [(0, 1), (1, 1), (2, 1)] := by kernel_rfl
theorem pl63 : placesB Try.prog 63 = some [(0, 1), (1, 1), (2, 1)] := by kernel_rfl
theorem pl75 : placesB Try.prog 75 = some [(0, 1), (1, 1), (2, 1), (3, 1), (4, 1), (5, 1)] := by kernel_rfl
theorem seq45 : seqB Try.prog 45 = some [0, 0, 0] := by kernel_rfl
theorem seq63 : seqB Try.prog 63 = some [0, 0, 0] := by kernel_rfl
theorem slc118 : sliceB Try.prog 118 45 = true := by kernel_rfl
theorem slc22 : sliceB Try.prog 22 5 = true := by kernel_rfl
theorem slc27 : sliceB Try.prog 27 3 = true := by kernel_rfl
theorem slc28 : sliceB Try.prog 28 75 = true := by kernel_rfl
theorem slc33 : sliceB Try.prog 33 63 = true := by kernel_rfl
theorem slc41 : sliceB Try.prog 41 87 = true := by kernel_rfl
theorem slc73 : sliceB Try.prog 73 76 = true := by kernel_rfl
theorem slc76 : sliceB Try.prog 76 4 = true := by kernel_rfl
theorem slc89 : sliceB Try.prog 89 43 = true := by kernel_rfl
theorem slc96 : sliceB Try.prog 96 101 = true := by kernel_rfl
theorem so133 : (Try.prog.underlying 133).isSome = true := by kernel_rfl
theorem so143 : (Try.prog.underlying 143).isSome = true := by kernel_rfl
theorem so146 : (Try.prog.underlying 146).isSome = true := by kernel_rfl
theorem so3 : (Try.prog.underlying 3).isSome = true := by kernel_rfl
theorem so5 : (Try.prog.underlying 5).isSome = true := by kernel_rfl
theorem so87 : (Try.prog.underlying 87).isSome = true := by kernel_rfl
theorem str9 : strB' Try.prog 9 = true := by kernel_rfl
theorem sz101 : szB Try.prog 101 8 = true := by kernel_rfl
theorem sz27 : szB Try.prog 27 1 = true := by kernel_rfl
theorem sz3 : szB Try.prog 3 1 = true := by kernel_rfl
theorem sz30 : szB Try.prog 30 4 = true := by kernel_rfl
theorem sz4 : szB Try.prog 4 1 = true := by kernel_rfl
theorem sz41 : szB Try.prog 41 1 = true := by kernel_rfl
theorem sz43 : szB Try.prog 43 3 = true := by kernel_rfl
theorem sz45 : szB Try.prog 45 3 = true := by kernel_rfl
theorem sz5 : szB Try.prog 5 1 = true := by kernel_rfl
theorem sz63 : szB Try.prog 63 3 = true := by kernel_rfl
theorem sz75 : szB Try.prog 75 6 = true := by kernel_rfl
theorem sz76 : szB Try.prog 76 1 = true := by kernel_rfl
theorem sz87 : szB Try.prog 87 1 = true := by kernel_rfl
theorem zv101 : zeroB Try.prog 101 = some (.agg #[.slice none 0 0, .slice none 0 0, .slice none 0 0, .int .i64 0, .int .i64 0, .int .i64 0, .int .i64 0, .slice none 0 0]) := by kernel_rfl
theorem zv3 : zeroB Try.prog 3 = some (.int .i64 0) := by kernel_rfl
theorem zv30 : zeroB Try.prog 30 = some (.agg #[.slice none 0 0, .slice none 0 0, .slice none 0 0, .slice none 0 0]) := by kernel_rfl
theorem zv4 : zeroB Try.prog 4 = some (.bool false) := by kernel_rfl
theorem zv43 : zeroB Try.prog 43 = some (.agg #[.slice none 0 0, .slice none 0 0, .slice none 0 0]) := by kernel_rfl
theorem zv45 : zeroB Try.prog 45 = some (.agg #[.int .i64 0, .int .i64 0, .int .i64 0]) := by kernel_rfl
theorem zv5 : zeroB Try.prog 5 = some (.int .u8 0) := by kernel_rfl
theorem zv63 : zeroB Try.prog 63 = some (.agg #[.int .i64 0, .int .i64 0, .int .i64 0]) := by kernel_rfl
theorem zv75 : zeroB Try.prog 75 = some (.agg #[.int .i64 0, .int .i64 0, .int .i64 0, .bool false, .slice none 0 0, .slice none 0 0]) := by kernel_rfl
theorem zv76 : zeroB Try.prog 76 = some (.slice none 0 0) := by kernel_rfl
theorem zv87 : zeroB Try.prog 87 = some (.int .u8 0) := by kernel_rfl
end Go.Lift

