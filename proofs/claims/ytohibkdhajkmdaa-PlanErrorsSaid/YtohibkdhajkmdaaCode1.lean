/- Lemmas for PlanErrorsSaid, which YtohibkdhajkmdaaFinP10 proves. -/
import Derived.Test.YtohibkdhajkmdaaTypes
import Derived.Test.YtohibkdhajkmdaaProg
import Derived.KernelRfl
/- The shallow programs. Written by a program (gen.py) out of the code. -/
namespace Go.Lift
def Sh.sheaveref35_Stored (N : Nat) (p0 : ApiTable) : Option Bool :=
  join (fun (v1 : Bool) =>
    some v1)
  fun j1 =>
  cnd ((p0.fKind == 3))
    (j1 true)
    (j1 (p0.fKind == 4))
def Sh.sheaveref35_square_L2 (N : Nat) (p0 : List (List Bool)) (p1 : Int) (p2 : Int) (j2 : Unit → Option Bool) : Nat → Int → Option Bool
  | 0, _ => none
  | n2 + 1, v2 =>
    cnd ((decide (v2 < p1)))
      ((idx p0 v2).bind fun v5 =>
      cnd (((v5.length : Int) != p2))
        (some false)
        (Sh.sheaveref35_square_L2 N p0 p1 p2 j2 n2 (IntKind.wrap .i64 (v2 + 1))))
      (j2 ())
def Sh.sheaveref35_square (N : Nat) (p0 : List (List Bool)) (p1 : Int) (p2 : Int) : Option Bool :=
  cnd (((p0.length : Int) != p1))
    (some false)
    (Sh.sheaveref35_square_L2 N p0 p1 p2 (fun (v3 : Unit) =>
      some true) N 0)
def Sh.sheaveref35_table_L22 (N : Nat) (p1 : ApiTable) (j22 : Unit → Option Int) : Nat → Int → Option Int
  | 0, _ => none
  | n22 + 1, v22 =>
    cnd ((decide (v22 < (p1.fRewrite.length : Int))))
      ((idx p1.fRewrite v22).bind fun v25 =>
      (idx v25 v22).bind fun v26 =>
      cnd ((!v26))
        (some 1)
        (Sh.sheaveref35_table_L22 N p1 j22 n22 (IntKind.wrap .i64 (v22 + 1))))
      (j22 ())
def Sh.sheaveref35_table (N : Nat) (p0 : ApiProblem) (p1 : ApiTable) : Option Int :=
  join (fun (v1 : Bool) =>
    cnd v1
      (some 1)
      (join (fun (v7 : Bool) =>
        cnd v7
          (some 4)
          ((idx p0.fVersions p1.fFrom).bind fun v12 =>
          (idx p0.fVersions p1.fTo).bind fun v13 =>
          (Sh.sheaveref35_square N p1.fOK v12 v13).bind fun v14 =>
          cnd ((!v14))
            (some 6)
            (cnd ((p1.fKind != 4))
              (cnd (((p1.fRewrite.length : Int) != 0))
                (some 6)
                (some 0))
              ((idx p0.fVersions p1.fFrom).bind fun v18 =>
              (idx p0.fVersions p1.fFrom).bind fun v19 =>
              (Sh.sheaveref35_square N p1.fRewrite v18 v19).bind fun v20 =>
              cnd ((!v20))
                (some 6)
                (Sh.sheaveref35_table_L22 N p1 (fun (v23 : Unit) =>
                  some 0) N 0)))))
      fun j7 =>
      cnd ((decide (p1.fFrom < 0)))
        (j7 true)
        (cnd ((decide ((p0.fVersions.length : Int) ≤ p1.fFrom)))
          (j7 true)
          (cnd ((decide (p1.fTo < 0)))
            (j7 true)
            (j7 (decide ((p0.fVersions.length : Int) ≤ p1.fTo)))))))
  fun j1 =>
  cnd ((decide (p1.fKind < 1)))
    (j1 true)
    (cnd ((decide (4 < p1.fKind)))
      (j1 true)
      (cnd p1.fAware
        ((Sh.sheaveref35_Stored N p1).bind fun v5 =>
        j1 v5)
        (j1 false)))
def Sh.sheaveref35_ValidProblem_L7 (N : Nat) (p0 : ApiProblem) (j7 : Unit → Option Int) : Nat → Int → Option Int
  | 0, _ => none
  | n7 + 1, v7 =>
    cnd ((decide (v7 < (p0.fVersions.length : Int))))
      ((idx p0.fVersions v7).bind fun v10 =>
      join (fun (v11 : Bool) =>
        cnd v11
          (some 7)
          (Sh.sheaveref35_ValidProblem_L7 N p0 j7 n7 (IntKind.wrap .i64 (v7 + 1))))
      fun j11 =>
      cnd ((decide (v10 < 1)))
        (j11 true)
        (cnd ((decide (6 < v10)))
          (j11 true)
          ((idx p0.fNow v7).bind fun v14 =>
          cnd ((decide (v14 < 0)))
            (j11 true)
            ((idx p0.fNow v7).bind fun v16 =>
            cnd ((decide (v10 ≤ v16)))
              (j11 true)
              ((idx p0.fTarget v7).bind fun v18 =>
              cnd ((decide (v18 < 0)))
                (j11 true)
                ((idx p0.fTarget v7).bind fun v20 =>
                j11 (decide (v10 ≤ v20))))))))
      (j7 ())
def Sh.sheaveref35_ValidProblem_L22 (N : Nat) (p0 : ApiProblem) (j22 : Unit → Option Int) : Nat → Int → Option Int
  | 0, _ => none
  | n22 + 1, v22 =>
    cnd ((decide (v22 < (p0.fTables.length : Int))))
      ((idx p0.fTables v22).bind fun v25 =>
      (Sh.sheaveref35_table N p0 v25).bind fun v26 =>
      cnd ((v26 != 0))
        (some v26)
        (Sh.sheaveref35_ValidProblem_L22 N p0 j22 n22 (IntKind.wrap .i64 (v22 + 1))))
      (j22 ())
def Sh.sheaveref35_ValidProblem (N : Nat) (p0 : ApiProblem) : Option Int :=
  join (fun (v1 : Bool) =>
    cnd v1
      (some 3)
      (join (fun (v4 : Bool) =>
        cnd v4
          (some 6)
          (Sh.sheaveref35_ValidProblem_L7 N p0 (fun (v8 : Unit) =>
            Sh.sheaveref35_ValidProblem_L22 N p0 (fun (v23 : Unit) =>
              some 0) N 0) N 0))
      fun j4 =>
      cnd (((p0.fNow.length : Int) != (p0.fVersions.length : Int)))
        (j4 true)
        (j4 ((p0.fTarget.length : Int) != (p0.fVersions.length : Int)))))
  fun j1 =>
  cnd ((decide (6 < (p0.fVersions.length : Int))))
    (j1 true)
    (j1 (decide (12 < (p0.fTables.length : Int))))
def Sh.sheavelaw39_example (N : Nat) (p0 : Bool) (p1 : Bool) : Option ApiProblem :=
  some ((ApiProblem.mk (([2, 2] : List Int)) (([0, 0] : List Int)) (([1, 1] : List Int)) (([(ApiTable.mk 1 0 1 p1 (([([true, (!p0)] : List Bool), ([false, true] : List Bool)] : List (List Bool))) (([] : List (List Bool))))] : List ApiTable))))
def Sh.fleet_within (N : Nat) (p0 : Int) (p1 : Int) : Option Bool :=
  join (fun (v1 : Bool) =>
    some v1)
  fun j1 =>
  cnd ((decide (0 ≤ p0)))
    (j1 (decide (p0 < p1)))
    (j1 false)
def Sh.fleet_kind (N : Nat) (p0 : Int) (p1 : Bool) : Option Bool :=
  join (fun (v1 : Bool) =>
    some v1)
  fun j1 =>
  cnd ((p0 == 1))
    (j1 true)
    (cnd ((p0 == 2))
      (j1 true)
      (cnd ((p0 == 3))
        (j1 (!p1))
        (cnd ((p0 == 4))
          (j1 (!p1))
          (j1 false))))
def Sh.fleet_matrix_1 (N : Nat) (p0 : List Bool) (p1 : Int) : Option Bool :=
  some (((p0.length : Int) != p1))
def Sh.slices_IndexFunc_bool_bool_L1 (N : Nat) (p0 : List (List Bool)) (p1 : (List Bool) → Option Bool) (j1 : Unit → Option Int) : Nat → Int → Option Int
  | 0, _ => none
  | n1 + 1, v1 =>
    cnd ((decide (v1 < (p0.length : Int))))
      ((idx p0 v1).bind fun v4 =>
      (p1 v4).bind fun v5 =>
      cnd v5
        (some v1)
        (Sh.slices_IndexFunc_bool_bool_L1 N p0 p1 j1 n1 (IntKind.wrap .i64 (v1 + 1))))
      (j1 ())
def Sh.slices_IndexFunc_bool_bool (N : Nat) (p0 : List (List Bool)) (p1 : (List Bool) → Option Bool) : Option Int :=
  Sh.slices_IndexFunc_bool_bool_L1 N p0 p1 (fun (v2 : Unit) =>
    some ((-1))) N 0
def Sh.slices_ContainsFunc_bool_bool (N : Nat) (p0 : List (List Bool)) (p1 : (List Bool) → Option Bool) : Option Bool :=
  (Sh.slices_IndexFunc_bool_bool N p0 p1).bind fun v1 =>
  some ((decide (0 ≤ v1)))
def Sh.fleet_matrix (N : Nat) (p0 : List (List Bool)) (p1 : Int) (p2 : Int) : Option Bool :=
  join (fun (v1 : Bool) =>
    some v1)
  fun j1 =>
  cnd (((p0.length : Int) == p1))
    ((Sh.slices_ContainsFunc_bool_bool N p0 ((fun (x : List Bool) => Sh.fleet_matrix_1 N x p2))).bind fun v3 =>
    j1 (!v3))
    (j1 false)
def Sh.fleet_table_L19 (N : Nat) (p1 : ApiTable) (j19 : Unit → Option Int) : Nat → Int → Option Int
  | 0, _ => none
  | n19 + 1, v19 =>
    cnd ((decide (v19 < (p1.fRewrite.length : Int))))
      ((idx p1.fRewrite v19).bind fun v22 =>
      (idx v22 v19).bind fun v23 =>
      cnd ((!v23))
        (some 1)
        (Sh.fleet_table_L19 N p1 j19 n19 (IntKind.wrap .i64 (v19 + 1))))
      (j19 ())
def Sh.fleet_table (N : Nat) (p0 : ApiProblem) (p1 : ApiTable) : Option Int :=
  (Sh.fleet_kind N p1.fKind p1.fAware).bind fun v1 =>
  cnd ((!v1))
    (some 1)
    (join (fun (v3 : Bool) =>
      cnd v3
        (some 4)
        ((idx p0.fVersions p1.fFrom).bind fun v8 =>
        join (fun (v9 : Bool) =>
          cnd v9
            (some 6)
            (Sh.fleet_table_L19 N p1 (fun (v20 : Unit) =>
              some 0) N 0))
        fun j9 =>
        (idx p0.fVersions p1.fTo).bind fun v10 =>
        (Sh.fleet_matrix N p1.fOK v8 v10).bind fun v11 =>
        cnd ((!v11))
          (j9 true)
          (cnd ((p1.fKind == 4))
            ((Sh.fleet_matrix N p1.fRewrite v8 v8).bind fun v14 =>
            cnd ((!v14))
              (j9 true)
              (cnd ((!((p1.fKind == 4))))
                (j9 (decide (0 < (p1.fRewrite.length : Int))))
                (j9 false)))
            (cnd ((!((p1.fKind == 4))))
              (j9 (decide (0 < (p1.fRewrite.length : Int))))
              (j9 false)))))
    fun j3 =>
    (Sh.fleet_within N p1.fFrom ((p0.fVersions.length : Int))).bind fun v4 =>
    cnd ((!v4))
      (j3 true)
      ((Sh.fleet_within N p1.fTo ((p0.fVersions.length : Int))).bind fun v6 =>
      j3 (!v6)))
def Sh.fleet_ValidProblem_L7 (N : Nat) (p0 : ApiProblem) (j7 : Unit → Option Int) : Nat → Int → Option Int
  | 0, _ => none
  | n7 + 1, v7 =>
    cnd ((decide (v7 < (p0.fVersions.length : Int))))
      ((idx p0.fVersions v7).bind fun v10 =>
      join (fun (v11 : Bool) =>
        cnd v11
          (some 7)
          (Sh.fleet_ValidProblem_L7 N p0 j7 n7 (IntKind.wrap .i64 (v7 + 1))))
      fun j11 =>
      cnd ((decide (v10 < 1)))
        (j11 true)
        (cnd ((decide (6 < v10)))
          (j11 true)
          ((idx p0.fNow v7).bind fun v14 =>
          (Sh.fleet_within N v14 v10).bind fun v15 =>
          cnd ((!v15))
            (j11 true)
            ((idx p0.fTarget v7).bind fun v17 =>
            (Sh.fleet_within N v17 v10).bind fun v18 =>
            j11 (!v18)))))
      (j7 ())
def Sh.fleet_ValidProblem_L20 (N : Nat) (p0 : ApiProblem) (j20 : Unit → Option Int) : Nat → Int → Option Int
  | 0, _ => none
  | n20 + 1, v20 =>
    cnd ((decide (v20 < (p0.fTables.length : Int))))
      ((idx p0.fTables v20).bind fun v23 =>
      (Sh.fleet_table N p0 v23).bind fun v24 =>
      cnd ((v24 != 0))
        (some v24)
        (Sh.fleet_ValidProblem_L20 N p0 j20 n20 (IntKind.wrap .i64 (v20 + 1))))
      (j20 ())
def Sh.fleet_ValidProblem (N : Nat) (p0 : ApiProblem) : Option Int :=
  join (fun (v1 : Bool) =>
    cnd v1
      (some 3)
      (join (fun (v4 : Bool) =>
        cnd v4
          (some 6)
          (Sh.fleet_ValidProblem_L7 N p0 (fun (v8 : Unit) =>
            Sh.fleet_ValidProblem_L20 N p0 (fun (v21 : Unit) =>
              some 0) N 0) N 0))
      fun j4 =>
      cnd (((p0.fNow.length : Int) != (p0.fVersions.length : Int)))
        (j4 true)
        (j4 ((p0.fTarget.length : Int) != (p0.fVersions.length : Int)))))
  fun j1 =>
  cnd ((decide (6 < (p0.fVersions.length : Int))))
    (j1 true)
    (j1 (decide (12 < (p0.fTables.length : Int))))
def Sh.slices_Clone_int_int (N : Nat) (p0 : List Int) : Option ((List Int)) :=
  (chk ((([] : List Int)).length + p0.length ≤ lim)).bind fun _ =>
  some ((([] : List Int)) ++ p0)
def Sh.math_bits_Mul32 (N : Nat) (p0 : Int) (p1 : Int) : Option (Int × Int) :=
  some ((IntKind.wrap .u32 ((shrI .u64 ((IntKind.wrap .u64 ((IntKind.wrap .u64 p0) * (IntKind.wrap .u64 p1)))) 32))), (IntKind.wrap .u32 ((IntKind.wrap .u64 ((IntKind.wrap .u64 p0) * (IntKind.wrap .u64 p1))))))
def Sh.math_bits_Mul64 (N : Nat) (p0 : Int) (p1 : Int) : Option (Int × Int) :=
  some ((IntKind.wrap .u64 ((IntKind.wrap .u64 ((IntKind.wrap .u64 ((shrI .u64 p0 32) * (shrI .u64 p1 32))) + (shrI .u64 ((IntKind.wrap .u64 ((IntKind.wrap .u64 ((shrI .u64 p0 32) * (andI .u64 p1 4294967295))) + (shrI .u64 ((IntKind.wrap .u64 ((andI .u64 p0 4294967295) * (andI .u64 p1 4294967295)))) 32)))) 32))) + (shrI .u64 ((IntKind.wrap .u64 ((andI .u64 ((IntKind.wrap .u64 ((IntKind.wrap .u64 ((shrI .u64 p0 32) * (andI .u64 p1 4294967295))) + (shrI .u64 ((IntKind.wrap .u64 ((andI .u64 p0 4294967295) * (andI .u64 p1 4294967295)))) 32)))) 4294967295) + (IntKind.wrap .u64 ((andI .u64 p0 4294967295) * (shrI .u64 p1 32)))))) 32))), (IntKind.wrap .u64 (p0 * p1)))
def Sh.math_bits_Mul (N : Nat) (p0 : Int) (p1 : Int) : Option (Int × Int) :=
  cnd false
    ((Sh.math_bits_Mul32 N ((IntKind.wrap .u32 p0)) ((IntKind.wrap .u32 p1))).bind fun v2 =>
    some ((IntKind.wrap .u64 v2.1), (IntKind.wrap .u64 v2.2)))
    ((Sh.math_bits_Mul64 N p0 p1).bind fun v3 =>
    some (v3.1, v3.2))
def Sh.slices_Repeat_int_int_L9 (N : Nat) (j9 : ((List Int)) → Option ((List Int))) : Nat → ((List Int) × Int) → Option ((List Int))
  | 0, _ => none
  | n9 + 1, v9 =>
    cnd ((decide (v9.2 < (v9.1.length : Int))))
      ((chk ((0 : Int) ≤ v9.2 ∧ (v9.2).toNat ≤ v9.1.length ∧ v9.1.length ≤ v9.1.length)).bind fun _ =>
      (chk ((0 : Int) ≤ v9.2 ∧ 0 ≤ (v9.2).toNat ∧ (v9.2).toNat ≤ v9.1.length)).bind fun _ =>
      Sh.slices_Repeat_int_int_L9 N j9 n9 (spl v9.1 ((v9.2).toNat) ((((v9.1.drop 0).take ((v9.2).toNat))).take (Nat.min (((v9.1.drop 0).take ((v9.2).toNat))).length ((v9.1.length - (v9.2).toNat)))), (IntKind.wrap .i64 (v9.2 + (((Nat.min (((v9.1.drop 0).take ((v9.2).toNat))).length ((v9.1.length - (v9.2).toNat))) : Nat) : Int)))))
      (j9 v9.1)
def Sh.slices_Repeat_int_int (N : Nat) (p0 : List Int) (p1 : Int) : Option ((List Int)) :=
  join (fun (v1 : Unit) =>
    (Sh.math_bits_Mul N ((IntKind.wrap .u64 ((p0.length : Int)))) ((IntKind.wrap .u64 p1))).bind fun v3 =>
    join (fun (v4 : Unit) =>
      (chk ((0 : Int) ≤ (IntKind.wrap .i64 v3.2) ∧ (IntKind.wrap .i64 v3.2) ≤ (IntKind.wrap .i64 v3.2) ∧ (IntKind.wrap .i64 v3.2) ≤ (lim : Int))).bind fun _ =>
      Sh.slices_Repeat_int_int_L9 N (fun (v10 : (List Int)) =>
        some v10) N (spl (List.replicate ((IntKind.wrap .i64 v3.2)).toNat ((0 : Int))) 0 (p0.take (Nat.min p0.length ((List.replicate ((IntKind.wrap .i64 v3.2)).toNat ((0 : Int))).length))), (((Nat.min p0.length ((List.replicate ((IntKind.wrap .i64 v3.2)).toNat ((0 : Int))).length)) : Nat) : Int)))
    fun j4 =>
    join (fun (v5 : Bool) =>
      cnd v5
        (none)
        (j4 ()))
    fun j5 =>
    cnd ((decide (0 < v3.1)))
      (j5 true)
      (j5 (decide (9223372036854775807 < v3.2))))
  fun j1 =>
  cnd ((decide (p1 < 0)))
    (none)
    (j1 ())
def Sh.mix_stored (N : Nat) (p0 : ApiTable) : Option Bool :=
  join (fun (v1 : Bool) =>
    some v1)
  fun j1 =>
  cnd ((p0.fKind == 3))
    (j1 true)
    (j1 (p0.fKind == 4))
def Sh.mix_Start_L6 (N : Nat) (p0 : ApiProblem) (j6 : ((List Int)) → Option (ApiMix × Int)) : Nat → ((List Int) × Int) → Option (ApiMix × Int)
  | 0, _ => none
  | n6 + 1, v6 =>
    cnd ((decide (v6.2 < (p0.fTables.length : Int))))
      (join (fun (v9 : (List Int)) =>
        Sh.mix_Start_L6 N p0 j6 n6 (v9, (IntKind.wrap .i64 (v6.2 + 1))))
      fun j9 =>
      (idx p0.fTables v6.2).bind fun v10 =>
      (Sh.mix_stored N v10).bind fun v11 =>
      cnd v11
        ((idx p0.fNow v10.fFrom).bind fun v13 =>
        (chk (0 ≤ v13)).bind fun _ =>
        (idx v6.1 v6.2).bind fun v15 =>
        j9 (v6.1.set (v6.2).toNat ((shlI .u8 1 v13))))
        (j9 v6.1))
      (j6 v6.1)
def Sh.mix_Start (N : Nat) (p0 : ApiProblem) : Option (ApiMix × Int) :=
  (Sh.fleet_ValidProblem N p0).bind fun v1 =>
  cnd ((v1 != 0))
    (some ((ApiMix.mk (([] : List Int)) (([] : List Int)) (([] : List Int))), v1))
    ((Sh.slices_Clone_int_int N p0.fNow).bind fun v3 =>
    (Sh.slices_Repeat_int_int N (([(-1)] : List Int)) ((p0.fNow.length : Int))).bind fun v4 =>
    (chk ((0 : Int) ≤ (p0.fTables.length : Int) ∧ (p0.fTables.length : Int) ≤ (p0.fTables.length : Int) ∧ (p0.fTables.length : Int) ≤ (lim : Int))).bind fun _ =>
    Sh.mix_Start_L6 N p0 (fun (v7 : (List Int)) =>
      some ((ApiMix.mk v3 v4 v7), 0)) N (List.replicate ((p0.fTables.length : Int)).toNat ((0 : Int)), 0))
def Sh.mix_running (N : Nat) (p0 : ApiMix) (p1 : Int) : Option Int :=
  (idx p0.fBase p1).bind fun v1 =>
  (chk (0 ≤ v1)).bind fun _ =>
  join (fun (v3 : Int) =>
    some v3)
  fun j3 =>
  (idx p0.fNext p1).bind fun v4 =>
  cnd ((decide (0 ≤ v4)))
    ((idx p0.fNext p1).bind fun v6 =>
    (chk (0 ≤ v6)).bind fun _ =>
    j3 (orI .u8 ((shlI .u8 1 v1)) ((shlI .u8 1 v6))))
    (j3 (shlI .u8 1 v1))
def Sh.mix_Valid_L7 (N : Nat) (p0 : ApiProblem) (p1 : ApiMix) (j7 : Unit → Option Int) : Nat → Int → Option Int
  | 0, _ => none
  | n7 + 1, v7 =>
    cnd ((decide (v7 < (p0.fVersions.length : Int))))
      ((idx p0.fVersions v7).bind fun v10 =>
      join (fun (v11 : Bool) =>
        cnd v11
          (some 7)
          ((idx p1.fBase v7).bind fun v20 =>
          (idx p1.fNext v7).bind fun v21 =>
          cnd ((v20 == v21))
            (some 1)
            (Sh.mix_Valid_L7 N p0 p1 j7 n7 (IntKind.wrap .i64 (v7 + 1)))))
      fun j11 =>
      (idx p1.fBase v7).bind fun v12 =>
      cnd ((decide (v12 < 0)))
        (j11 true)
        ((idx p1.fBase v7).bind fun v14 =>
        cnd ((decide (v10 ≤ v14)))
          (j11 true)
          ((idx p1.fNext v7).bind fun v16 =>
          cnd ((decide (v16 < (-1))))
            (j11 true)
            ((idx p1.fNext v7).bind fun v18 =>
            j11 (decide (v10 ≤ v18))))))
      (j7 ())
def Sh.mix_Valid_L23 (N : Nat) (p0 : ApiProblem) (p1 : ApiMix) (j23 : Unit → Option Int) : Nat → Int → Option Int
  | 0, _ => none
  | n23 + 1, v23 =>
    cnd ((decide (v23 < (p0.fTables.length : Int))))
      ((idx p0.fTables v23).bind fun v26 =>
      join (fun (v27 : Int × Int) =>
        join (fun (v33 : Bool) =>
          cnd v33
            (some 1)
            (Sh.mix_Valid_L23 N p0 p1 j23 n23 (IntKind.wrap .i64 (v23 + 1))))
        fun j33 =>
        (idx p1.fHeld v23).bind fun v34 =>
        cnd (((andNotI .u8 v27.1 v34) != 0))
          (j33 true)
          ((idx p1.fHeld v23).bind fun v36 =>
          j33 ((andNotI .u8 v36 v27.2) != 0)))
      fun j27 =>
      (Sh.mix_stored N v26).bind fun v28 =>
      cnd v28
        ((Sh.mix_running N p1 v26.fFrom).bind fun v30 =>
        (idx p0.fVersions v26.fFrom).bind fun v31 =>
        (chk (0 ≤ v31)).bind fun _ =>
        j27 (v30, (IntKind.wrap .u8 ((shlI .u8 1 v31) - 1))))
        (j27 (0, 0)))
      (j23 ())
def Sh.mix_Valid (N : Nat) (p0 : ApiProblem) (p1 : ApiMix) : Option Int :=
  (Sh.fleet_ValidProblem N p0).bind fun v1 =>
  cnd ((v1 != 0))
    (some v1)
    (join (fun (v3 : Bool) =>
      cnd v3
        (some 6)
        (Sh.mix_Valid_L7 N p0 p1 (fun (v8 : Unit) =>
          Sh.mix_Valid_L23 N p0 p1 (fun (v24 : Unit) =>
            some 0) N 0) N 0))
    fun j3 =>
    cnd (((p1.fBase.length : Int) != (p0.fVersions.length : Int)))
      (j3 true)
      (cnd (((p1.fNext.length : Int) != (p0.fVersions.length : Int)))
        (j3 true)
        (j3 ((p1.fHeld.length : Int) != (p0.fTables.length : Int)))))
def Sh.slices_Clone_api_Set_api_Set (N : Nat) (p0 : List Int) : Option ((List Int)) :=
  (chk ((([] : List Int)).length + p0.length ≤ lim)).bind fun _ =>
  some ((([] : List Int)) ++ p0)
def Sh.mix_Aborts_L3 (N : Nat) (p1 : ApiMix) (j3 : ((List Int)) → Option ((List ApiMix) × Int)) : Nat → ((List Int) × Int) → Option ((List ApiMix) × Int)
  | 0, _ => none
  | n3 + 1, v3 =>
    cnd ((decide (v3.2 < (p1.fNext.length : Int))))
      (join (fun (v6 : (List Int)) =>
        Sh.mix_Aborts_L3 N p1 j3 n3 (v6, (IntKind.wrap .i64 (v3.2 + 1))))
      fun j6 =>
      (idx p1.fNext v3.2).bind fun v7 =>
      cnd ((decide (0 ≤ v7)))
        ((chk (v3.1.length + (([v3.2] : List Int)).length ≤ lim)).bind fun _ =>
        j6 (v3.1 ++ (([v3.2] : List Int))))
        (j6 v3.1))
      (j3 v3.1)
def Sh.mix_Aborts_L17 (N : Nat) (v4 : (List Int)) (v11 : (List ApiMix) × Int) (j17 : ((List Int)) → Option ((List ApiMix) × Int)) : Nat → ((List Int) × Int) → Option ((List ApiMix) × Int)
  | 0, _ => none
  | n17 + 1, v17 =>
    cnd ((decide (v17.2 < (v4.length : Int))))
      (join (fun (v20 : (List Int)) =>
        Sh.mix_Aborts_L17 N v4 v11 j17 n17 (v20, (IntKind.wrap .i64 (v17.2 + 1))))
      fun j20 =>
      (idx v4 v17.2).bind fun v21 =>
      (chk (0 ≤ v17.2)).bind fun _ =>
      cnd (((andI .i64 ((shrI .i64 v11.2 v17.2)) 1) == 1))
        ((idx v17.1 v21).bind fun v24 =>
        j20 (v17.1.set (v21).toNat ((-1))))
        (j20 v17.1))
      (j17 v17.1)
def Sh.mix_Aborts_L11 (N : Nat) (p1 : ApiMix) (v4 : (List Int)) (j11 : ((List ApiMix)) → Option ((List ApiMix) × Int)) : Nat → ((List ApiMix) × Int) → Option ((List ApiMix) × Int)
  | 0, _ => none
  | n11 + 1, v11 =>
    cnd ((decide (v11.2 < (shlI .i64 1 ((v4.length : Int))))))
      ((Sh.slices_Clone_int_int N p1.fBase).bind fun v14 =>
      (Sh.slices_Clone_int_int N p1.fNext).bind fun v15 =>
      (Sh.slices_Clone_api_Set_api_Set N p1.fHeld).bind fun v16 =>
      Sh.mix_Aborts_L17 N v4 v11 (fun (v18 : (List Int)) =>
        (chk (v11.1.length + (([(ApiMix.mk v14 v18 v16)] : List ApiMix)).length ≤ lim)).bind fun _ =>
        Sh.mix_Aborts_L11 N p1 v4 j11 n11 (v11.1 ++ (([(ApiMix.mk v14 v18 v16)] : List ApiMix)), (IntKind.wrap .i64 (v11.2 + 1)))) N (v15, 0))
      (j11 v11.1)
def Sh.mix_Aborts (N : Nat) (p0 : ApiProblem) (p1 : ApiMix) : Option ((List ApiMix) × Int) :=
  (Sh.mix_Valid N p0 p1).bind fun v1 =>
  cnd ((v1 != 0))
    (some (([] : List ApiMix), v1))
    (Sh.mix_Aborts_L3 N p1 (fun (v4 : (List Int)) =>
      (chk (0 ≤ (v4.length : Int))).bind fun _ =>
      Sh.mix_Aborts_L11 N p1 v4 (fun (v12 : (List ApiMix)) =>
        some (v12, 0)) N (([] : List ApiMix), 0)) N (([] : List Int), 0))
def Sh.mix_conflicts_L18 (N : Nat) (v1 : (List ApiConflict) × Int) (v4 : ApiTable) (v6 : Int) (v11 : (List ApiConflict) × Int) (v17 : List Bool) (j18 : ((List ApiConflict) × Bool) → Option ((List ApiConflict))) : Nat → ((List ApiConflict) × Bool × Int) → Option ((List ApiConflict))
  | 0, _ => none
  | n18 + 1, v18 =>
    cnd ((decide (v18.2.2 < (v17.length : Int))))
      (join (fun (v21 : (List ApiConflict) × Bool) =>
        Sh.mix_conflicts_L18 N v1 v4 v6 v11 v17 j18 n18 (v21.1, v21.2, (IntKind.wrap .i64 (v18.2.2 + 1))))
      fun j21 =>
      (idx v17 v18.2.2).bind fun v22 =>
      (chk (0 ≤ v18.2.2)).bind fun _ =>
      cnd (((andI .u8 ((shrI .u8 v6 v18.2.2)) 1) == 0))
        (j21 (v18.1, v18.2.1))
        (join (fun (v25 : Bool) =>
          join (fun (v27 : Bool) =>
            cnd v27
              ((chk (v18.1.length + (([(ApiConflict.mk v1.2 v11.2 v18.2.2)] : List ApiConflict)).length ≤ lim)).bind fun _ =>
              j21 (v18.1 ++ (([(ApiConflict.mk v1.2 v11.2 v18.2.2)] : List ApiConflict)), v25))
              (j21 (v18.1, v25)))
          fun j27 =>
          cnd ((!v22))
            (j27 (!v4.fAware))
            (j27 false))
        fun j25 =>
        cnd v18.2.1
          (j25 true)
          (j25 v22)))
      (j18 (v18.1, v18.2.1))
def Sh.mix_conflicts_L11 (N : Nat) (v1 : (List ApiConflict) × Int) (v4 : ApiTable) (v6 : Int) (v7 : Int) (j11 : ((List ApiConflict)) → Option ((List ApiConflict))) : Nat → ((List ApiConflict) × Int) → Option ((List ApiConflict))
  | 0, _ => none
  | n11 + 1, v11 =>
    cnd ((decide (v11.2 < (v4.fOK.length : Int))))
      (join (fun (v14 : (List ApiConflict)) =>
        Sh.mix_conflicts_L11 N v1 v4 v6 v7 j11 n11 (v14, (IntKind.wrap .i64 (v11.2 + 1))))
      fun j14 =>
      (chk (0 ≤ v11.2)).bind fun _ =>
      cnd (((andI .u8 ((shrI .u8 v7 v11.2)) 1) == 0))
        (j14 v11.1)
        ((idx v4.fOK v11.2).bind fun v17 =>
        Sh.mix_conflicts_L18 N v1 v4 v6 v11 v17 (fun (v19 : (List ApiConflict) × Bool) =>
          join (fun (v31 : Bool) =>
            cnd v31
              ((chk (v19.1.length + (([(ApiConflict.mk v1.2 v11.2 ((-1)))] : List ApiConflict)).length ≤ lim)).bind fun _ =>
              j14 (v19.1 ++ (([(ApiConflict.mk v1.2 v11.2 ((-1)))] : List ApiConflict))))
              (j14 v19.1))
          fun j31 =>
          cnd v4.fAware
            (j31 (!v19.2))
            (j31 false)) N (v11.1, false, 0)))
      (j11 v11.1)
def Sh.mix_conflicts_L1 (N : Nat) (p0 : ApiProblem) (p1 : ApiMix) (j1 : ((List ApiConflict)) → Option ((List ApiConflict))) : Nat → ((List ApiConflict) × Int) → Option ((List ApiConflict))
  | 0, _ => none
  | n1 + 1, v1 =>
    cnd ((decide (v1.2 < (p0.fTables.length : Int))))
      ((idx p0.fTables v1.2).bind fun v4 =>
      (Sh.mix_running N p1 v4.fFrom).bind fun v5 =>
      (Sh.mix_running N p1 v4.fTo).bind fun v6 =>
      join (fun (v7 : Int) =>
        Sh.mix_conflicts_L11 N v1 v4 v6 v7 (fun (v12 : (List ApiConflict)) =>
          Sh.mix_conflicts_L1 N p0 p1 j1 n1 (v12, (IntKind.wrap .i64 (v1.2 + 1)))) N (v1.1, 0))
      fun j7 =>
      (Sh.mix_stored N v4).bind fun v8 =>
      cnd v8
        ((idx p1.fHeld v1.2).bind fun v10 =>
        j7 v10)
        (j7 v5))
      (j1 v1.1)
def Sh.mix_conflicts (N : Nat) (p0 : ApiProblem) (p1 : ApiMix) : Option ((List ApiConflict)) :=
  Sh.mix_conflicts_L1 N p0 p1 (fun (v2 : (List ApiConflict)) =>
    some v2) N (([] : List ApiConflict), 0)
def Sh.mix_Blame_L3 (N : Nat) (p0 : ApiProblem) (v1 : (List ApiMix) × Int) (j3 : Unit → Option (ApiMix × ApiConflict × Int)) : Nat → Int → Option (ApiMix × ApiConflict × Int)
  | 0, _ => none
  | n3 + 1, v3 =>
    cnd ((decide (v3 < (v1.1.length : Int))))
      ((idx v1.1 v3).bind fun v6 =>
      (Sh.mix_conflicts N p0 v6).bind fun v7 =>
      cnd ((decide (0 < (v7.length : Int))))
        ((idx v7 0).bind fun v9 =>
        some (v6, v9, 0))
        (Sh.mix_Blame_L3 N p0 v1 j3 n3 (IntKind.wrap .i64 (v3 + 1))))
      (j3 ())
def Sh.mix_Blame (N : Nat) (p0 : ApiProblem) (p1 : ApiMix) : Option (ApiMix × ApiConflict × Int) :=
  (Sh.mix_Aborts N p0 p1).bind fun v1 =>
  cnd ((v1.2 != 0))
    (some ((ApiMix.mk (([] : List Int)) (([] : List Int)) (([] : List Int))), (ApiConflict.mk 0 0 0), v1.2))
    (Sh.mix_Blame_L3 N p0 v1 (fun (v4 : Unit) =>
      some ((ApiMix.mk (([] : List Int)) (([] : List Int)) (([] : List Int))), (ApiConflict.mk 0 0 0), 15)) N 0)
def Sh.mix_Robust (N : Nat) (p0 : ApiProblem) (p1 : ApiMix) : Option (Bool × Int) :=
  (Sh.mix_Blame N p0 p1).bind fun v1 =>
  cnd ((v1.2.2 == 0))
    (some (false, 0))
    (cnd ((v1.2.2 == 15))
      (some (true, 0))
      (some (false, v1.2.2)))
def Sh.plan_key_L2 (N : Nat) (p0 : ApiMix) (j2 : ((List Int)) → Option ByteArray) : Nat → ((List Int) × Int) → Option ByteArray
  | 0, _ => none
  | n2 + 1, v2 =>
    cnd ((decide (v2.2 < (p0.fBase.length : Int))))
      ((idx p0.fBase v2.2).bind fun v5 =>
      (idx p0.fNext v2.2).bind fun v6 =>
      (chk (v2.1.length + (([(IntKind.wrap .u8 v5), (IntKind.wrap .u8 ((IntKind.wrap .i64 (v6 + 1))))] : List Int)).length ≤ lim)).bind fun _ =>
      Sh.plan_key_L2 N p0 j2 n2 (v2.1 ++ (([(IntKind.wrap .u8 v5), (IntKind.wrap .u8 ((IntKind.wrap .i64 (v6 + 1))))] : List Int)), (IntKind.wrap .i64 (v2.2 + 1))))
      (j2 v2.1)
def Sh.plan_key_L8 (N : Nat) (p0 : ApiMix) (j8 : ((List Int)) → Option ByteArray) : Nat → ((List Int) × Int) → Option ByteArray
  | 0, _ => none
  | n8 + 1, v8 =>
    cnd ((decide (v8.2 < (p0.fHeld.length : Int))))
      ((idx p0.fHeld v8.2).bind fun v11 =>
      (chk (v8.1.length + (([v11] : List Int)).length ≤ lim)).bind fun _ =>
      Sh.plan_key_L8 N p0 j8 n8 (v8.1 ++ (([v11] : List Int)), (IntKind.wrap .i64 (v8.2 + 1))))
      (j8 v8.1)
def Sh.plan_key (N : Nat) (p0 : ApiMix) : Option ByteArray :=
  (chk ((0 : Int) ≤ 0 ∧ 0 ≤ (IntKind.wrap .i64 ((IntKind.wrap .i64 (2 * (p0.fBase.length : Int))) + (p0.fHeld.length : Int))) ∧ (IntKind.wrap .i64 ((IntKind.wrap .i64 (2 * (p0.fBase.length : Int))) + (p0.fHeld.length : Int))) ≤ (lim : Int))).bind fun _ =>
  Sh.plan_key_L2 N p0 (fun (v3 : (List Int)) =>
    Sh.plan_key_L8 N p0 (fun (v9 : (List Int)) =>
      some ((bytesOf v9))) N (v3, 0)) N (List.replicate (0 : Int).toNat ((0 : Int)), 0)
def Sh.step_all_L5 (N : Nat) (v1 : (List ApiStep) × Int) (v4 : Int) (j5 : ((List ApiStep)) → Option ((List ApiStep))) : Nat → ((List ApiStep) × Int) → Option ((List ApiStep))
  | 0, _ => none
  | n5 + 1, v5 =>
    cnd ((decide (v5.2 < v4)))
      ((chk (v5.1.length + (([(ApiStep.mk 1 v1.2 v5.2)] : List ApiStep)).length ≤ lim)).bind fun _ =>
      Sh.step_all_L5 N v1 v4 j5 n5 (v5.1 ++ (([(ApiStep.mk 1 v1.2 v5.2)] : List ApiStep)), (IntKind.wrap .i64 (v5.2 + 1))))
      (j5 v5.1)
def Sh.step_all_L1 (N : Nat) (p0 : ApiProblem) (j1 : ((List ApiStep)) → Option ((List ApiStep))) : Nat → ((List ApiStep) × Int) → Option ((List ApiStep))
  | 0, _ => none
  | n1 + 1, v1 =>
    cnd ((decide (v1.2 < (p0.fVersions.length : Int))))
      ((idx p0.fVersions v1.2).bind fun v4 =>
      Sh.step_all_L5 N v1 v4 (fun (v6 : (List ApiStep)) =>
        Sh.step_all_L1 N p0 j1 n1 (v6, (IntKind.wrap .i64 (v1.2 + 1)))) N (v1.1, 0))
      (j1 v1.1)
def Sh.step_all_L9 (N : Nat) (p0 : ApiProblem) (j9 : ((List ApiStep)) → Option ((List ApiStep))) : Nat → ((List ApiStep) × Int) → Option ((List ApiStep))
  | 0, _ => none
  | n9 + 1, v9 =>
    cnd ((decide (v9.2 < (p0.fVersions.length : Int))))
      ((chk (v9.1.length + (([(ApiStep.mk 2 v9.2 0)] : List ApiStep)).length ≤ lim)).bind fun _ =>
      Sh.step_all_L9 N p0 j9 n9 (v9.1 ++ (([(ApiStep.mk 2 v9.2 0)] : List ApiStep)), (IntKind.wrap .i64 (v9.2 + 1))))
      (j9 v9.1)
def Sh.step_all_L13 (N : Nat) (p0 : ApiProblem) (j13 : ((List ApiStep)) → Option ((List ApiStep))) : Nat → ((List ApiStep) × Int) → Option ((List ApiStep))
  | 0, _ => none
  | n13 + 1, v13 =>
    cnd ((decide (v13.2 < (p0.fTables.length : Int))))
      ((chk (v13.1.length + (([(ApiStep.mk 3 v13.2 0)] : List ApiStep)).length ≤ lim)).bind fun _ =>
      Sh.step_all_L13 N p0 j13 n13 (v13.1 ++ (([(ApiStep.mk 3 v13.2 0)] : List ApiStep)), (IntKind.wrap .i64 (v13.2 + 1))))
      (j13 v13.1)
def Sh.step_all (N : Nat) (p0 : ApiProblem) : Option ((List ApiStep)) :=
  Sh.step_all_L1 N p0 (fun (v2 : (List ApiStep)) =>
    Sh.step_all_L9 N p0 (fun (v10 : (List ApiStep)) =>
      Sh.step_all_L13 N p0 (fun (v14 : (List ApiStep)) =>
        some v14) N (v10, 0)) N (v2, 0)) N (([] : List ApiStep), 0)
def Sh.step_cloned (N : Nat) (p0 : ApiMix) : Option ApiMix :=
  (Sh.slices_Clone_int_int N p0.fBase).bind fun v1 =>
  (Sh.slices_Clone_int_int N p0.fNext).bind fun v2 =>
  (Sh.slices_Clone_api_Set_api_Set N p0.fHeld).bind fun v3 =>
  some ((ApiMix.mk v1 v2 v3))
def Sh.step_stored (N : Nat) (p0 : ApiTable) : Option Bool :=
  join (fun (v1 : Bool) =>
    some v1)
  fun j1 =>
  cnd ((p0.fKind == 3))
    (j1 true)
    (j1 (p0.fKind == 4))
def Sh.step_start_L7 (N : Nat) (p0 : ApiProblem) (p2 : ApiStep) (j7 : ((List Int)) → Option (Bool × (List Int) × (List Int))) : Nat → ((List Int) × Int) → Option (Bool × (List Int) × (List Int))
  | 0, _ => none
  | n7 + 1, v7 =>
    cnd ((decide (v7.2 < (p0.fTables.length : Int))))
      (join (fun (v10 : (List Int)) =>
        Sh.step_start_L7 N p0 p2 j7 n7 (v10, (IntKind.wrap .i64 (v7.2 + 1))))
      fun j10 =>
      (idx p0.fTables v7.2).bind fun v11 =>
      join (fun (v12 : Bool) =>
        cnd v12
          ((idx v7.1 v7.2).bind fun v16 =>
          (chk (0 ≤ p2.fVersion)).bind fun _ =>
          (idx v7.1 v7.2).bind fun v18 =>
          j10 (v7.1.set (v7.2).toNat ((orI .u8 v16 ((shlI .u8 1 p2.fVersion))))))
          (j10 v7.1))
      fun j12 =>
      cnd ((v11.fFrom == p2.fIndex))
        ((Sh.step_stored N v11).bind fun v14 =>
        j12 v14)
        (j12 false))
      (j7 v7.1)
def Sh.step_start (N : Nat) (p0 : ApiProblem) (p1 : ApiMix) (p2 : ApiStep) : Option (Bool × (List Int) × (List Int)) :=
  join (fun (v1 : Bool) =>
    cnd v1
      (some (false, p1.fNext, p1.fHeld))
      ((idx p1.fNext p2.fIndex).bind fun v6 =>
      Sh.step_start_L7 N p0 p2 (fun (v8 : (List Int)) =>
        some (true, p1.fNext.set (p2.fIndex).toNat p2.fVersion, v8)) N (p1.fHeld, 0)))
  fun j1 =>
  (idx p1.fNext p2.fIndex).bind fun v2 =>
  cnd ((decide (0 ≤ v2)))
    (j1 true)
    ((idx p1.fBase p2.fIndex).bind fun v4 =>
    j1 (v4 == p2.fVersion))
def Sh.step_running (N : Nat) (p0 : ApiMix) (p1 : Int) : Option Int :=
  (idx p0.fBase p1).bind fun v1 =>
  (chk (0 ≤ v1)).bind fun _ =>
  join (fun (v3 : Int) =>
    some v3)
  fun j3 =>
  (idx p0.fNext p1).bind fun v4 =>
  cnd ((decide (0 ≤ v4)))
    ((idx p0.fNext p1).bind fun v6 =>
    (chk (0 ≤ v6)).bind fun _ =>
    j3 (orI .u8 ((shlI .u8 1 v1)) ((shlI .u8 1 v6))))
    (j3 (shlI .u8 1 v1))
def Sh.math_bits_TrailingZeros8 (N : Nat) (p0 : Int) : Option Int :=
  (idxS ((⟨⟨(List.append (List.append [8, 0, 1, 0, 2, 0, 1, 0, 3, 0, 1, 0, 2, 0, 1, 0, 4, 0, 1, 0, 2, 0, 1, 0, 3, 0, 1, 0, 2, 0, 1, 0, 5, 0, 1, 0, 2, 0, 1, 0, 3, 0, 1, 0, 2, 0, 1, 0, 4, 0, 1, 0, 2, 0, 1, 0, 3, 0, 1, 0, 2, 0, 1, 0] [6, 0, 1, 0, 2, 0, 1, 0, 3, 0, 1, 0, 2, 0, 1, 0, 4, 0, 1, 0, 2, 0, 1, 0, 3, 0, 1, 0, 2, 0, 1, 0, 5, 0, 1, 0, 2, 0, 1, 0, 3, 0, 1, 0, 2, 0, 1, 0, 4, 0, 1, 0, 2, 0, 1, 0, 3, 0, 1, 0, 2, 0, 1, 0]) (List.append [7, 0, 1, 0, 2, 0, 1, 0, 3, 0, 1, 0, 2, 0, 1, 0, 4, 0, 1, 0, 2, 0, 1, 0, 3, 0, 1, 0, 2, 0, 1, 0, 5, 0, 1, 0, 2, 0, 1, 0, 3, 0, 1, 0, 2, 0, 1, 0, 4, 0, 1, 0, 2, 0, 1, 0, 3, 0, 1, 0, 2, 0, 1, 0] [6, 0, 1, 0, 2, 0, 1, 0, 3, 0, 1, 0, 2, 0, 1, 0, 4, 0, 1, 0, 2, 0, 1, 0, 3, 0, 1, 0, 2, 0, 1, 0, 5, 0, 1, 0, 2, 0, 1, 0, 3, 0, 1, 0, 2, 0, 1, 0, 4, 0, 1, 0, 2, 0, 1, 0, 3, 0, 1, 0, 2, 0, 1, 0]))⟩⟩ : ByteArray)) p0).bind fun v1 =>
  some ((IntKind.wrap .i64 v1))
def Sh.step_rewritable_L1 (N : Nat) (p0 : ApiTable) (p2 : Int) (j1 : Unit → Option Bool) : Nat → Int → Option Bool
  | 0, _ => none
  | n1 + 1, v1 =>
    cnd ((v1 != 0))
      ((Sh.math_bits_TrailingZeros8 N v1).bind fun v4 =>
      (idx p0.fRewrite v4).bind fun v5 =>
      (idx v5 p2).bind fun v6 =>
      cnd ((!v6))
        (some false)
        (Sh.step_rewritable_L1 N p0 p2 j1 n1 (andI .u8 v1 ((IntKind.wrap .u8 (v1 - 1))))))
      (j1 ())
def Sh.step_rewritable (N : Nat) (p0 : ApiTable) (p1 : Int) (p2 : Int) : Option Bool :=
  Sh.step_rewritable_L1 N p0 p2 (fun (v2 : Unit) =>
    some true) N p1
def Sh.step_clear (N : Nat) (p0 : ApiProblem) (p1 : ApiMix) (p2 : Int) : Option (Bool × (List Int)) :=
  (idx p0.fTables p2).bind fun v1 =>
  (Sh.step_stored N v1).bind fun v2 =>
  cnd ((!v2))
    (some (false, p1.fHeld))
    ((Sh.step_running N p1 v1.fFrom).bind fun v4 =>
    (idx p1.fHeld p2).bind fun v5 =>
    join (fun (v6 : Bool) =>
      cnd v6
        (some (false, p1.fHeld))
        ((idx p1.fHeld p2).bind fun v13 =>
        some (true, p1.fHeld.set (p2).toNat v4)))
    fun j6 =>
    (idx p1.fHeld p2).bind fun v7 =>
    cnd ((v7 == v4))
      (j6 true)
      (cnd ((v1.fKind == 4))
        ((idx p1.fBase v1.fFrom).bind fun v10 =>
        (Sh.step_rewritable N v1 ((andNotI .u8 v5 v4)) v10).bind fun v11 =>
        j6 (!v11))
        (j6 false)))
def Sh.step_after (N : Nat) (p0 : ApiProblem) (p1 : ApiMix) (p2 : ApiStep) : Option (ApiMix × Bool) :=
  (Sh.step_cloned N p1).bind fun v1 =>
  cnd ((p2.fKind == 1))
    ((Sh.step_start N p0 v1 p2).bind fun v3 =>
    some ((ApiMix.mk v1.fBase v3.2.1 v3.2.2), v3.1))
    (cnd ((p2.fKind == 3))
      ((Sh.step_clear N p0 v1 p2.fIndex).bind fun v5 =>
      some ((ApiMix.mk v1.fBase v1.fNext v5.2), v5.1))
      ((idx v1.fNext p2.fIndex).bind fun v6 =>
      cnd ((decide (v6 < 0)))
        (some (v1, false))
        ((idx v1.fNext p2.fIndex).bind fun v8 =>
        join (fun (v9 : (List Int)) =>
          some ((ApiMix.mk v9 (v1.fNext.set (p2.fIndex).toNat ((-1))) v1.fHeld), true))
        fun j9 =>
        cnd ((p2.fKind == 2))
          ((idx v1.fBase p2.fIndex).bind fun v11 =>
          j9 (v1.fBase.set (p2.fIndex).toNat v6))
          (j9 v1.fBase))))
def Sh.step_Enabled_1 (N : Nat) (p0 : ApiStep) (p1 : List Int) (p2 : List Int) (p3 : List Int) (p4 : List ApiTable) (p5 : List Int) (p6 : List Int) (p7 : List Int) : Option Bool :=
  (Sh.step_after N ((ApiProblem.mk p1 p2 p3 p4)) ((ApiMix.mk p5 p6 p7)) p0).bind fun v1 =>
  some ((!v1.2))
def Sh.slices_IndexFunc_api_Step_api_Step_L1 (N : Nat) (p0 : List ApiStep) (p1 : ApiStep → Option Bool) (j1 : Unit → Option Int) : Nat → Int → Option Int
  | 0, _ => none
  | n1 + 1, v1 =>
    cnd ((decide (v1 < (p0.length : Int))))
      ((idx p0 v1).bind fun v4 =>
      (p1 v4).bind fun v5 =>
      cnd v5
        (some v1)
        (Sh.slices_IndexFunc_api_Step_api_Step_L1 N p0 p1 j1 n1 (IntKind.wrap .i64 (v1 + 1))))
      (j1 ())
def Sh.slices_IndexFunc_api_Step_api_Step (N : Nat) (p0 : List ApiStep) (p1 : ApiStep → Option Bool) : Option Int :=
  Sh.slices_IndexFunc_api_Step_api_Step_L1 N p0 p1 (fun (v2 : Unit) =>
    some ((-1))) N 0
def Sh.slices_DeleteFunc_api_Step_api_Step_L3 (N : Nat) (p1 : ApiStep → Option Bool) (j3 : ((List ApiStep) × Int) → Option (Nat × (List ApiStep))) : Nat → ((List ApiStep) × Int × Int) → Option (Nat × (List ApiStep))
  | 0, _ => none
  | n3 + 1, v3 =>
    cnd ((decide (v3.2.2 < (v3.1.length : Int))))
      (join (fun (v6 : (List ApiStep) × Int) =>
        Sh.slices_DeleteFunc_api_Step_api_Step_L3 N p1 j3 n3 (v6.1, v6.2, (IntKind.wrap .i64 (v3.2.2 + 1))))
      fun j6 =>
      (idx v3.1 v3.2.2).bind fun v7 =>
      (p1 v7).bind fun v8 =>
      cnd ((!v8))
        ((idx v3.1 v3.2.1).bind fun v10 =>
        j6 (v3.1.set (v3.2.1).toNat v7, (IntKind.wrap .i64 (v3.2.1 + 1))))
        (j6 (v3.1, v3.2.1)))
      (j3 (v3.1, v3.2.1))
def Sh.slices_DeleteFunc_api_Step_api_Step (N : Nat) (p0 : List ApiStep) (p1 : ApiStep → Option Bool) : Option (Nat × (List ApiStep)) :=
  (Sh.slices_IndexFunc_api_Step_api_Step N p0 p1).bind fun v1 =>
  cnd ((v1 == (-1)))
    (some (p0.length, p0))
    (Sh.slices_DeleteFunc_api_Step_api_Step_L3 N p1 (fun (v4 : (List ApiStep) × Int) =>
      (chk ((0 : Int) ≤ v4.2 ∧ (v4.2).toNat ≤ v4.1.length ∧ v4.1.length ≤ v4.1.length)).bind fun _ =>
      (chk ((0 : Int) ≤ v4.2 ∧ 0 ≤ (v4.2).toNat ∧ (v4.2).toNat ≤ (spl v4.1 ((v4.2).toNat) (List.replicate ((v4.1.length - (v4.2).toNat)) ((ApiStep.mk 0 0 0)))).length)).bind fun _ =>
      some ((v4.2).toNat, spl v4.1 ((v4.2).toNat) (List.replicate ((v4.1.length - (v4.2).toNat)) ((ApiStep.mk 0 0 0))))) N (p0, v1, (IntKind.wrap .i64 (v1 + 1))))
def Sh.step_Enabled (N : Nat) (p0 : ApiProblem) (p1 : ApiMix) : Option ((List ApiStep) × Int) :=
  (Sh.mix_Valid N p0 p1).bind fun v1 =>
  cnd ((v1 != 0))
    (some (([] : List ApiStep), v1))
    ((Sh.step_all N p0).bind fun v3 =>
    (Sh.slices_DeleteFunc_api_Step_api_Step N v3 ((fun (x : ApiStep) => Sh.step_Enabled_1 N x p0.fVersions p0.fNow p0.fTarget p0.fTables p1.fBase p1.fNext p1.fHeld))).bind fun v4 =>
    (chk (v4.1 ≤ v4.2.length)).bind fun _ =>
    some (v4.2.take v4.1, 0))
def Sh.step_valid (N : Nat) (p0 : ApiStep) : Option Bool :=
  join (fun (v1 : Bool) =>
    cnd v1
      (some false)
      (join (fun (v5 : Bool) =>
        some v5)
      fun j5 =>
      cnd ((p0.fKind == 1))
        (j5 true)
        (j5 (p0.fVersion == 0))))
  fun j1 =>
  cnd ((decide ((minI p0.fIndex p0.fVersion) < 0)))
    (j1 true)
    (cnd ((decide (p0.fKind < 1)))
      (j1 true)
      (j1 (decide (4 < p0.fKind))))
def Sh.step_exists (N : Nat) (p0 : ApiProblem) (p1 : ApiStep) : Option Bool :=
  cnd ((p1.fKind == 3))
    (some ((decide (p1.fIndex < (p0.fTables.length : Int)))))
    (join (fun (v2 : Bool) =>
      some v2)
    fun j2 =>
    cnd ((decide (p1.fIndex < (p0.fVersions.length : Int))))
      (cnd ((p1.fKind != 1))
        (j2 true)
        ((idx p0.fVersions p1.fIndex).bind fun v5 =>
        j2 (decide (p1.fVersion < v5))))
      (j2 false))
def Sh.step_apply (N : Nat) (p0 : ApiProblem) (p1 : ApiMix) (p2 : ApiStep) : Option (ApiMix × Int) :=
  (Sh.step_valid N p2).bind fun v1 =>
  cnd ((!v1))
    (some ((ApiMix.mk (([] : List Int)) (([] : List Int)) (([] : List Int))), 1))
    ((Sh.step_exists N p0 p2).bind fun v3 =>
    cnd ((!v3))
      (some ((ApiMix.mk (([] : List Int)) (([] : List Int)) (([] : List Int))), 4))
      ((Sh.step_after N p0 p1 p2).bind fun v5 =>
      cnd ((!v5.2))
        (some ((ApiMix.mk (([] : List Int)) (([] : List Int)) (([] : List Int))), 11))
        (some (v5.1, 0))))
def Sh.step_Apply (N : Nat) (p0 : ApiProblem) (p1 : ApiMix) (p2 : ApiStep) : Option (ApiMix × Int) :=
  (Sh.mix_Valid N p0 p1).bind fun v1 =>
  cnd ((v1 != 0))
    (some ((ApiMix.mk (([] : List Int)) (([] : List Int)) (([] : List Int))), v1))
    ((Sh.step_apply N p0 p1 p2).bind fun v3 =>
    some (v3.1, v3.2))
def Sh.plan_region_L8 (N : Nat) (p0 : ApiProblem) (v2 : (List PlanNode) × (List (ByteArray × Int)) × Int) (v6 : (List ApiStep) × Int) (j8 : ((List PlanNode) × (List (ByteArray × Int))) → Option ((List PlanNode) × Int)) : Nat → ((List PlanNode) × (List (ByteArray × Int)) × Int) → Option ((List PlanNode) × Int)
  | 0, _ => none
  | n8 + 1, v8 =>
    cnd ((decide (v8.2.2 < (v6.1.length : Int))))
      ((idx v6.1 v8.2.2).bind fun v11 =>
      (idx v8.1 v2.2.2).bind fun v12 =>
      (Sh.step_Apply N p0 ((ApiMix.mk v12.fM.fBase v12.fM.fNext v12.fM.fHeld)) v11).bind fun v13 =>
      cnd ((v13.2 != 0))
        (some (([] : List PlanNode), v13.2))
        ((Sh.plan_key N v13.1).bind fun v15 =>
        join (fun (v16 : (List PlanNode) × (List (ByteArray × Int)) × Int) =>
          join (fun (v24 : (List PlanNode)) =>
            cnd ((decide (20000 < (v24.length : Int))))
              (some (([] : List PlanNode), 3))
              (Sh.plan_region_L8 N p0 v2 v6 j8 n8 (v24, v16.2.1, (IntKind.wrap .i64 (v8.2.2 + 1)))))
          fun j24 =>
          cnd ((decide (0 ≤ v16.2.2)))
            ((idx v16.1 v2.2.2).bind fun v26 =>
            (chk (v26.fNext.length + (([v16.2.2] : List Int)).length ≤ lim)).bind fun _ =>
            (idx v16.1 v2.2.2).bind fun v28 =>
            j24 (v16.1.set ((v2.2.2).toNat) ((PlanNode.mk ((ApiMix.mk v28.fM.fBase v28.fM.fNext v28.fM.fHeld)) v28.fFrom ((ApiStep.mk v28.fBy.fKind v28.fBy.fIndex v28.fBy.fVersion)) (v26.fNext ++ (([v16.2.2] : List Int)))))))
            (j24 v16.1))
        fun j16 =>
        cnd ((!((mget v15 v8.2.1).isSome)))
          (join (fun (v18 : (List PlanNode) × Int) =>
            j16 (v18.1, mset v15 v18.2 v8.2.1, v18.2))
          fun j18 =>
          (Sh.mix_Robust N p0 v13.1).bind fun v19 =>
          join (fun (v20 : Bool) =>
            cnd v20
              (j18 (v8.1, (-1)))
              ((chk (v8.1.length + (([(PlanNode.mk v13.1 v2.2.2 v11 (([] : List Int)))] : List PlanNode)).length ≤ lim)).bind fun _ =>
              j18 (v8.1 ++ (([(PlanNode.mk v13.1 v2.2.2 v11 (([] : List Int)))] : List PlanNode)), (v8.1.length : Int))))
          fun j20 =>
          cnd ((v19.2 != 0))
            (j20 true)
            (j20 (!v19.1)))
          (j16 (v8.1, v8.2.1, ((mget v15 v8.2.1).getD 0)))))
      (j8 (v8.1, v8.2.1))
def Sh.plan_region_L2 (N : Nat) (p0 : ApiProblem) (j2 : ((List PlanNode)) → Option ((List PlanNode) × Int)) : Nat → ((List PlanNode) × (List (ByteArray × Int)) × Int) → Option ((List PlanNode) × Int)
  | 0, _ => none
  | n2 + 1, v2 =>
    cnd ((decide (v2.2.2 < (v2.1.length : Int))))
      ((idx v2.1 v2.2.2).bind fun v5 =>
      (Sh.step_Enabled N p0 ((ApiMix.mk v5.fM.fBase v5.fM.fNext v5.fM.fHeld))).bind fun v6 =>
      cnd ((v6.2 != 0))
        (some (([] : List PlanNode), v6.2))
        (Sh.plan_region_L8 N p0 v2 v6 (fun (v9 : (List PlanNode) × (List (ByteArray × Int))) =>
          Sh.plan_region_L2 N p0 j2 n2 (v9.1, v9.2, (IntKind.wrap .i64 (v2.2.2 + 1)))) N (v2.1, v2.2.1, 0)))
      (j2 v2.1)
def Sh.plan_region (N : Nat) (p0 : ApiProblem) (p1 : ApiMix) : Option ((List PlanNode) × Int) :=
  (Sh.plan_key N p1).bind fun v1 =>
  Sh.plan_region_L2 N p0 (fun (v3 : (List PlanNode)) =>
    some (v3, 0)) N (([(PlanNode.mk p1 ((-1)) ((ApiStep.mk 0 0 0)) (([] : List Int)))] : List PlanNode), mset v1 0 (([] : List (ByteArray × Int))), 0)
def Sh.slices_Equal_int_int_L2 (N : Nat) (p0 : List Int) (p1 : List Int) (j2 : Unit → Option Bool) : Nat → Int → Option Bool
  | 0, _ => none
  | n2 + 1, v2 =>
    cnd ((decide (v2 < (p0.length : Int))))
      ((idx p0 v2).bind fun v5 =>
      (idx p1 v2).bind fun v6 =>
      cnd ((v5 != v6))
        (some false)
        (Sh.slices_Equal_int_int_L2 N p0 p1 j2 n2 (IntKind.wrap .i64 (v2 + 1))))
      (j2 ())
def Sh.slices_Equal_int_int (N : Nat) (p0 : List Int) (p1 : List Int) : Option Bool :=
  cnd (((p0.length : Int) != (p1.length : Int)))
    (some false)
    (Sh.slices_Equal_int_int_L2 N p0 p1 (fun (v3 : Unit) =>
      some true) N 0)
def Sh.slices_IndexFunc_int_int_L1 (N : Nat) (p0 : List Int) (p1 : Int → Option Bool) (j1 : Unit → Option Int) : Nat → Int → Option Int
  | 0, _ => none
  | n1 + 1, v1 =>
    cnd ((decide (v1 < (p0.length : Int))))
      ((idx p0 v1).bind fun v4 =>
      (p1 v4).bind fun v5 =>
      cnd v5
        (some v1)
        (Sh.slices_IndexFunc_int_int_L1 N p0 p1 j1 n1 (IntKind.wrap .i64 (v1 + 1))))
      (j1 ())
def Sh.slices_IndexFunc_int_int (N : Nat) (p0 : List Int) (p1 : Int → Option Bool) : Option Int :=
  Sh.slices_IndexFunc_int_int_L1 N p0 p1 (fun (v2 : Unit) =>
    some ((-1))) N 0
def Sh.slices_ContainsFunc_int_int (N : Nat) (p0 : List Int) (p1 : Int → Option Bool) : Option Bool :=
  (Sh.slices_IndexFunc_int_int N p0 p1).bind fun v1 =>
  some ((decide (0 ≤ v1)))
def Sh.mix_Goal_1 (N : Nat) (p0 : Int) : Option Bool :=
  some ((decide (0 ≤ p0)))
def Sh.mix_Goal (N : Nat) (p0 : ApiProblem) (p1 : ApiMix) : Option Bool :=
  join (fun (v1 : Bool) =>
    some v1)
  fun j1 =>
  (Sh.mix_Valid N p0 p1).bind fun v2 =>
  cnd ((v2 == 0))
    ((Sh.slices_Equal_int_int N p1.fBase p0.fTarget).bind fun v4 =>
    cnd v4
      ((Sh.slices_ContainsFunc_int_int N p1.fNext ((fun (x : Int) => Sh.mix_Goal_1 N x))).bind fun v6 =>
      j1 (!v6))
      (j1 false))
    (j1 false)
def Sh.plan_From_1 (N : Nat) (p0 : PlanNode) (p1 : List Int) (p2 : List Int) (p3 : List Int) (p4 : List ApiTable) : Option Bool :=
  (Sh.mix_Goal N ((ApiProblem.mk p1 p2 p3 p4)) ((ApiMix.mk p0.fM.fBase p0.fM.fNext p0.fM.fHeld))).bind fun v1 =>
  some v1
def Sh.slices_IndexFunc_plan_node_plan_node_L1 (N : Nat) (p0 : List PlanNode) (p1 : PlanNode → Option Bool) (j1 : Unit → Option Int) : Nat → Int → Option Int
  | 0, _ => none
  | n1 + 1, v1 =>
    cnd ((decide (v1 < (p0.length : Int))))
      ((idx p0 v1).bind fun v4 =>
      (p1 ((PlanNode.mk ((ApiMix.mk v4.fM.fBase v4.fM.fNext v4.fM.fHeld)) v4.fFrom ((ApiStep.mk v4.fBy.fKind v4.fBy.fIndex v4.fBy.fVersion)) v4.fNext))).bind fun v5 =>
      cnd v5
        (some v1)
        (Sh.slices_IndexFunc_plan_node_plan_node_L1 N p0 p1 j1 n1 (IntKind.wrap .i64 (v1 + 1))))
      (j1 ())
def Sh.slices_IndexFunc_plan_node_plan_node (N : Nat) (p0 : List PlanNode) (p1 : PlanNode → Option Bool) : Option Int :=
  Sh.slices_IndexFunc_plan_node_plan_node_L1 N p0 p1 (fun (v2 : Unit) =>
    some ((-1))) N 0
def Sh.slices_Reverse_api_Step_api_Step_L1 (N : Nat) (j1 : ((List ApiStep)) → Option ((List ApiStep))) : Nat → ((List ApiStep) × Int × Int) → Option ((List ApiStep))
  | 0, _ => none
  | n1 + 1, v1 =>
    cnd ((decide (v1.2.1 < v1.2.2)))
      ((idx v1.1 v1.2.2).bind fun v4 =>
      (idx v1.1 v1.2.1).bind fun v5 =>
      (idx v1.1 v1.2.1).bind fun v6 =>
      (idx (v1.1.set (v1.2.1).toNat v4) v1.2.2).bind fun v7 =>
      Sh.slices_Reverse_api_Step_api_Step_L1 N j1 n1 ((v1.1.set (v1.2.1).toNat v4).set (v1.2.2).toNat v5, (IntKind.wrap .i64 (v1.2.1 + 1)), (IntKind.wrap .i64 (v1.2.2 - 1))))
      (j1 v1.1)
def Sh.slices_Reverse_api_Step_api_Step (N : Nat) (p0 : List ApiStep) : Option ((List ApiStep)) :=
  Sh.slices_Reverse_api_Step_api_Step_L1 N (fun (v2 : (List ApiStep)) =>
    some v2) N (p0, 0, (IntKind.wrap .i64 ((p0.length : Int) - 1)))
def Sh.plan_way_L1 (N : Nat) (p0 : List PlanNode) (j1 : ((List ApiStep)) → Option ((List ApiStep))) : Nat → (Int × (List ApiStep)) → Option ((List ApiStep))
  | 0, _ => none
  | n1 + 1, v1 =>
    (idx p0 v1.1).bind fun v3 =>
    cnd ((decide (0 ≤ v3.fFrom)))
      ((idx p0 v1.1).bind fun v5 =>
      (chk (v1.2.length + (([(ApiStep.mk v5.fBy.fKind v5.fBy.fIndex v5.fBy.fVersion)] : List ApiStep)).length ≤ lim)).bind fun _ =>
      (idx p0 v1.1).bind fun v7 =>
      Sh.plan_way_L1 N p0 j1 n1 (v7.fFrom, v1.2 ++ (([(ApiStep.mk v5.fBy.fKind v5.fBy.fIndex v5.fBy.fVersion)] : List ApiStep))))
      (j1 v1.2)
def Sh.plan_way (N : Nat) (p0 : List PlanNode) (p1 : Int) : Option ((List ApiStep)) :=
  Sh.plan_way_L1 N p0 (fun (v2 : (List ApiStep)) =>
    (Sh.slices_Reverse_api_Step_api_Step N v2).bind fun v8 =>
    some v8) N (p1, ([] : List ApiStep))
def Sh.plan_From (N : Nat) (p0 : ApiProblem) (p1 : ApiMix) : Option ((List ApiStep) × Int) :=
  (Sh.mix_Robust N p0 p1).bind fun v1 =>
  cnd ((v1.2 != 0))
    (some (([] : List ApiStep), v1.2))
    (cnd ((!v1.1))
      (some (([] : List ApiStep), 13))
      ((Sh.plan_region N p0 p1).bind fun v4 =>
      cnd ((v4.2 != 0))
        (some (([] : List ApiStep), v4.2))
        ((Sh.slices_IndexFunc_plan_node_plan_node N v4.1 ((fun (x : PlanNode) => Sh.plan_From_1 N x p0.fVersions p0.fNow p0.fTarget p0.fTables))).bind fun v6 =>
        cnd ((decide (v6 < 0)))
          (some (([] : List ApiStep), 14))
          ((Sh.plan_way N v4.1 v6).bind fun v8 =>
          some (v8, 0)))))
def Sh.plan_Find (N : Nat) (p0 : ApiProblem) : Option ((List ApiStep) × Int) :=
  (Sh.mix_Start N p0).bind fun v1 =>
  cnd ((v1.2 != 0))
    (some (([] : List ApiStep), v1.2))
    ((Sh.plan_From N p0 v1.1).bind fun v3 =>
    some (v3.1, v3.2))
def Sh.plan_Failure_L5 (N : Nat) (p0 : ApiProblem) (p1 : List ApiStep) (j5 : ApiMix → Option (Int × ApiMix × ApiConflict × Int)) : Nat → (ApiMix × Int) → Option (Int × ApiMix × ApiConflict × Int)
  | 0, _ => none
  | n5 + 1, v5 =>
    cnd ((decide (v5.2 < (p1.length : Int))))
      ((idx p1 v5.2).bind fun v8 =>
      (Sh.step_Apply N p0 v5.1 v8).bind fun v9 =>
      join (fun (v10 : Bool) =>
        cnd v10
          (some (v5.2, (ApiMix.mk (([] : List Int)) (([] : List Int)) (([] : List Int))), (ApiConflict.mk 0 0 0), 0))
          ((Sh.mix_Blame N p0 v9.1).bind fun v13 =>
          cnd ((v13.2.2 == 0))
            (some (v5.2, v13.1, v13.2.1, 0))
            (Sh.plan_Failure_L5 N p0 p1 j5 n5 (v9.1, (IntKind.wrap .i64 (v5.2 + 1))))))
      fun j10 =>
      cnd ((v9.2 != 0))
        (j10 true)
        (j10 (v8.fKind == 4)))
      (j5 v5.1)
def Sh.plan_Failure (N : Nat) (p0 : ApiProblem) (p1 : List ApiStep) : Option (Int × ApiMix × ApiConflict × Int) :=
  (Sh.mix_Start N p0).bind fun v1 =>
  cnd ((v1.2 != 0))
    (some (0, (ApiMix.mk (([] : List Int)) (([] : List Int)) (([] : List Int))), (ApiConflict.mk 0 0 0), v1.2))
    ((Sh.mix_Blame N p0 v1.1).bind fun v3 =>
    cnd ((v3.2.2 == 0))
      (some ((-1), v3.1, v3.2.1, 0))
      (Sh.plan_Failure_L5 N p0 p1 (fun (v6 : ApiMix) =>
        (Sh.mix_Goal N p0 v6).bind fun v15 =>
        cnd ((!v15))
          (some ((p1.length : Int), (ApiMix.mk (([] : List Int)) (([] : List Int)) (([] : List Int))), (ApiConflict.mk 0 0 0), 14))
          (some (0, (ApiMix.mk (([] : List Int)) (([] : List Int)) (([] : List Int))), (ApiConflict.mk 0 0 0), 15))) N (v1.1, 0)))
def Sh.sheaveref37_Same_L2 (N : Nat) (p0 : List ApiStep) (p1 : List ApiStep) (j2 : Unit → Option Bool) : Nat → Int → Option Bool
  | 0, _ => none
  | n2 + 1, v2 =>
    cnd ((decide (v2 < (p0.length : Int))))
      ((idx p0 v2).bind fun v5 =>
      (idx p1 v2).bind fun v6 =>
      cnd ((!((v5.fKind == v6.fKind) && ((v5.fIndex == v6.fIndex) && ((v5.fVersion == v6.fVersion) && true)))))
        (some false)
        (Sh.sheaveref37_Same_L2 N p0 p1 j2 n2 (IntKind.wrap .i64 (v2 + 1))))
      (j2 ())
def Sh.sheaveref37_Same (N : Nat) (p0 : List ApiStep) (p1 : List ApiStep) : Option Bool :=
  cnd (((p0.length : Int) != (p1.length : Int)))
    (some false)
    (Sh.sheaveref37_Same_L2 N p0 p1 (fun (v3 : Unit) =>
      some true) N 0)
def Sh.plan_Check (N : Nat) (p0 : ApiProblem) (p1 : List ApiStep) : Option Bool :=
  (Sh.plan_Failure N p0 p1).bind fun v1 =>
  some ((v1.2.2.2 == 15))
def Sh.sheavelaw39_awake (N : Nat) : Option Bool :=
  (Sh.sheavelaw39_example N false false).bind fun v1 =>
  (Sh.plan_Find N v1).bind fun v2 =>
  (Sh.sheavelaw39_example N true false).bind fun v3 =>
  (Sh.plan_Find N v3).bind fun v4 =>
  (Sh.sheavelaw39_example N true true).bind fun v5 =>
  (Sh.plan_Find N v5).bind fun v6 =>
  (Sh.sheavelaw39_example N false false).bind fun v7 =>
  (Sh.plan_Failure N v7 (([(ApiStep.mk 1 0 1)] : List ApiStep))).bind fun v8 =>
  join (fun (v9 : Bool) =>
    some v9)
  fun j9 =>
  cnd ((v2.2 == 0))
    ((Sh.sheaveref37_Same N v2.1 (([(ApiStep.mk 1 1 1), (ApiStep.mk 2 1 0), (ApiStep.mk 1 0 1), (ApiStep.mk 2 0 0)] : List ApiStep))).bind fun v11 =>
    cnd v11
      (cnd ((v4.2 == 14))
        (cnd ((v6.2 == 14))
          (cnd ((v8.2.2.2 == 0))
            (cnd ((v8.1 == 0))
              (cnd (((v8.2.2.1.fTable == 0) && ((v8.2.2.1.fWriter == 1) && ((v8.2.2.1.fReader == 0) && true))))
                ((Sh.sheavelaw39_example N false false).bind fun v18 =>
                (Sh.plan_Check N v18 (([(ApiStep.mk 1 1 1), (ApiStep.mk 2 1 0), (ApiStep.mk 1 0 1), (ApiStep.mk 2 0 0)] : List ApiStep))).bind fun v19 =>
                j9 v19)
                (j9 false))
              (j9 false))
            (j9 false))
          (j9 false))
        (j9 false))
      (j9 false))
    (j9 false)
def Sh.sheaveref35_Few_L14 (N : Nat) (p0 : ApiProblem) (v6 : Int) (j14 : Unit → Option Bool) : Nat → Int → Option Bool
  | 0, _ => none
  | n14 + 1, v14 =>
    (idx p0.fTables v6).bind fun v16 =>
    cnd ((decide (v14 < (v16.fOK.length : Int))))
      ((idx p0.fTables v6).bind fun v18 =>
      (idx v18.fOK v14).bind fun v19 =>
      cnd ((decide (8 < (v19.length : Int))))
        (some false)
        (Sh.sheaveref35_Few_L14 N p0 v6 j14 n14 (IntKind.wrap .i64 (v14 + 1))))
      (j14 ())
def Sh.sheaveref35_Few_L21 (N : Nat) (p0 : ApiProblem) (v6 : Int) (j21 : Unit → Option Bool) : Nat → Int → Option Bool
  | 0, _ => none
  | n21 + 1, v21 =>
    (idx p0.fTables v6).bind fun v23 =>
    cnd ((decide (v21 < (v23.fRewrite.length : Int))))
      ((idx p0.fTables v6).bind fun v25 =>
      (idx v25.fRewrite v21).bind fun v26 =>
      cnd ((decide (8 < (v26.length : Int))))
        (some false)
        (Sh.sheaveref35_Few_L21 N p0 v6 j21 n21 (IntKind.wrap .i64 (v21 + 1))))
      (j21 ())
def Sh.sheaveref35_Few_L6 (N : Nat) (p0 : ApiProblem) (j6 : Unit → Option Bool) : Nat → Int → Option Bool
  | 0, _ => none
  | n6 + 1, v6 =>
    cnd ((decide (v6 < (p0.fTables.length : Int))))
      (join (fun (v9 : Bool) =>
        cnd v9
          (some false)
          (Sh.sheaveref35_Few_L14 N p0 v6 (fun (v15 : Unit) =>
            Sh.sheaveref35_Few_L21 N p0 v6 (fun (v22 : Unit) =>
              Sh.sheaveref35_Few_L6 N p0 j6 n6 (IntKind.wrap .i64 (v6 + 1))) N 0) N 0))
      fun j9 =>
      (idx p0.fTables v6).bind fun v10 =>
      cnd ((decide (8 < (v10.fOK.length : Int))))
        (j9 true)
        ((idx p0.fTables v6).bind fun v12 =>
        j9 (decide (8 < (v12.fRewrite.length : Int)))))
      (j6 ())
def Sh.sheaveref35_Few (N : Nat) (p0 : ApiProblem) : Option Bool :=
  join (fun (v1 : Bool) =>
    cnd v1
      (some false)
      (Sh.sheaveref35_Few_L6 N p0 (fun (v7 : Unit) =>
        some true) N 0))
  fun j1 =>
  cnd ((decide (8 < (p0.fVersions.length : Int))))
    (j1 true)
    (cnd ((decide (8 < (p0.fNow.length : Int))))
      (j1 true)
      (cnd ((decide (8 < (p0.fTarget.length : Int))))
        (j1 true)
        (j1 (decide (14 < (p0.fTables.length : Int))))))
def Sh.slices_Clone_api_Step_api_Step (N : Nat) (p0 : List ApiStep) : Option ((List ApiStep)) :=
  (chk ((([] : List ApiStep)).length + p0.length ≤ lim)).bind fun _ =>
  some ((([] : List ApiStep)) ++ p0)
def Sh.slices_Delete_api_Step_api_Step (N : Nat) (p0 : List ApiStep) (p1 : Int) (p2 : Int) : Option (Nat × (List ApiStep)) :=
  (chk ((0 : Int) ≤ p1 ∧ (p1).toNat ≤ (p2).toNat ∧ 0 ≤ p2 ∧ (p2).toNat ≤ ((p0.length : Int)).toNat ∧ 0 ≤ (p0.length : Int) ∧ ((p0.length : Int)).toNat ≤ p0.length)).bind fun _ =>
  cnd ((p1 == p2))
    (some (p0.length, p0))
    ((chk ((0 : Int) ≤ p1 ∧ 0 ≤ (p1).toNat ∧ (p1).toNat ≤ p0.length)).bind fun _ =>
    (chk ((0 : Int) ≤ p2 ∧ (p2).toNat ≤ p0.length ∧ p0.length ≤ p0.length)).bind fun _ =>
    (chk ((p1).toNat + (((p0.drop ((p2).toNat)).take ((p0.length - (p2).toNat)))).length ≤ p0.length)).bind fun _ =>
    (chk ((0 : Int) ≤ ((((p1).toNat + (((p0.drop ((p2).toNat)).take ((p0.length - (p2).toNat)))).length)) : Int) ∧ (0 : Int) ≤ (p0.length : Int) ∧ (((((p1).toNat + (((p0.drop ((p2).toNat)).take ((p0.length - (p2).toNat)))).length)) : Int)).toNat ≤ ((p0.length : Int)).toNat ∧ ((p0.length : Int)).toNat ≤ (spl p0 (0 + ((p1).toNat)) (((p0.drop ((p2).toNat)).take ((p0.length - (p2).toNat))))).length)).bind fun _ =>
    some (((p1).toNat + (((p0.drop ((p2).toNat)).take ((p0.length - (p2).toNat)))).length), spl (spl p0 (0 + ((p1).toNat)) (((p0.drop ((p2).toNat)).take ((p0.length - (p2).toNat))))) ((((((p1).toNat + (((p0.drop ((p2).toNat)).take ((p0.length - (p2).toNat)))).length)) : Int)).toNat) (List.replicate ((((p0.length : Int)).toNat - (((((p1).toNat + (((p0.drop ((p2).toNat)).take ((p0.length - (p2).toNat)))).length)) : Int)).toNat)) ((ApiStep.mk 0 0 0)))))
def Sh.plan_Trim_L6 (N : Nat) (p0 : ApiProblem) (j6 : ((List ApiStep)) → Option ((List ApiStep) × Int)) : Nat → ((List ApiStep) × Int) → Option ((List ApiStep) × Int)
  | 0, _ => none
  | n6 + 1, v6 =>
    cnd ((decide (0 ≤ v6.2)))
      (join (fun (v9 : (List ApiStep)) =>
        Sh.plan_Trim_L6 N p0 j6 n6 (v9, (IntKind.wrap .i64 (v6.2 - 1))))
      fun j9 =>
      (Sh.slices_Clone_api_Step_api_Step N v6.1).bind fun v10 =>
      (Sh.slices_Delete_api_Step_api_Step N v10 v6.2 ((IntKind.wrap .i64 (v6.2 + 1)))).bind fun v11 =>
      (chk (v11.1 ≤ v11.2.length)).bind fun _ =>
      (Sh.plan_Check N p0 (v11.2.take v11.1)).bind fun v14 =>
      cnd v14
        (j9 (v11.2.take v11.1))
        (j9 v6.1))
      (j6 v6.1)
def Sh.plan_Trim (N : Nat) (p0 : ApiProblem) (p1 : List ApiStep) : Option ((List ApiStep) × Int) :=
  (Sh.fleet_ValidProblem N p0).bind fun v1 =>
  cnd ((v1 != 0))
    (some (([] : List ApiStep), v1))
    ((Sh.plan_Check N p0 p1).bind fun v3 =>
    cnd ((!v3))
      (some (([] : List ApiStep), 13))
      ((Sh.slices_Clone_api_Step_api_Step N p1).bind fun v5 =>
      Sh.plan_Trim_L6 N p0 (fun (v7 : (List ApiStep)) =>
        some (v7, 0)) N (v5, (IntKind.wrap .i64 ((v5.length : Int) - 1)))))
def Sh.plan_Reversible_1 (N : Nat) (p0 : Int) : Option Bool :=
  some ((decide (0 ≤ p0)))
def Sh.step_Run_L4 (N : Nat) (p0 : ApiProblem) (p2 : List ApiStep) (j4 : ((List ApiMix)) → Option ((List ApiMix) × Int × Int)) : Nat → ((List ApiMix) × Int) → Option ((List ApiMix) × Int × Int)
  | 0, _ => none
  | n4 + 1, v4 =>
    cnd ((decide (v4.2 < (p2.length : Int))))
      ((idx p2 v4.2).bind fun v7 =>
      (idx v4.1 v4.2).bind fun v8 =>
      (Sh.step_apply N p0 v8 v7).bind fun v9 =>
      cnd ((v9.2 != 0))
        (some (([] : List ApiMix), v4.2, v9.2))
        ((chk (v4.1.length + (([v9.1] : List ApiMix)).length ≤ lim)).bind fun _ =>
        Sh.step_Run_L4 N p0 p2 j4 n4 (v4.1 ++ (([v9.1] : List ApiMix)), (IntKind.wrap .i64 (v4.2 + 1)))))
      (j4 v4.1)
def Sh.step_Run (N : Nat) (p0 : ApiProblem) (p1 : ApiMix) (p2 : List ApiStep) : Option ((List ApiMix) × Int × Int) :=
  (Sh.mix_Valid N p0 p1).bind fun v1 =>
  cnd ((v1 != 0))
    (some (([] : List ApiMix), 0, v1))
    ((Sh.step_cloned N p1).bind fun v3 =>
    Sh.step_Run_L4 N p0 p2 (fun (v5 : (List ApiMix)) =>
      some (v5, (p2.length : Int), 0)) N (([v3] : List ApiMix), 0))
def Sh.cmp_isNaN_int (N : Nat) (p0 : Int) : Option Bool :=
  some ((p0 != p0))
def Sh.cmp_Compare_int (N : Nat) (p0 : Int) (p1 : Int) : Option Int :=
  (Sh.cmp_isNaN_int N p0).bind fun v1 =>
  (Sh.cmp_isNaN_int N p1).bind fun v2 =>
  cnd v1
    (cnd v2
      (some 0)
      (some ((-1))))
    (cnd v2
      (some 1)
      (cnd ((decide (p0 < p1)))
        (some ((-1)))
        (cnd ((decide (p1 < p0)))
          (some 1)
          (some 0))))
def Sh.slices_Compare_int_int_L1 (N : Nat) (p0 : List Int) (p1 : List Int) (j1 : Unit → Option Int) : Nat → Int → Option Int
  | 0, _ => none
  | n1 + 1, v1 =>
    cnd ((decide (v1 < (p0.length : Int))))
      ((idx p0 v1).bind fun v4 =>
      cnd ((decide ((p1.length : Int) ≤ v1)))
        (some 1)
        ((idx p1 v1).bind fun v6 =>
        (Sh.cmp_Compare_int N v4 v6).bind fun v7 =>
        cnd ((v7 != 0))
          (some v7)
          (Sh.slices_Compare_int_int_L1 N p0 p1 j1 n1 (IntKind.wrap .i64 (v1 + 1)))))
      (j1 ())
def Sh.slices_Compare_int_int (N : Nat) (p0 : List Int) (p1 : List Int) : Option Int :=
  Sh.slices_Compare_int_int_L1 N p0 p1 (fun (v2 : Unit) =>
    cnd ((decide ((p0.length : Int) < (p1.length : Int))))
      (some ((-1)))
      (some 0)) N 0
def Sh.cmp_isNaN_api_Set (N : Nat) (p0 : Int) : Option Bool :=
  some ((p0 != p0))
def Sh.cmp_Compare_api_Set (N : Nat) (p0 : Int) (p1 : Int) : Option Int :=
  (Sh.cmp_isNaN_api_Set N p0).bind fun v1 =>
  (Sh.cmp_isNaN_api_Set N p1).bind fun v2 =>
  cnd v1
    (cnd v2
      (some 0)
      (some ((-1))))
    (cnd v2
      (some 1)
      (cnd ((decide (p0 < p1)))
        (some ((-1)))
        (cnd ((decide (p1 < p0)))
          (some 1)
          (some 0))))
def Sh.slices_Compare_api_Set_api_Set_L1 (N : Nat) (p0 : List Int) (p1 : List Int) (j1 : Unit → Option Int) : Nat → Int → Option Int
  | 0, _ => none
  | n1 + 1, v1 =>
    cnd ((decide (v1 < (p0.length : Int))))
      ((idx p0 v1).bind fun v4 =>
      cnd ((decide ((p1.length : Int) ≤ v1)))
        (some 1)
        ((idx p1 v1).bind fun v6 =>
        (Sh.cmp_Compare_api_Set N v4 v6).bind fun v7 =>
        cnd ((v7 != 0))
          (some v7)
          (Sh.slices_Compare_api_Set_api_Set_L1 N p0 p1 j1 n1 (IntKind.wrap .i64 (v1 + 1)))))
      (j1 ())
def Sh.slices_Compare_api_Set_api_Set (N : Nat) (p0 : List Int) (p1 : List Int) : Option Int :=
  Sh.slices_Compare_api_Set_api_Set_L1 N p0 p1 (fun (v2 : Unit) =>
    cnd ((decide ((p0.length : Int) < (p1.length : Int))))
      (some ((-1)))
      (some 0)) N 0
def Sh.cmp_Or_int_L1 (N : Nat) (p0 : List Int) (j1 : Unit → Option Int) : Nat → Int → Option Int
  | 0, _ => none
  | n1 + 1, v1 =>
    cnd ((decide (v1 < (p0.length : Int))))
      ((idx p0 v1).bind fun v4 =>
      cnd ((v4 != 0))
        (some v4)
        (Sh.cmp_Or_int_L1 N p0 j1 n1 (IntKind.wrap .i64 (v1 + 1))))
      (j1 ())
def Sh.cmp_Or_int (N : Nat) (p0 : List Int) : Option Int :=
  Sh.cmp_Or_int_L1 N p0 (fun (v2 : Unit) =>
    some 0) N 0
def Sh.mix_Compare (N : Nat) (p0 : ApiMix) (p1 : ApiMix) : Option Int :=
  (Sh.slices_Compare_int_int N p0.fBase p1.fBase).bind fun v1 =>
  (Sh.slices_Compare_int_int N p0.fNext p1.fNext).bind fun v2 =>
  (Sh.slices_Compare_api_Set_api_Set N p0.fHeld p1.fHeld).bind fun v3 =>
  (Sh.cmp_Or_int N (([v1, v2, v3] : List Int))).bind fun v4 =>
  some v4
def Sh.plan_Reversible_3 (N : Nat) (p0 : PlanNode) (p1 : List Int) (p2 : List Int) (p3 : List Int) : Option Bool :=
  (Sh.mix_Compare N ((ApiMix.mk p0.fM.fBase p0.fM.fNext p0.fM.fHeld)) ((ApiMix.mk p1 p2 p3))).bind fun v1 =>
  some ((v1 == 0))
def Sh.plan_Reversible_L8 (N : Nat) (p0 : ApiProblem) (v5 : (List PlanNode) × Int) (j8 : ((List Bool)) → Option (Bool × Int)) : Nat → ((List Bool) × Int) → Option (Bool × Int)
  | 0, _ => none
  | n8 + 1, v8 =>
    cnd ((decide (v8.2 < (v5.1.length : Int))))
      (join (fun (v11 : (List Bool)) =>
        Sh.plan_Reversible_L8 N p0 v5 j8 n8 (v11, (IntKind.wrap .i64 (v8.2 + 1))))
      fun j11 =>
      (idx v5.1 v8.2).bind fun v12 =>
      (Sh.slices_Equal_int_int N v12.fM.fBase p0.fNow).bind fun v13 =>
      cnd v13
        ((Sh.slices_ContainsFunc_int_int N v12.fM.fNext ((fun (x : Int) => Sh.plan_Reversible_1 N x))).bind fun v15 =>
        (idx v8.1 v8.2).bind fun v16 =>
        j11 (v8.1.set (v8.2).toNat ((!v15))))
        ((idx v8.1 v8.2).bind fun v17 =>
        j11 (v8.1.set (v8.2).toNat false)))
      (j8 v8.1)
def Sh.plan_Reversible_L18 (N : Nat) (j18 : Unit → Option (Bool × Int)) : Nat → Unit → Option (Bool × Int)
  | 0, _ => none
  | n18 + 1, v18 =>
    cnd true
      (none)
      (j18 ())
def Sh.plan_Reversible_L89 (N : Nat) (v5 : (List PlanNode) × Int) (v9 : (List Bool)) (v87 : (List ApiMix) × Int × Int) (j89 : Unit → Option (Bool × Int)) : Nat → Int → Option (Bool × Int)
  | 0, _ => none
  | n89 + 1, v89 =>
    cnd ((decide (v89 < (v87.1.length : Int))))
      ((idx v87.1 v89).bind fun v92 =>
      (Sh.slices_IndexFunc_plan_node_plan_node N v5.1 ((fun (x : PlanNode) => Sh.plan_Reversible_3 N x v92.fBase v92.fNext v92.fHeld))).bind fun v93 =>
      join (fun (v94 : Bool) =>
        cnd v94
          (some (false, 0))
          (Sh.plan_Reversible_L89 N v5 v9 v87 j89 n89 (IntKind.wrap .i64 (v89 + 1))))
      fun j94 =>
      cnd ((decide (v93 < 0)))
        (j94 true)
        ((idx v9 v93).bind fun v96 =>
        j94 (!v96)))
      (j89 ())
def Sh.plan_Reversible (N : Nat) (p0 : ApiProblem) (p1 : List ApiStep) : Option (Bool × Int) :=
  (Sh.mix_Start N p0).bind fun v1 =>
  cnd ((v1.2 != 0))
    (some (false, v1.2))
    ((Sh.plan_Check N p0 p1).bind fun v3 =>
    cnd ((!v3))
      (some (false, 13))
      ((Sh.plan_region N p0 v1.1).bind fun v5 =>
      cnd ((v5.2 != 0))
        (some (false, v5.2))
        ((chk ((0 : Int) ≤ (v5.1.length : Int) ∧ (v5.1.length : Int) ≤ (v5.1.length : Int) ∧ (v5.1.length : Int) ≤ (lim : Int))).bind fun _ =>
        Sh.plan_Reversible_L8 N p0 v5 (fun (v9 : (List Bool)) =>
          Sh.plan_Reversible_L18 N (fun (v19 : Unit) =>
            (Sh.step_Run N p0 v1.1 p1).bind fun v87 =>
            cnd ((v87.2.2 != 0))
              (some (false, v87.2.2))
              (Sh.plan_Reversible_L89 N v5 v9 v87 (fun (v90 : Unit) =>
                some (true, 0)) N 0)) N ()) N (List.replicate ((v5.1.length : Int)).toNat false, 0))))
def Sh.sheavelaw39_PlanErrors (N : Nat) (p0 : ApiProblem) (p1 : List ApiStep) : Option Bool :=
  (Sh.sheaveref35_ValidProblem N p0).bind fun v1 =>
  join (fun (v2 : Bool) =>
    cnd v2
      ((Sh.sheavelaw39_awake N).bind fun v9 =>
      some v9)
      ((Sh.plan_Find N p0).bind fun v10 =>
      (Sh.plan_Trim N p0 p1).bind fun v11 =>
      (Sh.plan_From N p0 ((ApiMix.mk (([] : List Int)) (([] : List Int)) (([] : List Int))))).bind fun v12 =>
      (Sh.plan_Reversible N p0 p1).bind fun v13 =>
      (Sh.plan_Failure N p0 p1).bind fun v14 =>
      join (fun (v15 : Bool) =>
        some v15)
      fun j15 =>
      cnd ((v10.2 == v1))
        (cnd ((v11.2 == v1))
          (cnd ((v12.2 == v1))
            (cnd ((v13.2 == v1))
              (cnd ((v14.2.2.2 == v1))
                (cnd ((!v13.1))
                  (cnd (((IntKind.wrap .i64 ((IntKind.wrap .i64 ((v10.1.length : Int) + (v11.1.length : Int))) + (v12.1.length : Int))) == 0))
                    ((Sh.plan_Check N p0 p1).bind fun v23 =>
                    j15 (!v23))
                    (j15 false))
                  (j15 false))
                (j15 false))
              (j15 false))
            (j15 false))
          (j15 false))
        (j15 false)))
  fun j2 =>
  (Sh.sheavelaw39_awake N).bind fun v3 =>
  cnd ((!v3))
    (j2 true)
    ((Sh.sheaveref35_Few N p0).bind fun v5 =>
    cnd ((!v5))
      (j2 true)
      (cnd ((decide (30 < (p1.length : Int))))
        (j2 true)
        (j2 (v1 == 0))))
def wSl {α : Type} (w : α → Prop) (xs : List α) : Prop := ∀ x, x ∈ xs → w x
def wI64 (n : Int) : Prop := (Lit.int .i64 n).wf = true
def wU8 (n : Int) : Prop := (Lit.int .u8 n).wf = true
def wApiTable (x : ApiTable) : Prop := wI64 x.fKind ∧ wI64 x.fFrom ∧ wI64 x.fTo ∧ (fun _ => True) x.fAware ∧ (wSl (wSl (fun _ => True))) x.fOK ∧ (wSl (wSl (fun _ => True))) x.fRewrite ∧ True
def wApiProblem (x : ApiProblem) : Prop := (wSl wI64) x.fVersions ∧ (wSl wI64) x.fNow ∧ (wSl wI64) x.fTarget ∧ (wSl wApiTable) x.fTables ∧ True
def wApiStep (x : ApiStep) : Prop := wI64 x.fKind ∧ wI64 x.fIndex ∧ wI64 x.fVersion ∧ True
end Go.Lift

/- That the code does what the shallow programs do, function by function. Written by a program (gen.py). -/
namespace Go.Lift
open Go.RowKit
open Go.Proofs
theorem mixed : Try.prog.follows .mixedOrders = true := by kernel_rfl
theorem ag101 : aggB Try.prog 101 true = true := by kernel_rfl
theorem ag27 : aggB Try.prog 27 false = true := by kernel_rfl
theorem ag28 : aggB Try.prog 28 false = true := by kernel_rfl
theorem ag3 : aggB Try.prog 3 false = true := by kernel_rfl
theorem ag30 : aggB Try.prog 30 true = true := by kernel_rfl
theorem ag4 : aggB Try.prog 4 false = true := by kernel_rfl
theorem ag41 : aggB Try.prog 41 false = true := by kernel_rfl
theorem ag43 : aggB Try.prog 43 true = true := by kernel_rfl
theorem ag45 : aggB Try.prog 45 true = true := by kernel_rfl
theorem ag63 : aggB Try.prog 63 true = true := by kernel_rfl
theorem ag73 : aggB Try.prog 73 false = true := by kernel_rfl
theorem ag75 : aggB Try.prog 75 true = true := by kernel_rfl
theorem ag76 : aggB Try.prog 76 false = true := by kernel_rfl
theorem ag87 : aggB Try.prog 87 false = true := by kernel_rfl
theorem bsl22 : bytesSl Try.prog 22 = true := by kernel_rfl
theorem byt101 : bytesB Try.prog 101 128 = true := by kernel_rfl
theorem byt3 : bytesB Try.prog 3 8 = true := by kernel_rfl
theorem byt4 : bytesB Try.prog 4 1 = true := by kernel_rfl
theorem byt43 : bytesB Try.prog 43 72 = true := by kernel_rfl
theorem byt45 : bytesB Try.prog 45 24 = true := by kernel_rfl
theorem byt5 : bytesB Try.prog 5 1 = true := by kernel_rfl
theorem byt63 : bytesB Try.prog 63 24 = true := by kernel_rfl
theorem byt87 : bytesB Try.prog 87 1 = true := by kernel_rfl
theorem fld101_0 : fieldB Try.prog 101 0 0 = true := by kernel_rfl
theorem fld101_1 : fieldB Try.prog 101 1 3 = true := by kernel_rfl
theorem fld101_2 : fieldB Try.prog 101 2 4 = true := by kernel_rfl
theorem fld101_3 : fieldB Try.prog 101 3 7 = true := by kernel_rfl
theorem fld30_0 : fieldB Try.prog 30 0 0 = true := by kernel_rfl
theorem fld30_1 : fieldB Try.prog 30 1 1 = true := by kernel_rfl
theorem fld30_2 : fieldB Try.prog 30 2 2 = true := by kernel_rfl
theorem fld30_3 : fieldB Try.prog 30 3 3 = true := by kernel_rfl
theorem fld43_0 : fieldB Try.prog 43 0 0 = true := by kernel_rfl
theorem fld43_1 : fieldB Try.prog 43 1 1 = true := by kernel_rfl
theorem fld43_2 : fieldB Try.prog 43 2 2 = true := by kernel_rfl
theorem fld63_0 : fieldB Try.prog 63 0 0 = true := by kernel_rfl
theorem fld63_1 : fieldB Try.prog 63 1 1 = true := by kernel_rfl
theorem fld63_2 : fieldB Try.prog 63 2 2 = true := by kernel_rfl
theorem fld75_0 : fieldB Try.prog 75 0 0 = true := by kernel_rfl
theorem fld75_1 : fieldB Try.prog 75 1 1 = true := by kernel_rfl
theorem fld75_2 : fieldB Try.prog 75 2 2 = true := by kernel_rfl
theorem fld75_3 : fieldB Try.prog 75 3 3 = true := by kernel_rfl
theorem fld75_4 : fieldB Try.prog 75 4 4 = true := by kernel_rfl
theorem fld75_5 : fieldB Try.prog 75 5 5 = true := by kernel_rfl
theorem gd100 : goodFn Try.prog 100 = true := by kernel_rfl
theorem gd101 : goodFn Try.prog 101 = true := by kernel_rfl
theorem gd102 : goodFn Try.prog 102 = true := by kernel_rfl
theorem gd103 : goodFn Try.prog 103 = true := by kernel_rfl
theorem gd104 : goodFn Try.prog 104 = true := by kernel_rfl
theorem gd105 : goodFn Try.prog 105 = true := by kernel_rfl
theorem gd106 : goodFn Try.prog 106 = true := by kernel_rfl
theorem gd107 : goodFn Try.prog 107 = true := by kernel_rfl
theorem gd108 : goodFn Try.prog 108 = true := by kernel_rfl
theorem gd109 : goodFn Try.prog 109 = true := by kernel_rfl
theorem gd11 : goodFn Try.prog 11 = true := by kernel_rfl
theorem gd110 : goodFn Try.prog 110 = true := by kernel_rfl
theorem gd111 : goodFn Try.prog 111 = true := by kernel_rfl
theorem gd112 : goodFn Try.prog 112 = true := by kernel_rfl
theorem gd113 : goodFn Try.prog 113 = true := by kernel_rfl
theorem gd114 : goodFn Try.prog 114 = true := by kernel_rfl
theorem gd115 : goodFn Try.prog 115 = true := by kernel_rfl
theorem gd116 : goodFn Try.prog 116 = true := by kernel_rfl
theorem gd117 : goodFn Try.prog 117 = true := by kernel_rfl
theorem gd118 : goodFn Try.prog 118 = true := by kernel_rfl
theorem gd119 : goodFn Try.prog 119 = true := by kernel_rfl
theorem gd120 : goodFn Try.prog 120 = true := by kernel_rfl
theorem gd121 : goodFn Try.prog 121 = true := by kernel_rfl
theorem gd122 : goodFn Try.prog 122 = true := by kernel_rfl
theorem gd123 : goodFn Try.prog 123 = true := by kernel_rfl
theorem gd13 : goodFn Try.prog 13 = true := by kernel_rfl
theorem gd15 : goodFn Try.prog 15 = true := by kernel_rfl
theorem gd16 : goodFn Try.prog 16 = true := by kernel_rfl
theorem gd17 : goodFn Try.prog 17 = true := by kernel_rfl
theorem gd19 : goodFn Try.prog 19 = true := by kernel_rfl
theorem gd27 : goodFn Try.prog 27 = true := by kernel_rfl
theorem gd31 : goodFn Try.prog 31 = true := by kernel_rfl
theorem gd33 : goodFn Try.prog 33 = true := by kernel_rfl
theorem gd34 : goodFn Try.prog 34 = true := by kernel_rfl
theorem gd35 : goodFn Try.prog 35 = true := by kernel_rfl
theorem gd37 : goodFn Try.prog 37 = true := by kernel_rfl
theorem gd38 : goodFn Try.prog 38 = true := by kernel_rfl
theorem gd39 : goodFn Try.prog 39 = true := by kernel_rfl
theorem gd40 : goodFn Try.prog 40 = true := by kernel_rfl
theorem gd46 : goodFn Try.prog 46 = true := by kernel_rfl
theorem gd54 : goodFn Try.prog 54 = true := by kernel_rfl
theorem gd55 : goodFn Try.prog 55 = true := by kernel_rfl
theorem gd56 : goodFn Try.prog 56 = true := by kernel_rfl
theorem gd57 : goodFn Try.prog 57 = true := by kernel_rfl
theorem gd58 : goodFn Try.prog 58 = true := by kernel_rfl
theorem gd61 : goodFn Try.prog 61 = true := by kernel_rfl
theorem gd62 : goodFn Try.prog 62 = true := by kernel_rfl
theorem gd63 : goodFn Try.prog 63 = true := by kernel_rfl
theorem gd64 : goodFn Try.prog 64 = true := by kernel_rfl
theorem gd65 : goodFn Try.prog 65 = true := by kernel_rfl
theorem gd66 : goodFn Try.prog 66 = true := by kernel_rfl
theorem gd67 : goodFn Try.prog 67 = true := by kernel_rfl
theorem gd69 : goodFn Try.prog 69 = true := by kernel_rfl
theorem gd70 : goodFn Try.prog 70 = true := by kernel_rfl
theorem gd71 : goodFn Try.prog 71 = true := by kernel_rfl
theorem gd72 : goodFn Try.prog 72 = true := by kernel_rfl
theorem gd73 : goodFn Try.prog 73 = true := by kernel_rfl
theorem gd74 : goodFn Try.prog 74 = true := by kernel_rfl
theorem gd75 : goodFn Try.prog 75 = true := by kernel_rfl
theorem gd76 : goodFn Try.prog 76 = true := by kernel_rfl
theorem gd77 : goodFn Try.prog 77 = true := by kernel_rfl
theorem gd78 : goodFn Try.prog 78 = true := by kernel_rfl
theorem gd79 : goodFn Try.prog 79 = true := by kernel_rfl
theorem gd86 : goodFn Try.prog 86 = true := by kernel_rfl
theorem gd87 : goodFn Try.prog 87 = true := by kernel_rfl
theorem gd88 : goodFn Try.prog 88 = true := by kernel_rfl
theorem gd89 : goodFn Try.prog 89 = true := by kernel_rfl
theorem gd90 : goodFn Try.prog 90 = true := by kernel_rfl
theorem gd91 : goodFn Try.prog 91 = true := by kernel_rfl
theorem gd92 : goodFn Try.prog 92 = true := by kernel_rfl
theorem gd93 : goodFn Try.prog 93 = true := by kernel_rfl
theorem gd94 : goodFn Try.prog 94 = true := by kernel_rfl
theorem gd95 : goodFn Try.prog 95 = true := by kernel_rfl
theorem gd96 : goodFn Try.prog 96 = true := by kernel_rfl
theorem gd97 : goodFn Try.prog 97 = true := by kernel_rfl
theorem gd98 : goodFn Try.prog 98 = true := by kernel_rfl
theorem gd99 : goodFn Try.prog 99 = true := by kernel_rfl
theorem in133 : intB Try.prog 133 .u64 = true := by kernel_rfl
theorem in143 : intB Try.prog 143 .u32 = true := by kernel_rfl
theorem in146 : intB Try.prog 146 .u64 = true := by kernel_rfl
theorem in3 : intB Try.prog 3 .i64 = true := by kernel_rfl
theorem in5 : intB Try.prog 5 .u8 = true := by kernel_rfl
theorem kst9 : Try.prog.underlying 9 = some .string := by kernel_rfl
theorem mpt125 : Try.prog.underlying 125 = some (.map 9 3) := by kernel_rfl
theorem pl101 : placesB Try.prog 101 = some [(0, 3), (3, 1), (4, 3), (7, 1)] := by kernel_rfl
theorem pl30 : placesB Try.prog 30 = some [(0, 1), (1, 1), (2, 1), (3, 1)] := by kernel_rfl
theorem pl43 : placesB Try.prog 43 = some [(0, 1), (1, 1), (2, 1)] := by kernel_rfl
theorem pl45 : placesB Try.prog 45 = some [(0, 1), (1, 1), (2, 1)] := by kernel_rfl
theorem pl63 : placesB Try.prog 63 = some [(0, 1), (1, 1), (2, 1)] := by kernel_rfl
theorem pl75 : placesB Try.prog 75 = some [(0, 1), (1, 1), (2, 1), (3, 1), (4, 1), (5, 1)] := by kernel_rfl
theorem seq45 : seqB Try.prog 45 = some [0, 0, 0] := by kernel_rfl
theorem seq63 : seqB Try.prog 63 = some [0, 0, 0] := by kernel_rfl
theorem slc118 : sliceB Try.prog 118 45 = true := by kernel_rfl
theorem slc22 : sliceB Try.prog 22 5 = true := by kernel_rfl
theorem slc27 : sliceB Try.prog 27 3 = true := by kernel_rfl
theorem slc28 : sliceB Try.prog 28 75 = true := by kernel_rfl
theorem slc33 : sliceB Try.prog 33 63 = true := by kernel_rfl
theorem slc41 : sliceB Try.prog 41 87 = true := by kernel_rfl
theorem slc73 : sliceB Try.prog 73 76 = true := by kernel_rfl
theorem slc76 : sliceB Try.prog 76 4 = true := by kernel_rfl
theorem slc89 : sliceB Try.prog 89 43 = true := by kernel_rfl
theorem slc96 : sliceB Try.prog 96 101 = true := by kernel_rfl
theorem so133 : (Try.prog.underlying 133).isSome = true := by kernel_rfl
theorem so143 : (Try.prog.underlying 143).isSome = true := by kernel_rfl
theorem so146 : (Try.prog.underlying 146).isSome = true := by kernel_rfl
theorem so3 : (Try.prog.underlying 3).isSome = true := by kernel_rfl
theorem so5 : (Try.prog.underlying 5).isSome = true := by kernel_rfl
theorem str9 : strB' Try.prog 9 = true := by kernel_rfl
theorem sz101 : szB Try.prog 101 8 = true := by kernel_rfl
theorem sz27 : szB Try.prog 27 1 = true := by kernel_rfl
theorem sz3 : szB Try.prog 3 1 = true := by kernel_rfl
theorem sz30 : szB Try.prog 30 4 = true := by kernel_rfl
theorem sz4 : szB Try.prog 4 1 = true := by kernel_rfl
theorem sz43 : szB Try.prog 43 3 = true := by kernel_rfl
theorem sz45 : szB Try.prog 45 3 = true := by kernel_rfl
theorem sz5 : szB Try.prog 5 1 = true := by kernel_rfl
theorem sz63 : szB Try.prog 63 3 = true := by kernel_rfl
theorem sz75 : szB Try.prog 75 6 = true := by kernel_rfl
theorem sz76 : szB Try.prog 76 1 = true := by kernel_rfl
theorem sz87 : szB Try.prog 87 1 = true := by kernel_rfl
theorem zv101 : zeroB Try.prog 101 = some (.agg #[.slice none 0 0, .slice none 0 0, .slice none 0 0, .int .i64 0, .int .i64 0, .int .i64 0, .int .i64 0, .slice none 0 0]) := by kernel_rfl
theorem zv3 : zeroB Try.prog 3 = some (.int .i64 0) := by kernel_rfl
theorem zv30 : zeroB Try.prog 30 = some (.agg #[.slice none 0 0, .slice none 0 0, .slice none 0 0, .slice none 0 0]) := by kernel_rfl
theorem zv4 : zeroB Try.prog 4 = some (.bool false) := by kernel_rfl
theorem zv43 : zeroB Try.prog 43 = some (.agg #[.slice none 0 0, .slice none 0 0, .slice none 0 0]) := by kernel_rfl
theorem zv45 : zeroB Try.prog 45 = some (.agg #[.int .i64 0, .int .i64 0, .int .i64 0]) := by kernel_rfl
theorem zv5 : zeroB Try.prog 5 = some (.int .u8 0) := by kernel_rfl
theorem zv63 : zeroB Try.prog 63 = some (.agg #[.int .i64 0, .int .i64 0, .int .i64 0]) := by kernel_rfl
theorem zv75 : zeroB Try.prog 75 = some (.agg #[.int .i64 0, .int .i64 0, .int .i64 0, .bool false, .slice none 0 0, .slice none 0 0]) := by kernel_rfl
theorem zv76 : zeroB Try.prog 76 = some (.slice none 0 0) := by kernel_rfl
theorem zv87 : zeroB Try.prog 87 = some (.int .u8 0) := by kernel_rfl
end Go.Lift

/- That the code does what the shallow programs do, function by function. Written by a program (gen.py). -/
namespace Go.Lift
open Go.RowKit
open Go.Proofs
set_option maxRecDepth 10000 in
theorem sheaveref35_Stored_c (N : Nat) (p0 : ApiTable) (r : Bool) (h : Sh.sheaveref35_Stored N p0 = some r) : Contract Try.prog 46 [.e (.agg [.pure (.val (.int .i64 p0.fKind)), .pure (.val (.int .i64 p0.fFrom)), .pure (.val (.int .i64 p0.fTo)), .pure (.val (.bool p0.fAware)), .pure (.sl (p0.fOK.map (eSl eB))), .pure (.sl (p0.fRewrite.map (eSl eB)))])] [] (.e (.one (.pure (.val (.bool r))))) := by
  unfold Sh.sheaveref35_Stored at h
  refine contract_of_W (n := 11) (rs := [.tmp 2]) Try.func46 rfl rfl rfl (leb rfl) (leb rfl) rfl fun w0 S0 => ?_
  refine W_seq (W_region mixed rfl (r_box (.p rfl) rfl rfl (r_assign (.p rfl) rfl (r_end ?_))))
  refine W_join h (fun v1 => mk [(2, .e (.one (.pure (.val (.bool v1)))))] []) (fun j1 h => ?_) (fun v1 h => ?_)
  · refine W_region mixed rfl (r_fieldAddr (.p rfl) rfl fld75_0 (r_load1 (.p rfl) rfl ag3 rfl rfl (r_bin (.p rfl) rfl rfl (bin_eql _ _ _ _ _ _) rfl (r_move (.p rfl) rfl ?_))))
    refine r_split (t := 6) rfl (fun c2 => ?_) (fun c2 => ?_)
    · have h := cnd_t c2 h
      refine r_notB rfl rfl (r_notB rfl rfl (r_notB rfl rfl (r_pick (.p rfl) rfl rfl rfl (r_assign (.p rfl) rfl (r_end ?_)))))
      exact sink true h (sees_mkL (rn []) _ _ ⟨rfl, trivial⟩ trivial rfl rfl)
    · have h := cnd_f c2 h
      refine r_fieldAddr (.g rfl rfl) rfl fld75_0 (r_load1 (.g rfl rfl) rfl ag3 rfl rfl (r_bin (.g rfl rfl) rfl rfl (bin_eql _ _ _ _ _ _) rfl (r_pick (.p rfl) rfl rfl rfl (r_assign (.p rfl) rfl (r_end ?_)))))
      exact sink (p0.fKind == 4) h (sees_mkL (rn []) _ _ ⟨rfl, trivial⟩ trivial rfl rfl)
  · obtain rfl := Option.some.inj h
    refine W_sees (sees_mkL (rn []) [(2, .e (.one (.pure (.val (.bool v1)))))] [] ⟨rfl, trivial⟩ trivial rfl rfl) (W_ret ?_)
    exact ⟨⟨[_], ⟨.tmp _ _ rfl, trivial⟩, rfl⟩, trivial⟩
set_option maxRecDepth 10000 in
theorem sheaveref35_square_c (N : Nat) (p0 : List (List Bool)) (p1 : Int) (p2 : Int) (r : Bool) (h : Sh.sheaveref35_square N p0 p1 p2 = some r) : Contract Try.prog 91 [.e (.one (.pure (.sl (p0.map (eSl eB))))), .e (.one (.pure (.val (.int .i64 p1)))), .e (.one (.pure (.val (.int .i64 p2))))] [] (.e (.one (.pure (.val (.bool r))))) := by
  unfold Sh.sheaveref35_square at h
  refine contract_of_W (n := 24) (rs := [.tmp 6]) Try.func91 rfl rfl rfl (leb rfl) (leb rfl) rfl fun w0 S0 => ?_
  refine W_seq (W_region mixed rfl (r_assign (.p rfl) rfl (r_end (W_seq (W_seq (W_region mixed rfl (r_move (.p rfl) rfl (r_len (.p rfl) rfl (.sl _) trivial (List.length_map _) slc73 (r_move (.p rfl) rfl (r_bin (.p rfl) rfl rfl (bin_neq _ _ _ _ _ _) rfl (r_end ?_)))))))))))
  refine W_cond rfl (fun c1 => ?_) (fun c1 => ?_)
  · have h := cnd_t c1 h
    refine W_seq (W_region mixed rfl (r_assign (.p rfl) rfl (r_end ?_)))
    obtain rfl := Option.some.inj h
    refine W_sees (sees_mkL (rn []) [(6, .e (.one (.pure (.val (.bool false)))))] [] ⟨rfl, trivial⟩ trivial rfl rfl) (W_ret ?_)
    exact ⟨⟨[_], ⟨.tmp _ _ rfl, trivial⟩, rfl⟩, trivial⟩
  · have h := cnd_f c1 h
    refine W_skip (W_seq (W_seq (W_region mixed rfl (r_assign (.p rfl) rfl (r_end ?_)))))
    refine W_whileE (L := Sh.sheaveref35_square_L2 N p0 p1 p2) h (fun v2 => mk [(0, .e (.one (.pure (.sl (p0.map (eSl eB)))))), (1, .e (.one (.pure (.val (.int .i64 p1))))), (2, .e (.one (.pure (.val (.int .i64 p2))))), (7, .e (.one (.pure (.val (.int .i64 v2)))))] []) (fun v3 => mk [] []) (fun _ _ => rfl) (sees_mkL (rn []) _ _ ⟨rfl, rfl, rfl, rfl, trivial⟩ trivial rfl rfl) (fun j2 n2 v2 h => ?_) (fun v3 s h hs => ?_)
    · unfold Sh.sheaveref35_square_L2 at h
      refine W_seq (W_seq (W_region mixed rfl (r_move (.p rfl) rfl (r_move (.p rfl) rfl (r_bin (.p rfl) rfl rfl (bin_lss _ _ _ _ _ _) rfl (r_end ?_))))))
      refine W_cond rfl (fun c4 => ?_) (fun c4 => ?_)
      · have h := cnd_t c4 h
        refine W_skip (W_seq (W_block (W_seq (W_region mixed rfl (r_move (.p rfl) rfl (r_move (.p rfl) rfl ?_))))))
        obtain ⟨v5, a5, b5, h⟩ := idx_bind h
        refine r_index (.p rfl) rfl rfl slc73 sz76 a5 (map_get b5) rfl (r_loadr1 (.p rfl) rfl ag76 rfl (r_len (.p rfl) rfl (.sl _) trivial (List.length_map _) slc76 (r_move (.p rfl) rfl (r_bin (.p rfl) rfl rfl (bin_neq _ _ _ _ _ _) rfl (r_end ?_)))))
        refine W_cond rfl (fun c6 => ?_) (fun c6 => ?_)
        · have h := cnd_t c6 h
          refine W_seq (W_region mixed rfl (r_assign (.p rfl) rfl (r_end ?_)))
          obtain rfl := Option.some.inj h
          refine W_sees (sees_mkL (rn []) [(6, .e (.one (.pure (.val (.bool false)))))] [] ⟨rfl, trivial⟩ trivial rfl rfl) (W_ret ?_)
          exact ⟨⟨[_], ⟨.tmp _ _ rfl, trivial⟩, rfl⟩, trivial⟩
        · have h := cnd_f c6 h
          refine W_skip (W_region mixed rfl (r_move (.p rfl) rfl (r_bin (.p rfl) rfl rfl (bin_add _ _ _ _ _ _) rfl (r_assign (.p rfl) rfl (r_end ?_)))))
          exact sink (IntKind.wrap .i64 (v2 + 1)) h (sees_mkL (rn []) _ _ ⟨rfl, rfl, rfl, rfl, trivial⟩ trivial rfl rfl)
      · have h := cnd_f c4 h
        refine W_exit ?_
        exact sink () h (sees_mkL (rn []) _ _ trivial trivial rfl rfl)
    · refine W_sees hs (W_seq (W_region mixed rfl (r_assign (.p rfl) rfl (r_end ?_))))
      obtain rfl := Option.some.inj h
      refine W_sees (sees_mkL (rn []) [(6, .e (.one (.pure (.val (.bool true)))))] [] ⟨rfl, trivial⟩ trivial rfl rfl) (W_ret ?_)
      exact ⟨⟨[_], ⟨.tmp _ _ rfl, trivial⟩, rfl⟩, trivial⟩
set_option maxRecDepth 10000 in
theorem sheaveref35_table_c (N : Nat) (p0 : ApiProblem) (p1 : ApiTable) (r : Int) (h : Sh.sheaveref35_table N p0 p1 = some r) : Contract Try.prog 64 [.e (.agg [.pure (.sl (p0.fVersions.map eI64)), .pure (.sl (p0.fNow.map eI64)), .pure (.sl (p0.fTarget.map eI64)), .pure (.sl (p0.fTables.map eApiTable))]), .e (.agg [.pure (.val (.int .i64 p1.fKind)), .pure (.val (.int .i64 p1.fFrom)), .pure (.val (.int .i64 p1.fTo)), .pure (.val (.bool p1.fAware)), .pure (.sl (p1.fOK.map (eSl eB))), .pure (.sl (p1.fRewrite.map (eSl eB)))])] [] (.e (.one (.pure (.val (.int .i64 r))))) := by
  unfold Sh.sheaveref35_table at h
  refine contract_of_W (n := 101) (rs := [.tmp 4]) Try.func64 rfl rfl rfl (leb rfl) (leb rfl) rfl fun w0 S0 => ?_
  refine W_seq (W_region mixed rfl (r_box (.p rfl) rfl rfl (r_box (.p rfl) rfl rfl (r_assign (.p rfl) rfl (r_end (W_seq ?_))))))
  refine W_join h (fun v1 => mk [(2, .e (.one (.ptr 2 0))), (3, .e (.one (.ptr 3 0))), (22, .e (.one (.pure (.val (.bool v1)))))] [(2, .box [.pure (.sl (p0.fVersions.map eI64)), .pure (.sl (p0.fNow.map eI64)), .pure (.sl (p0.fTarget.map eI64)), .pure (.sl (p0.fTables.map eApiTable))]), (3, .box [.pure (.val (.int .i64 p1.fKind)), .pure (.val (.int .i64 p1.fFrom)), .pure (.val (.int .i64 p1.fTo)), .pure (.val (.bool p1.fAware)), .pure (.sl (p1.fOK.map (eSl eB))), .pure (.sl (p1.fRewrite.map (eSl eB)))])]) (fun j1 h => ?_) (fun v1 h => ?_)
  · refine W_region mixed rfl (r_fieldAddr (.p rfl) rfl fld75_0 (r_load1 (.p rfl) rfl ag3 rfl rfl (r_bin (.p rfl) rfl rfl (bin_lss _ _ _ _ _ _) rfl (r_move (.p rfl) rfl ?_))))
    refine r_split (t := 10) rfl (fun c2 => ?_) (fun c2 => ?_)
    · have h := cnd_t c2 h
      refine r_notB rfl rfl (r_notB rfl rfl (r_notB rfl rfl (r_pick (.p rfl) rfl rfl rfl (r_move (.p rfl) rfl (r_notB rfl rfl (r_notB rfl rfl (r_notB rfl rfl (r_notU rfl rfl (r_notU rfl rfl (r_notB rfl rfl (r_pick (.p rfl) rfl rfl rfl (r_end ?_))))))))))))
      exact sink true h (sees_mkL (rn []) _ _ ⟨rfl, rfl, rfl, trivial⟩ ⟨rfl, rfl, trivial⟩ rfl rfl)
    · have h := cnd_f c2 h
      refine r_fieldAddr (.g rfl rfl) rfl fld75_0 (r_load1 (.g rfl rfl) rfl ag3 rfl rfl (r_bin (.g rfl rfl) rfl rfl (bin_gtr _ _ _ _ _ _) rfl (r_pick (.p rfl) rfl rfl rfl (r_move (.p rfl) rfl ?_))))
      refine r_split (t := 15) rfl (fun c3 => ?_) (fun c3 => ?_)
      · have h := cnd_t c3 h
        refine r_notB rfl rfl (r_notB rfl rfl (r_notB rfl rfl (r_notU rfl rfl (r_notU rfl rfl (r_notB rfl rfl (r_pick (.p rfl) rfl rfl rfl (r_end ?_)))))))
        exact sink true h (sees_mkL (rn []) _ _ ⟨rfl, rfl, rfl, trivial⟩ ⟨rfl, rfl, trivial⟩ rfl rfl)
      · have h := cnd_f c3 h
        refine r_fieldAddr (.g rfl rfl) rfl fld75_3 (r_load1 (.g rfl rfl) rfl ag4 rfl rfl (r_move (.g rfl rfl) rfl ?_))
        refine r_split (t := 18) rfl (fun c4 => ?_) (fun c4 => ?_)
        · have h := cnd_t c4 h
          refine r_loadN (.g rfl rfl) rfl ag75 sz75 rfl rfl rfl ?_
          obtain ⟨v5, a5, h⟩ := bind_some h
          refine r_call (ds0 := [_]) [] (sheaveref35_Stored_c N p1 v5 a5) (.g rfl rfl) gd46 rfl ⟨rfl, trivial⟩ rfl rfl rfl (nodupL_spec rfl) trivial rfl (r_pick (.g rfl rfl) rfl rfl rfl (r_pick (.p rfl) rfl rfl rfl (r_end ?_)))
          exact sink v5 h (sees_mkL (rn []) _ _ ⟨rfl, rfl, rfl, trivial⟩ ⟨rfl, rfl, trivial⟩ rfl rfl)
        · have h := cnd_f c4 h
          refine r_notB rfl rfl (r_notB rfl rfl (r_pick (.g rfl rfl) rfl rfl rfl (r_pick (.p rfl) rfl rfl rfl (r_end ?_))))
          exact sink false h (sees_mkL (rn []) _ _ ⟨rfl, rfl, rfl, trivial⟩ ⟨rfl, rfl, trivial⟩ rfl rfl)
  · refine W_cond rfl (fun c6 => ?_) (fun c6 => ?_)
    · have h := cnd_t c6 h
      refine W_seq (W_region mixed rfl (r_assign (.p rfl) rfl (r_end ?_)))
      obtain rfl := Option.some.inj h
      refine W_sees (sees_mkL (rn []) [(4, .e (.one (.pure (.val (.int .i64 1)))))] [] ⟨rfl, trivial⟩ trivial rfl rfl) (W_ret ?_)
      exact ⟨⟨[_], ⟨.tmp _ _ rfl, trivial⟩, rfl⟩, trivial⟩
    · have h := cnd_f c6 h
      refine W_skip (W_seq (W_region mixed rfl (r_fieldAddr (.p rfl) rfl fld30_0 (r_load1 (.p rfl) rfl ag27 rfl rfl (r_len (.p rfl) rfl (.sl _) trivial (List.length_map _) slc27 (r_assign (.p rfl) rfl (r_end (W_seq ?_))))))))
      refine W_join h (fun v7 => mk [(2, .e (.one (.ptr 2 0))), (3, .e (.one (.ptr 3 0))), (45, .e (.one (.pure (.val (.bool v7)))))] [(2, .box [.pure (.sl (p0.fVersions.map eI64)), .pure (.sl (p0.fNow.map eI64)), .pure (.sl (p0.fTarget.map eI64)), .pure (.sl (p0.fTables.map eApiTable))]), (3, .box [.pure (.val (.int .i64 p1.fKind)), .pure (.val (.int .i64 p1.fFrom)), .pure (.val (.int .i64 p1.fTo)), .pure (.val (.bool p1.fAware)), .pure (.sl (p1.fOK.map (eSl eB))), .pure (.sl (p1.fRewrite.map (eSl eB)))])]) (fun j7 h => ?_) (fun v7 h => ?_)
      · refine W_region mixed rfl (r_fieldAddr (.p rfl) rfl fld75_1 (r_load1 (.p rfl) rfl ag3 rfl rfl (r_bin (.p rfl) rfl rfl (bin_lss _ _ _ _ _ _) rfl (r_move (.p rfl) rfl ?_))))
        refine r_split (t := 29) rfl (fun c8 => ?_) (fun c8 => ?_)
        · have h := cnd_t c8 h
          refine r_notB rfl rfl (r_notB rfl rfl (r_notB rfl rfl (r_notB rfl rfl (r_pick (.p rfl) rfl rfl rfl (r_move (.p rfl) rfl (r_notB rfl rfl (r_notB rfl rfl (r_notB rfl rfl (r_pick (.p rfl) rfl rfl rfl (r_move (.p rfl) rfl (r_notB rfl rfl (r_notB rfl rfl (r_notB rfl rfl (r_notB rfl rfl (r_pick (.p rfl) rfl rfl rfl (r_end ?_))))))))))))))))
          exact sink true h (sees_mkL (rn []) _ _ ⟨rfl, rfl, rfl, trivial⟩ ⟨rfl, rfl, trivial⟩ rfl rfl)
        · have h := cnd_f c8 h
          refine r_fieldAddr (.g rfl rfl) rfl fld75_1 (r_load1 (.g rfl rfl) rfl ag3 rfl rfl (r_move (.g rfl rfl) rfl (r_bin (.g rfl rfl) rfl rfl (bin_geq _ _ _ _ _ _) rfl (r_pick (.p rfl) rfl rfl rfl (r_move (.p rfl) rfl ?_)))))
          refine r_split (t := 35) rfl (fun c9 => ?_) (fun c9 => ?_)
          · have h := cnd_t c9 h
            refine r_notB rfl rfl (r_notB rfl rfl (r_notB rfl rfl (r_pick (.p rfl) rfl rfl rfl (r_move (.p rfl) rfl (r_notB rfl rfl (r_notB rfl rfl (r_notB rfl rfl (r_notB rfl rfl (r_pick (.p rfl) rfl rfl rfl (r_end ?_))))))))))
            exact sink true h (sees_mkL (rn []) _ _ ⟨rfl, rfl, rfl, trivial⟩ ⟨rfl, rfl, trivial⟩ rfl rfl)
          · have h := cnd_f c9 h
            refine r_fieldAddr (.g rfl rfl) rfl fld75_2 (r_load1 (.g rfl rfl) rfl ag3 rfl rfl (r_bin (.g rfl rfl) rfl rfl (bin_lss _ _ _ _ _ _) rfl (r_pick (.p rfl) rfl rfl rfl (r_move (.p rfl) rfl ?_))))
            refine r_split (t := 40) rfl (fun c10 => ?_) (fun c10 => ?_)
            · have h := cnd_t c10 h
              refine r_notB rfl rfl (r_notB rfl rfl (r_notB rfl rfl (r_notB rfl rfl (r_pick (.p rfl) rfl rfl rfl (r_end ?_)))))
              exact sink true h (sees_mkL (rn []) _ _ ⟨rfl, rfl, rfl, trivial⟩ ⟨rfl, rfl, trivial⟩ rfl rfl)
            · have h := cnd_f c10 h
              refine r_fieldAddr (.g rfl rfl) rfl fld75_2 (r_load1 (.g rfl rfl) rfl ag3 rfl rfl (r_move (.g rfl rfl) rfl (r_bin (.g rfl rfl) rfl rfl (bin_geq _ _ _ _ _ _) rfl (r_pick (.p rfl) rfl rfl rfl (r_end ?_)))))
              exact sink (decide ((p0.fVersions.length : Int) ≤ p1.fTo)) h (sees_mkL (rn []) _ _ ⟨rfl, rfl, rfl, trivial⟩ ⟨rfl, rfl, trivial⟩ rfl rfl)
      · refine W_cond rfl (fun c11 => ?_) (fun c11 => ?_)
        · have h := cnd_t c11 h
          refine W_seq (W_region mixed rfl (r_assign (.p rfl) rfl (r_end ?_)))
          obtain rfl := Option.some.inj h
          refine W_sees (sees_mkL (rn []) [(4, .e (.one (.pure (.val (.int .i64 4)))))] [] ⟨rfl, trivial⟩ trivial rfl rfl) (W_ret ?_)
          exact ⟨⟨[_], ⟨.tmp _ _ rfl, trivial⟩, rfl⟩, trivial⟩
        · have h := cnd_f c11 h
          refine W_skip (W_seq (W_seq (W_region mixed rfl (r_fieldAddr (.p rfl) rfl fld75_4 (r_load1 (.p rfl) rfl ag73 rfl rfl (r_fieldAddr (.p rfl) rfl fld30_0 (r_load1 (.p rfl) rfl ag27 rfl rfl (r_fieldAddr (.p rfl) rfl fld75_1 (r_load1 (.p rfl) rfl ag3 rfl rfl ?_)))))))))
          obtain ⟨v12, a12, b12, h⟩ := idx_bind h
          refine r_index (.p rfl) rfl rfl slc27 sz3 a12 (map_get b12) rfl (r_loadr1 (.p rfl) rfl ag3 rfl (r_fieldAddr (.p rfl) rfl fld30_0 (r_load1 (.p rfl) rfl ag27 rfl rfl (r_fieldAddr (.p rfl) rfl fld75_2 (r_load1 (.p rfl) rfl ag3 rfl rfl ?_)))))
          obtain ⟨v13, a13, b13, h⟩ := idx_bind h
          refine r_index (.p rfl) rfl rfl slc27 sz3 a13 (map_get b13) rfl (r_loadr1 (.p rfl) rfl ag3 rfl ?_)
          obtain ⟨v14, a14, h⟩ := bind_some h
          refine r_call (ds0 := [_, _, _]) [] (sheaveref35_square_c N p1.fOK v12 v13 v14 a14) (.p rfl) gd91 rfl ⟨rfl, rfl, rfl, trivial⟩ rfl rfl rfl (nodupL_spec rfl) trivial rfl (r_un (.p rfl) rfl (un_not _) rfl ?_)
          refine r_endD (by kernel_rfl) ?_
          refine W_cond rfl (fun c15 => ?_) (fun c15 => ?_)
          · have h := cnd_t c15 h
            refine W_seq (W_region mixed rfl (r_assign (.p rfl) rfl (r_end ?_)))
            obtain rfl := Option.some.inj h
            refine W_sees (sees_mkL (rn []) [(4, .e (.one (.pure (.val (.int .i64 6)))))] [] ⟨rfl, trivial⟩ trivial rfl rfl) (W_ret ?_)
            exact ⟨⟨[_], ⟨.tmp _ _ rfl, trivial⟩, rfl⟩, trivial⟩
          · have h := cnd_f c15 h
            refine W_skip (W_seq (W_seq (W_region mixed rfl (r_fieldAddr (.p rfl) rfl fld75_0 (r_load1 (.p rfl) rfl ag3 rfl rfl (r_bin (.p rfl) rfl rfl (bin_neq _ _ _ _ _ _) rfl (r_end ?_)))))))
            refine W_cond rfl (fun c16 => ?_) (fun c16 => ?_)
            · have h := cnd_t c16 h
              refine W_seq (W_seq (W_region mixed rfl (r_fieldAddr (.p rfl) rfl fld75_5 (r_load1 (.p rfl) rfl ag73 rfl rfl (r_len (.p rfl) rfl (.sl _) trivial (List.length_map _) slc73 (r_bin (.p rfl) rfl rfl (bin_neq _ _ _ _ _ _) rfl (r_end ?_)))))))
              refine W_cond rfl (fun c17 => ?_) (fun c17 => ?_)
              · have h := cnd_t c17 h
                refine W_seq (W_region mixed rfl (r_assign (.p rfl) rfl (r_end ?_)))
                obtain rfl := Option.some.inj h
                refine W_sees (sees_mkL (rn []) [(4, .e (.one (.pure (.val (.int .i64 6)))))] [] ⟨rfl, trivial⟩ trivial rfl rfl) (W_ret ?_)
                exact ⟨⟨[_], ⟨.tmp _ _ rfl, trivial⟩, rfl⟩, trivial⟩
              · have h := cnd_f c17 h
                refine W_skip (W_seq (W_region mixed rfl (r_assign (.p rfl) rfl (r_end ?_))))
                obtain rfl := Option.some.inj h
                refine W_sees (sees_mkL (rn []) [(4, .e (.one (.pure (.val (.int .i64 0)))))] [] ⟨rfl, trivial⟩ trivial rfl rfl) (W_ret ?_)
                exact ⟨⟨[_], ⟨.tmp _ _ rfl, trivial⟩, rfl⟩, trivial⟩
            · have h := cnd_f c16 h
              refine W_skip (W_seq (W_seq (W_region mixed rfl (r_fieldAddr (.p rfl) rfl fld75_5 (r_load1 (.p rfl) rfl ag73 rfl rfl (r_fieldAddr (.p rfl) rfl fld30_0 (r_load1 (.p rfl) rfl ag27 rfl rfl (r_fieldAddr (.p rfl) rfl fld75_1 (r_load1 (.p rfl) rfl ag3 rfl rfl ?_)))))))))
              obtain ⟨v18, a18, b18, h⟩ := idx_bind h
              refine r_index (.p rfl) rfl rfl slc27 sz3 a18 (map_get b18) rfl (r_loadr1 (.p rfl) rfl ag3 rfl (r_fieldAddr (.p rfl) rfl fld30_0 (r_load1 (.p rfl) rfl ag27 rfl rfl (r_fieldAddr (.p rfl) rfl fld75_1 (r_load1 (.p rfl) rfl ag3 rfl rfl ?_)))))
              obtain ⟨v19, a19, b19, h⟩ := idx_bind h
              refine r_index (.p rfl) rfl rfl slc27 sz3 a19 (map_get b19) rfl (r_loadr1 (.p rfl) rfl ag3 rfl ?_)
              obtain ⟨v20, a20, h⟩ := bind_some h
              refine r_call (ds0 := [_, _, _]) [] (sheaveref35_square_c N p1.fRewrite v18 v19 v20 a20) (.p rfl) gd91 rfl ⟨rfl, rfl, rfl, trivial⟩ rfl rfl rfl (nodupL_spec rfl) trivial rfl (r_un (.p rfl) rfl (un_not _) rfl ?_)
              refine r_endD (by kernel_rfl) ?_
              refine W_cond rfl (fun c21 => ?_) (fun c21 => ?_)
              · have h := cnd_t c21 h
                refine W_seq (W_region mixed rfl (r_assign (.p rfl) rfl (r_end ?_)))
                obtain rfl := Option.some.inj h
                refine W_sees (sees_mkL (rn []) [(4, .e (.one (.pure (.val (.int .i64 6)))))] [] ⟨rfl, trivial⟩ trivial rfl rfl) (W_ret ?_)
                exact ⟨⟨[_], ⟨.tmp _ _ rfl, trivial⟩, rfl⟩, trivial⟩
              · have h := cnd_f c21 h
                refine W_skip (W_seq (W_seq (W_region mixed rfl (r_assign (.p rfl) rfl (r_end ?_)))))
                refine W_whileE (L := Sh.sheaveref35_table_L22 N p1) h (fun v22 => mk [(3, .e (.one (.ptr 3 0))), (6, .e (.one (.pure (.val (.int .i64 v22)))))] [(3, .box [.pure (.val (.int .i64 p1.fKind)), .pure (.val (.int .i64 p1.fFrom)), .pure (.val (.int .i64 p1.fTo)), .pure (.val (.bool p1.fAware)), .pure (.sl (p1.fOK.map (eSl eB))), .pure (.sl (p1.fRewrite.map (eSl eB)))])]) (fun v23 => mk [] []) (fun _ _ => rfl) (sees_mkL (rn []) _ _ ⟨rfl, rfl, trivial⟩ ⟨rfl, trivial⟩ rfl rfl) (fun j22 n22 v22 h => ?_) (fun v23 s h hs => ?_)
                · unfold Sh.sheaveref35_table_L22 at h
                  refine W_seq (W_seq (W_region mixed rfl (r_move (.p rfl) rfl (r_fieldAddr (.p rfl) rfl fld75_5 (r_load1 (.p rfl) rfl ag73 rfl rfl (r_len (.p rfl) rfl (.sl _) trivial (List.length_map _) slc73 (r_bin (.p rfl) rfl rfl (bin_lss _ _ _ _ _ _) rfl (r_end ?_))))))))
                  refine W_cond rfl (fun c24 => ?_) (fun c24 => ?_)
                  · have h := cnd_t c24 h
                    refine W_skip (W_seq (W_block (W_seq (W_region mixed rfl (r_fieldAddr (.p rfl) rfl fld75_5 (r_load1 (.p rfl) rfl ag73 rfl rfl (r_move (.p rfl) rfl ?_)))))))
                    obtain ⟨v25, a25, b25, h⟩ := idx_bind h
                    refine r_index (.p rfl) rfl rfl slc73 sz76 a25 (map_get b25) rfl (r_loadr1 (.p rfl) rfl ag76 rfl (r_move (.p rfl) rfl ?_))
                    obtain ⟨v26, a26, b26, h⟩ := idx_bind h
                    refine r_index (.p rfl) rfl rfl slc76 sz4 a26 (map_get b26) rfl (r_loadr1 (.p rfl) rfl ag4 rfl (r_un (.p rfl) rfl (un_not _) rfl (r_end ?_)))
                    refine W_cond rfl (fun c27 => ?_) (fun c27 => ?_)
                    · have h := cnd_t c27 h
                      refine W_seq (W_region mixed rfl (r_assign (.p rfl) rfl (r_end ?_)))
                      obtain rfl := Option.some.inj h
                      refine W_sees (sees_mkL (rn []) [(4, .e (.one (.pure (.val (.int .i64 1)))))] [] ⟨rfl, trivial⟩ trivial rfl rfl) (W_ret ?_)
                      exact ⟨⟨[_], ⟨.tmp _ _ rfl, trivial⟩, rfl⟩, trivial⟩
                    · have h := cnd_f c27 h
                      refine W_skip (W_region mixed rfl (r_move (.p rfl) rfl (r_bin (.p rfl) rfl rfl (bin_add _ _ _ _ _ _) rfl (r_assign (.p rfl) rfl (r_end ?_)))))
                      exact sink (IntKind.wrap .i64 (v22 + 1)) h (sees_mkL (rn []) _ _ ⟨rfl, rfl, trivial⟩ ⟨rfl, trivial⟩ rfl rfl)
                  · have h := cnd_f c24 h
                    refine W_exit ?_
                    exact sink () h (sees_mkL (rn []) _ _ trivial trivial rfl rfl)
                · refine W_sees hs (W_seq (W_region mixed rfl (r_assign (.p rfl) rfl (r_end ?_))))
                  obtain rfl := Option.some.inj h
                  refine W_sees (sees_mkL (rn []) [(4, .e (.one (.pure (.val (.int .i64 0)))))] [] ⟨rfl, trivial⟩ trivial rfl rfl) (W_ret ?_)
                  exact ⟨⟨[_], ⟨.tmp _ _ rfl, trivial⟩, rfl⟩, trivial⟩
set_option maxRecDepth 10000 in
theorem sheaveref35_ValidProblem_c (N : Nat) (p0 : ApiProblem) (r : Int) (h : Sh.sheaveref35_ValidProblem N p0 = some r) : Contract Try.prog 33 [.e (.agg [.pure (.sl (p0.fVersions.map eI64)), .pure (.sl (p0.fNow.map eI64)), .pure (.sl (p0.fTarget.map eI64)), .pure (.sl (p0.fTables.map eApiTable))])] [] (.e (.one (.pure (.val (.int .i64 r))))) := by
  unfold Sh.sheaveref35_ValidProblem at h
  refine contract_of_W (n := 102) (rs := [.tmp 2]) Try.func33 rfl rfl rfl (leb rfl) (leb rfl) rfl fun w0 S0 => ?_
  refine W_seq (W_region mixed rfl (r_box (.p rfl) rfl rfl (r_assign (.p rfl) rfl (r_end (W_seq ?_)))))
  refine W_join h (fun v1 => mk [(1, .e (.one (.ptr 1 0))), (16, .e (.one (.pure (.val (.bool v1)))))] [(1, .box [.pure (.sl (p0.fVersions.map eI64)), .pure (.sl (p0.fNow.map eI64)), .pure (.sl (p0.fTarget.map eI64)), .pure (.sl (p0.fTables.map eApiTable))])]) (fun j1 h => ?_) (fun v1 h => ?_)
  · refine W_region mixed rfl (r_fieldAddr (.p rfl) rfl fld30_0 (r_load1 (.p rfl) rfl ag27 rfl rfl (r_len (.p rfl) rfl (.sl _) trivial (List.length_map _) slc27 (r_bin (.p rfl) rfl rfl (bin_gtr _ _ _ _ _ _) rfl (r_move (.p rfl) rfl ?_)))))
    refine r_split (t := 11) rfl (fun c2 => ?_) (fun c2 => ?_)
    · have h := cnd_t c2 h
      refine r_notB rfl rfl (r_notB rfl rfl (r_notB rfl rfl (r_notB rfl rfl (r_pick (.p rfl) rfl rfl rfl (r_end ?_)))))
      exact sink true h (sees_mkL (rn []) _ _ ⟨rfl, rfl, trivial⟩ ⟨rfl, trivial⟩ rfl rfl)
    · have h := cnd_f c2 h
      refine r_fieldAddr (.g rfl rfl) rfl fld30_3 (r_load1 (.g rfl rfl) rfl ag28 rfl rfl (r_len (.g rfl rfl) rfl (.sl _) trivial (List.length_map _) slc28 (r_bin (.g rfl rfl) rfl rfl (bin_gtr _ _ _ _ _ _) rfl (r_pick (.p rfl) rfl rfl rfl (r_end ?_)))))
      exact sink (decide (12 < (p0.fTables.length : Int))) h (sees_mkL (rn []) _ _ ⟨rfl, rfl, trivial⟩ ⟨rfl, trivial⟩ rfl rfl)
  · refine W_cond rfl (fun c3 => ?_) (fun c3 => ?_)
    · have h := cnd_t c3 h
      refine W_seq (W_region mixed rfl (r_assign (.p rfl) rfl (r_end ?_)))
      obtain rfl := Option.some.inj h
      refine W_sees (sees_mkL (rn []) [(2, .e (.one (.pure (.val (.int .i64 3)))))] [] ⟨rfl, trivial⟩ trivial rfl rfl) (W_ret ?_)
      exact ⟨⟨[_], ⟨.tmp _ _ rfl, trivial⟩, rfl⟩, trivial⟩
    · have h := cnd_f c3 h
      refine W_skip (W_seq ?_)
      refine W_join h (fun v4 => mk [(1, .e (.one (.ptr 1 0))), (32, .e (.one (.pure (.val (.bool v4)))))] [(1, .box [.pure (.sl (p0.fVersions.map eI64)), .pure (.sl (p0.fNow.map eI64)), .pure (.sl (p0.fTarget.map eI64)), .pure (.sl (p0.fTables.map eApiTable))])]) (fun j4 h => ?_) (fun v4 h => ?_)
      · refine W_region mixed rfl (r_fieldAddr (.p rfl) rfl fld30_1 (r_load1 (.p rfl) rfl ag27 rfl rfl (r_len (.p rfl) rfl (.sl _) trivial (List.length_map _) slc27 (r_fieldAddr (.p rfl) rfl fld30_0 (r_load1 (.p rfl) rfl ag27 rfl rfl (r_len (.p rfl) rfl (.sl _) trivial (List.length_map _) slc27 (r_bin (.p rfl) rfl rfl (bin_neq _ _ _ _ _ _) rfl (r_move (.p rfl) rfl ?_))))))))
        refine r_split (t := 24) rfl (fun c5 => ?_) (fun c5 => ?_)
        · have h := cnd_t c5 h
          refine r_notB rfl rfl (r_notB rfl rfl (r_notB rfl rfl (r_notB rfl rfl (r_notB rfl rfl (r_notB rfl rfl (r_notB rfl rfl (r_pick (.p rfl) rfl rfl rfl (r_end ?_))))))))
          exact sink true h (sees_mkL (rn []) _ _ ⟨rfl, rfl, trivial⟩ ⟨rfl, trivial⟩ rfl rfl)
        · have h := cnd_f c5 h
          refine r_fieldAddr (.g rfl rfl) rfl fld30_2 (r_load1 (.g rfl rfl) rfl ag27 rfl rfl (r_len (.g rfl rfl) rfl (.sl _) trivial (List.length_map _) slc27 (r_fieldAddr (.g rfl rfl) rfl fld30_0 (r_load1 (.g rfl rfl) rfl ag27 rfl rfl (r_len (.g rfl rfl) rfl (.sl _) trivial (List.length_map _) slc27 (r_bin (.g rfl rfl) rfl rfl (bin_neq _ _ _ _ _ _) rfl (r_pick (.p rfl) rfl rfl rfl (r_end ?_))))))))
          exact sink ((p0.fTarget.length : Int) != (p0.fVersions.length : Int)) h (sees_mkL (rn []) _ _ ⟨rfl, rfl, trivial⟩ ⟨rfl, trivial⟩ rfl rfl)
      · refine W_cond rfl (fun c6 => ?_) (fun c6 => ?_)
        · have h := cnd_t c6 h
          refine W_seq (W_region mixed rfl (r_assign (.p rfl) rfl (r_end ?_)))
          obtain rfl := Option.some.inj h
          refine W_sees (sees_mkL (rn []) [(2, .e (.one (.pure (.val (.int .i64 6)))))] [] ⟨rfl, trivial⟩ trivial rfl rfl) (W_ret ?_)
          exact ⟨⟨[_], ⟨.tmp _ _ rfl, trivial⟩, rfl⟩, trivial⟩
        · have h := cnd_f c6 h
          refine W_skip (W_seq (W_seq (W_region mixed rfl (r_assign (.p rfl) rfl (r_end ?_)))))
          refine W_whileE (L := Sh.sheaveref35_ValidProblem_L7 N p0) h (fun v7 => mk [(1, .e (.one (.ptr 1 0))), (3, .e (.one (.pure (.val (.int .i64 v7)))))] [(1, .box [.pure (.sl (p0.fVersions.map eI64)), .pure (.sl (p0.fNow.map eI64)), .pure (.sl (p0.fTarget.map eI64)), .pure (.sl (p0.fTables.map eApiTable))])]) (fun v8 => mk [(1, .e (.one (.ptr 1 0)))] [(1, .box [.pure (.sl (p0.fVersions.map eI64)), .pure (.sl (p0.fNow.map eI64)), .pure (.sl (p0.fTarget.map eI64)), .pure (.sl (p0.fTables.map eApiTable))])]) (fun _ _ => rfl) (sees_mkL (rn []) _ _ ⟨rfl, rfl, trivial⟩ ⟨rfl, trivial⟩ rfl rfl) (fun j7 n7 v7 h => ?_) (fun v8 s h hs => ?_)
          · unfold Sh.sheaveref35_ValidProblem_L7 at h
            refine W_seq (W_seq (W_region mixed rfl (r_move (.p rfl) rfl (r_fieldAddr (.p rfl) rfl fld30_0 (r_load1 (.p rfl) rfl ag27 rfl rfl (r_len (.p rfl) rfl (.sl _) trivial (List.length_map _) slc27 (r_bin (.p rfl) rfl rfl (bin_lss _ _ _ _ _ _) rfl (r_end ?_))))))))
            refine W_cond rfl (fun c9 => ?_) (fun c9 => ?_)
            · have h := cnd_t c9 h
              refine W_skip (W_seq (W_block (W_seq (W_region mixed rfl (r_fieldAddr (.p rfl) rfl fld30_0 (r_load1 (.p rfl) rfl ag27 rfl rfl (r_move (.p rfl) rfl ?_)))))))
              obtain ⟨v10, a10, b10, h⟩ := idx_bind h
              refine r_index (.p rfl) rfl rfl slc27 sz3 a10 (map_get b10) rfl (r_loadr1 (.p rfl) rfl ag3 rfl (r_assign (.p rfl) rfl (r_end ?_)))
              refine W_join h (fun v11 => mk [(1, .e (.one (.ptr 1 0))), (3, .e (.one (.pure (.val (.int .i64 v7))))), (84, .e (.one (.pure (.val (.bool v11)))))] [(1, .box [.pure (.sl (p0.fVersions.map eI64)), .pure (.sl (p0.fNow.map eI64)), .pure (.sl (p0.fTarget.map eI64)), .pure (.sl (p0.fTables.map eApiTable))])]) (fun j11 h => ?_) (fun v11 h => ?_)
              · refine W_region mixed rfl (r_move (.p rfl) rfl (r_bin (.p rfl) rfl rfl (bin_lss _ _ _ _ _ _) rfl (r_move (.p rfl) rfl ?_)))
                refine r_split (t := 47) rfl (fun c12 => ?_) (fun c12 => ?_)
                · have h := cnd_t c12 h
                  refine r_notB rfl rfl (r_notB rfl rfl (r_pick (.p rfl) rfl rfl rfl (r_move (.p rfl) rfl (r_notB rfl rfl (r_notB rfl rfl (r_notB rfl rfl (r_notB rfl rfl (r_notB rfl rfl (r_notB rfl rfl (r_pick (.p rfl) rfl rfl rfl (r_move (.p rfl) rfl (r_notB rfl rfl (r_notB rfl rfl (r_notB rfl rfl (r_notB rfl rfl (r_notB rfl rfl (r_notB rfl rfl (r_notB rfl rfl (r_pick (.p rfl) rfl rfl rfl (r_move (.p rfl) rfl (r_notB rfl rfl (r_notB rfl rfl (r_notB rfl rfl (r_notB rfl rfl (r_notB rfl rfl (r_notB rfl rfl (r_pick (.p rfl) rfl rfl rfl (r_move (.p rfl) rfl (r_notB rfl rfl ?_)))))))))))))))))))))))))))))
                  refine r_notB rfl rfl (r_notB rfl rfl (r_notB rfl rfl (r_notB rfl rfl (r_notB rfl rfl (r_notB rfl rfl (r_pick (.p rfl) rfl rfl rfl (r_end ?_)))))))
                  exact sink true h (sees_mkL (rn []) _ _ ⟨rfl, rfl, rfl, trivial⟩ ⟨rfl, trivial⟩ rfl rfl)
                · have h := cnd_f c12 h
                  refine r_move (.g rfl rfl) rfl (r_bin (.g rfl rfl) rfl rfl (bin_gtr _ _ _ _ _ _) rfl (r_pick (.p rfl) rfl rfl rfl (r_move (.p rfl) rfl ?_)))
                  refine r_split (t := 51) rfl (fun c13 => ?_) (fun c13 => ?_)
                  · have h := cnd_t c13 h
                    refine r_notB rfl rfl (r_notB rfl rfl (r_notB rfl rfl (r_notB rfl rfl (r_notB rfl rfl (r_notB rfl rfl (r_pick (.p rfl) rfl rfl rfl (r_move (.p rfl) rfl (r_notB rfl rfl (r_notB rfl rfl (r_notB rfl rfl (r_notB rfl rfl (r_notB rfl rfl (r_notB rfl rfl (r_notB rfl rfl (r_pick (.p rfl) rfl rfl rfl (r_move (.p rfl) rfl (r_notB rfl rfl (r_notB rfl rfl (r_notB rfl rfl (r_notB rfl rfl (r_notB rfl rfl (r_notB rfl rfl (r_pick (.p rfl) rfl rfl rfl (r_move (.p rfl) rfl (r_notB rfl rfl (r_notB rfl rfl (r_notB rfl rfl (r_notB rfl rfl (r_notB rfl rfl ?_)))))))))))))))))))))))))))))
                    refine r_notB rfl rfl (r_notB rfl rfl (r_pick (.p rfl) rfl rfl rfl (r_end ?_)))
                    exact sink true h (sees_mkL (rn []) _ _ ⟨rfl, rfl, rfl, trivial⟩ ⟨rfl, trivial⟩ rfl rfl)
                  · have h := cnd_f c13 h
                    refine r_fieldAddr (.g rfl rfl) rfl fld30_1 (r_load1 (.g rfl rfl) rfl ag27 rfl rfl (r_move (.g rfl rfl) rfl ?_))
                    obtain ⟨v14, a14, b14, h⟩ := idx_bind h
                    refine r_index (.g rfl rfl) rfl rfl slc27 sz3 a14 (map_get b14) rfl (r_loadr1 (.g rfl rfl) rfl ag3 rfl (r_bin (.g rfl rfl) rfl rfl (bin_lss _ _ _ _ _ _) rfl (r_pick (.p rfl) rfl rfl rfl (r_move (.p rfl) rfl ?_))))
                    refine r_split (t := 59) rfl (fun c15 => ?_) (fun c15 => ?_)
                    · have h := cnd_t c15 h
                      refine r_notB rfl rfl (r_notB rfl rfl (r_notB rfl rfl (r_notB rfl rfl (r_notB rfl rfl (r_notB rfl rfl (r_notB rfl rfl (r_pick (.p rfl) rfl rfl rfl (r_move (.p rfl) rfl (r_notB rfl rfl (r_notB rfl rfl (r_notB rfl rfl (r_notB rfl rfl (r_notB rfl rfl (r_notB rfl rfl (r_pick (.p rfl) rfl rfl rfl (r_move (.p rfl) rfl (r_notB rfl rfl (r_notB rfl rfl (r_notB rfl rfl (r_notB rfl rfl (r_notB rfl rfl (r_notB rfl rfl (r_notB rfl rfl (r_pick (.p rfl) rfl rfl rfl (r_end ?_)))))))))))))))))))))))))
                      exact sink true h (sees_mkL (rn []) _ _ ⟨rfl, rfl, rfl, trivial⟩ ⟨rfl, trivial⟩ rfl rfl)
                    · have h := cnd_f c15 h
                      refine r_fieldAddr (.g rfl rfl) rfl fld30_1 (r_load1 (.g rfl rfl) rfl ag27 rfl rfl (r_move (.g rfl rfl) rfl ?_))
                      obtain ⟨v16, a16, b16, h⟩ := idx_bind h
                      refine r_index (.g rfl rfl) rfl rfl slc27 sz3 a16 (map_get b16) rfl (r_loadr1 (.g rfl rfl) rfl ag3 rfl (r_move (.g rfl rfl) rfl (r_bin (.g rfl rfl) rfl rfl (bin_geq _ _ _ _ _ _) rfl (r_pick (.p rfl) rfl rfl rfl (r_move (.p rfl) rfl ?_)))))
                      refine r_split (t := 68) rfl (fun c17 => ?_) (fun c17 => ?_)
                      · have h := cnd_t c17 h
                        refine r_notB rfl rfl (r_notB rfl rfl (r_notB rfl rfl (r_notB rfl rfl (r_notB rfl rfl (r_notB rfl rfl (r_pick (.p rfl) rfl rfl rfl (r_move (.p rfl) rfl (r_notB rfl rfl (r_notB rfl rfl (r_notB rfl rfl (r_notB rfl rfl (r_notB rfl rfl (r_notB rfl rfl (r_notB rfl rfl (r_pick (.p rfl) rfl rfl rfl (r_end ?_))))))))))))))))
                        exact sink true h (sees_mkL (rn []) _ _ ⟨rfl, rfl, rfl, trivial⟩ ⟨rfl, trivial⟩ rfl rfl)
                      · have h := cnd_f c17 h
                        refine r_fieldAddr (.g rfl rfl) rfl fld30_2 (r_load1 (.g rfl rfl) rfl ag27 rfl rfl (r_move (.g rfl rfl) rfl ?_))
                        obtain ⟨v18, a18, b18, h⟩ := idx_bind h
                        refine r_index (.g rfl rfl) rfl rfl slc27 sz3 a18 (map_get b18) rfl (r_loadr1 (.g rfl rfl) rfl ag3 rfl (r_bin (.g rfl rfl) rfl rfl (bin_lss _ _ _ _ _ _) rfl (r_pick (.p rfl) rfl rfl rfl (r_move (.p rfl) rfl ?_))))
                        refine r_split (t := 76) rfl (fun c19 => ?_) (fun c19 => ?_)
                        · have h := cnd_t c19 h
                          refine r_notB rfl rfl (r_notB rfl rfl (r_notB rfl rfl (r_notB rfl rfl (r_notB rfl rfl (r_notB rfl rfl (r_notB rfl rfl (r_pick (.p rfl) rfl rfl rfl (r_end ?_))))))))
                          exact sink true h (sees_mkL (rn []) _ _ ⟨rfl, rfl, rfl, trivial⟩ ⟨rfl, trivial⟩ rfl rfl)
                        · have h := cnd_f c19 h
                          refine r_fieldAddr (.g rfl rfl) rfl fld30_2 (r_load1 (.g rfl rfl) rfl ag27 rfl rfl (r_move (.g rfl rfl) rfl ?_))
                          obtain ⟨v20, a20, b20, h⟩ := idx_bind h
                          refine r_index (.g rfl rfl) rfl rfl slc27 sz3 a20 (map_get b20) rfl (r_loadr1 (.g rfl rfl) rfl ag3 rfl (r_move (.g rfl rfl) rfl (r_bin (.g rfl rfl) rfl rfl (bin_geq _ _ _ _ _ _) rfl (r_pick (.p rfl) rfl rfl rfl (r_end ?_)))))
                          exact sink (decide (v10 ≤ v20)) h (sees_mkL (rn []) _ _ ⟨rfl, rfl, rfl, trivial⟩ ⟨rfl, trivial⟩ rfl rfl)
              · refine W_cond rfl (fun c21 => ?_) (fun c21 => ?_)
                · have h := cnd_t c21 h
                  refine W_seq (W_region mixed rfl (r_assign (.p rfl) rfl (r_end ?_)))
                  obtain rfl := Option.some.inj h
                  refine W_sees (sees_mkL (rn []) [(2, .e (.one (.pure (.val (.int .i64 7)))))] [] ⟨rfl, trivial⟩ trivial rfl rfl) (W_ret ?_)
                  exact ⟨⟨[_], ⟨.tmp _ _ rfl, trivial⟩, rfl⟩, trivial⟩
                · have h := cnd_f c21 h
                  refine W_skip (W_region mixed rfl (r_move (.p rfl) rfl (r_bin (.p rfl) rfl rfl (bin_add _ _ _ _ _ _) rfl (r_assign (.p rfl) rfl (r_end ?_)))))
                  exact sink (IntKind.wrap .i64 (v7 + 1)) h (sees_mkL (rn []) _ _ ⟨rfl, rfl, trivial⟩ ⟨rfl, trivial⟩ rfl rfl)
            · have h := cnd_f c9 h
              refine W_exit ?_
              exact sink () h (sees_mkL (rn []) _ _ ⟨rfl, trivial⟩ ⟨rfl, trivial⟩ rfl rfl)
          · refine W_sees hs (W_seq (W_seq (W_region mixed rfl (r_assign (.p rfl) rfl (r_end ?_)))))
            refine W_whileE (L := Sh.sheaveref35_ValidProblem_L22 N p0) h (fun v22 => mk [(1, .e (.one (.ptr 1 0))), (5, .e (.one (.pure (.val (.int .i64 v22)))))] [(1, .box [.pure (.sl (p0.fVersions.map eI64)), .pure (.sl (p0.fNow.map eI64)), .pure (.sl (p0.fTarget.map eI64)), .pure (.sl (p0.fTables.map eApiTable))])]) (fun v23 => mk [] []) (fun _ _ => rfl) (sees_mkL (rn []) _ _ ⟨rfl, rfl, trivial⟩ ⟨rfl, trivial⟩ rfl rfl) (fun j22 n22 v22 h => ?_) (fun v23 s h hs => ?_)
            · unfold Sh.sheaveref35_ValidProblem_L22 at h
              refine W_seq (W_seq (W_region mixed rfl (r_move (.p rfl) rfl (r_fieldAddr (.p rfl) rfl fld30_3 (r_load1 (.p rfl) rfl ag28 rfl rfl (r_len (.p rfl) rfl (.sl _) trivial (List.length_map _) slc28 (r_bin (.p rfl) rfl rfl (bin_lss _ _ _ _ _ _) rfl (r_end ?_))))))))
              refine W_cond rfl (fun c24 => ?_) (fun c24 => ?_)
              · have h := cnd_t c24 h
                refine W_skip (W_seq (W_block (W_seq (W_region mixed rfl (r_loadN (.p rfl) rfl ag30 sz30 rfl rfl rfl (r_fieldAddr (.p rfl) rfl fld30_3 (r_load1 (.p rfl) rfl ag28 rfl rfl (r_move (.p rfl) rfl ?_))))))))
                obtain ⟨v25, a25, b25, h⟩ := idx_bind h
                refine r_index (.p rfl) rfl rfl slc28 sz75 a25 (map_get b25) rfl (r_loadrN (.p rfl) rfl ag75 sz75 rfl rfl ?_)
                obtain ⟨v26, a26, h⟩ := bind_some h
                refine r_call (ds0 := [_, _]) [] (sheaveref35_table_c N p0 v25 v26 a26) (.p rfl) gd64 rfl ⟨rfl, rfl, trivial⟩ rfl rfl rfl (nodupL_spec rfl) trivial rfl (r_assign (.p rfl) rfl ?_)
                refine r_endD (by kernel_rfl) ?_
                refine W_seq (W_region mixed rfl (r_move (.p rfl) rfl (r_bin (.p rfl) rfl rfl (bin_neq _ _ _ _ _ _) rfl (r_end ?_))))
                refine W_cond rfl (fun c27 => ?_) (fun c27 => ?_)
                · have h := cnd_t c27 h
                  refine W_seq (W_region mixed rfl (r_move (.p rfl) rfl (r_assign (.p rfl) rfl (r_end ?_))))
                  obtain rfl := Option.some.inj h
                  refine W_sees (sees_mkL (rn []) [(2, .e (.one (.pure (.val (.int .i64 v26)))))] [] ⟨rfl, trivial⟩ trivial rfl rfl) (W_ret ?_)
                  exact ⟨⟨[_], ⟨.tmp _ _ rfl, trivial⟩, rfl⟩, trivial⟩
                · have h := cnd_f c27 h
                  refine W_skip (W_region mixed rfl (r_move (.p rfl) rfl (r_bin (.p rfl) rfl rfl (bin_add _ _ _ _ _ _) rfl (r_assign (.p rfl) rfl (r_end ?_)))))
                  exact sink (IntKind.wrap .i64 (v22 + 1)) h (sees_mkL (rn []) _ _ ⟨rfl, rfl, trivial⟩ ⟨rfl, trivial⟩ rfl rfl)
              · have h := cnd_f c24 h
                refine W_exit ?_
                exact sink () h (sees_mkL (rn []) _ _ trivial trivial rfl rfl)
            · refine W_sees hs (W_seq (W_region mixed rfl (r_assign (.p rfl) rfl (r_end ?_))))
              obtain rfl := Option.some.inj h
              refine W_sees (sees_mkL (rn []) [(2, .e (.one (.pure (.val (.int .i64 0)))))] [] ⟨rfl, trivial⟩ trivial rfl rfl) (W_ret ?_)
              exact ⟨⟨[_], ⟨.tmp _ _ rfl, trivial⟩, rfl⟩, trivial⟩
set_option maxRecDepth 10000 in
theorem sheavelaw39_example_c (N : Nat) (p0 : Bool) (p1 : Bool) (r : ApiProblem) (h : Sh.sheavelaw39_example N p0 p1 = some r) : Contract Try.prog 35 [.e (.one (.pure (.val (.bool p0)))), .e (.one (.pure (.val (.bool p1))))] [(1, r.fVersions.map eI64), (1, r.fNow.map eI64), (1, r.fTarget.map eI64), (6, r.fTables.map eApiTable)] (.e (.agg [.own 0, .own 1, .own 2, .own 3])) := by
  unfold Sh.sheavelaw39_example at h
  refine contract_of_W (n := 19) (rs := [.cell 4 30]) Try.func35 rfl rfl rfl (leb rfl) (leb rfl) rfl fun w0 S0 => ?_
  refine W_seq (W_region mixed rfl (r_alloc (.p rfl) zv30 rfl rfl rfl (r_end (W_seq (W_region mixed rfl (r_move (.p rfl) rfl (r_move (.p rfl) rfl (r_un (.p rfl) rfl (un_not _) rfl (r_buildSlice [(0, .const (.bool true), _), (1, .tmp 8, _)] (.p rfl) rfl ⟨rfl, rfl, trivial⟩ rfl slc76 sz4 zv4 rfl rfl (leb rfl) rfl rfl (r_buildSlice [(0, .const (.bool false), _), (1, .const (.bool true), _)] (.p rfl) rfl ⟨rfl, rfl, trivial⟩ rfl slc76 sz4 zv4 rfl rfl (leb rfl) rfl rfl (r_see (sees_frz 9 _ _ rfl rfl) (r_see (sees_frz 10 _ _ rfl rfl) (r_buildSlice [(0, .tmp 9, _), (1, .tmp 10, _)] (.p rfl) rfl ⟨rfl, rfl, trivial⟩ rfl slc73 sz76 zv76 rfl rfl (leb rfl) rfl rfl (r_build [(0, .const (.int .i64 1), _), (1, .const (.int .i64 0), _), (2, .const (.int .i64 1), _), (3, .tmp 6, _), (4, .tmp 11, _)] (.p rfl) rfl ⟨rfl, rfl, rfl, rfl, rfl, trivial⟩ zv75 rfl rfl pl75 rfl (r_alloc (.p rfl) zv75 rfl rfl rfl (r_store rfl rfl rfl rfl sz75 rfl (leb rfl) rfl (r_end (W_seq (W_region mixed rfl (r_buildSlice [(0, .const (.int .i64 2), _), (1, .const (.int .i64 2), _)] (.p rfl) rfl ⟨rfl, rfl, trivial⟩ rfl slc27 sz3 zv3 rfl rfl (leb rfl) rfl rfl (r_buildSlice [(0, .const (.int .i64 0), _), (1, .const (.int .i64 0), _)] (.p rfl) rfl ⟨rfl, rfl, trivial⟩ rfl slc27 sz3 zv3 rfl rfl (leb rfl) rfl rfl (r_buildSlice [(0, .const (.int .i64 1), _), (1, .const (.int .i64 1), _)] (.p rfl) rfl ⟨rfl, rfl, trivial⟩ rfl slc27 sz3 zv3 rfl rfl (leb rfl) rfl rfl (r_loadN (.p rfl) rfl ag75 sz75 rfl rfl rfl (r_see (sees_frz 11 _ _ rfl rfl) (r_buildSlice [(0, .tmp 16, _)] (.p rfl) rfl ⟨rfl, trivial⟩ rfl slc28 sz75 zv75 rfl rfl (leb rfl) rfl rfl (r_build [(0, .tmp 13, _), (1, .tmp 14, _), (2, .tmp 15, _), (3, .tmp 17, _)] (.p rfl) rfl ⟨rfl, rfl, rfl, rfl, trivial⟩ zv30 rfl rfl pl30 rfl (r_store rfl rfl rfl rfl sz30 rfl (leb rfl) rfl (r_end ?_))))))))))))))))))))))))))))
  obtain rfl := Option.some.inj h
  refine W_sees (sees_mkL (rn [(1000, 13), (1001, 14), (1002, 15), (1003, 17)]) [(4, .e (.one (.ptr 4 0)))] [(4, .box [.own 1000, .own 1001, .own 1002, .own 1003]), (1000, .vec 1 ((([2, 2] : List Int)).map eI64)), (1001, .vec 1 ((([0, 0] : List Int)).map eI64)), (1002, .vec 1 ((([1, 1] : List Int)).map eI64)), (1003, .vec 6 ((([(ApiTable.mk 1 0 1 p1 (([([true, (!p0)] : List Bool), ([false, true] : List Bool)] : List (List Bool))) (([] : List (List Bool))))] : List ApiTable)).map eApiTable))] ⟨rfl, trivial⟩ ⟨rfl, rfl, rfl, rfl, rfl, trivial⟩ rfl rfl) (W_ret ?_)
  exact ⟨⟨[_], ⟨.cellN _ _ _ _ _ _ _ rfl rfl ag30 sz30 rfl rfl (ltb rfl), trivial⟩, rfl⟩, ⟨rfl, rfl, rfl, rfl, trivial⟩⟩
set_option maxRecDepth 10000 in
theorem fleet_within_c (N : Nat) (p0 : Int) (p1 : Int) (r : Bool) (h : Sh.fleet_within N p0 p1 = some r) : Contract Try.prog 89 [.e (.one (.pure (.val (.int .i64 p0)))), .e (.one (.pure (.val (.int .i64 p1))))] [] (.e (.one (.pure (.val (.bool r))))) := by
  unfold Sh.fleet_within at h
  refine contract_of_W (n := 12) (rs := [.tmp 4]) Try.func89 rfl rfl rfl (leb rfl) (leb rfl) rfl fun w0 S0 => ?_
  refine W_seq (W_region mixed rfl (r_assign (.p rfl) rfl (r_end ?_)))
  refine W_join h (fun v1 => mk [(4, .e (.one (.pure (.val (.bool v1)))))] []) (fun j1 h => ?_) (fun v1 h => ?_)
  · refine W_region mixed rfl (r_move (.p rfl) rfl (r_bin (.p rfl) rfl rfl (bin_geq _ _ _ _ _ _) rfl (r_move (.p rfl) rfl ?_)))
    refine r_split (t := 7) rfl (fun c2 => ?_) (fun c2 => ?_)
    · have h := cnd_t c2 h
      refine r_move (.g rfl rfl) rfl (r_move (.g rfl rfl) rfl (r_bin (.g rfl rfl) rfl rfl (bin_lss _ _ _ _ _ _) rfl (r_pick (.p rfl) rfl rfl rfl (r_assign (.p rfl) rfl (r_end ?_)))))
      exact sink (decide (p0 < p1)) h (sees_mkL (rn []) _ _ ⟨rfl, trivial⟩ trivial rfl rfl)
    · have h := cnd_f c2 h
      refine r_notB rfl rfl (r_notB rfl rfl (r_notB rfl rfl (r_pick (.p rfl) rfl rfl rfl (r_assign (.p rfl) rfl (r_end ?_)))))
      exact sink false h (sees_mkL (rn []) _ _ ⟨rfl, trivial⟩ trivial rfl rfl)
  · obtain rfl := Option.some.inj h
    refine W_sees (sees_mkL (rn []) [(4, .e (.one (.pure (.val (.bool v1)))))] [] ⟨rfl, trivial⟩ trivial rfl rfl) (W_ret ?_)
    exact ⟨⟨[_], ⟨.tmp _ _ rfl, trivial⟩, rfl⟩, trivial⟩
set_option maxRecDepth 10000 in
theorem fleet_kind_c (N : Nat) (p0 : Int) (p1 : Bool) (r : Bool) (h : Sh.fleet_kind N p0 p1 = some r) : Contract Try.prog 106 [.e (.one (.pure (.val (.int .i64 p0)))), .e (.one (.pure (.val (.bool p1))))] [] (.e (.one (.pure (.val (.bool r))))) := by
  unfold Sh.fleet_kind at h
  refine contract_of_W (n := 23) (rs := [.tmp 4]) Try.func106 rfl rfl rfl (leb rfl) (leb rfl) rfl fun w0 S0 => ?_
  refine W_seq (W_region mixed rfl (r_assign (.p rfl) rfl (r_end ?_)))
  refine W_join h (fun v1 => mk [(4, .e (.one (.pure (.val (.bool v1)))))] []) (fun j1 h => ?_) (fun v1 h => ?_)
  · refine W_region mixed rfl (r_move (.p rfl) rfl (r_bin (.p rfl) rfl rfl (bin_eql _ _ _ _ _ _) rfl (r_move (.p rfl) rfl ?_)))
    refine r_split (t := 7) rfl (fun c2 => ?_) (fun c2 => ?_)
    · have h := cnd_t c2 h
      refine r_notB rfl rfl (r_notB rfl rfl (r_pick (.p rfl) rfl rfl rfl (r_move (.p rfl) rfl (r_notB rfl rfl (r_notB rfl rfl (r_notB rfl rfl (r_notU rfl rfl (r_notU rfl rfl (r_notB rfl rfl (r_notB rfl rfl (r_notU rfl rfl (r_notU rfl rfl (r_notB rfl rfl (r_pick (.p rfl) rfl rfl rfl (r_assign (.p rfl) rfl (r_end ?_))))))))))))))))
      exact sink true h (sees_mkL (rn []) _ _ ⟨rfl, trivial⟩ trivial rfl rfl)
    · have h := cnd_f c2 h
      refine r_move (.g rfl rfl) rfl (r_bin (.g rfl rfl) rfl rfl (bin_eql _ _ _ _ _ _) rfl (r_pick (.p rfl) rfl rfl rfl (r_move (.p rfl) rfl ?_)))
      refine r_split (t := 11) rfl (fun c3 => ?_) (fun c3 => ?_)
      · have h := cnd_t c3 h
        refine r_notB rfl rfl (r_notB rfl rfl (r_notB rfl rfl (r_notU rfl rfl (r_notU rfl rfl (r_notB rfl rfl (r_notB rfl rfl (r_notU rfl rfl (r_notU rfl rfl (r_notB rfl rfl (r_pick (.p rfl) rfl rfl rfl (r_assign (.p rfl) rfl (r_end ?_))))))))))))
        exact sink true h (sees_mkL (rn []) _ _ ⟨rfl, trivial⟩ trivial rfl rfl)
      · have h := cnd_f c3 h
        refine r_move (.g rfl rfl) rfl (r_bin (.g rfl rfl) rfl rfl (bin_eql _ _ _ _ _ _) rfl (r_move (.g rfl rfl) rfl ?_))
        refine r_split (t := 14) rfl (fun c4 => ?_) (fun c4 => ?_)
        · have h := cnd_t c4 h
          refine r_notB rfl rfl (r_notB rfl rfl (r_pick (.g rfl rfl) rfl rfl rfl (r_move (.g rfl rfl) rfl (r_move (.g rfl rfl) rfl (r_un (.g rfl rfl) rfl (un_not _) rfl (r_pick (.g rfl rfl) rfl rfl rfl (r_pick (.p rfl) rfl rfl rfl (r_assign (.p rfl) rfl (r_end ?_)))))))))
          exact sink (!p1) h (sees_mkL (rn []) _ _ ⟨rfl, trivial⟩ trivial rfl rfl)
        · have h := cnd_f c4 h
          refine r_move (.g rfl rfl) rfl (r_bin (.g rfl rfl) rfl rfl (bin_eql _ _ _ _ _ _) rfl (r_pick (.g rfl rfl) rfl rfl rfl (r_move (.g rfl rfl) rfl ?_)))
          refine r_split (t := 18) rfl (fun c5 => ?_) (fun c5 => ?_)
          · have h := cnd_t c5 h
            refine r_move (.g rfl rfl) rfl (r_un (.g rfl rfl) rfl (un_not _) rfl (r_pick (.g rfl rfl) rfl rfl rfl (r_pick (.p rfl) rfl rfl rfl (r_assign (.p rfl) rfl (r_end ?_)))))
            exact sink (!p1) h (sees_mkL (rn []) _ _ ⟨rfl, trivial⟩ trivial rfl rfl)
          · have h := cnd_f c5 h
            refine r_notB rfl rfl (r_notB rfl rfl (r_pick (.g rfl rfl) rfl rfl rfl (r_pick (.p rfl) rfl rfl rfl (r_assign (.p rfl) rfl (r_end ?_)))))
            exact sink false h (sees_mkL (rn []) _ _ ⟨rfl, trivial⟩ trivial rfl rfl)
  · obtain rfl := Option.some.inj h
    refine W_sees (sees_mkL (rn []) [(4, .e (.one (.pure (.val (.bool v1)))))] [] ⟨rfl, trivial⟩ trivial rfl rfl) (W_ret ?_)
    exact ⟨⟨[_], ⟨.tmp _ _ rfl, trivial⟩, rfl⟩, trivial⟩
set_option maxRecDepth 10000 in
theorem fleet_matrix_1_c (N : Nat) (p0 : List Bool) (p1 : Int) (r : Bool) (h : Sh.fleet_matrix_1 N p0 p1 = some r) : Contract Try.prog 116 [.e (.one (.pure (.sl (p0.map eB)))), .e (.one (.rop [.val (.int .i64 p1)]))] [] (.e (.one (.pure (.val (.bool r))))) := by
  unfold Sh.fleet_matrix_1 at h
  refine contract_of_W (n := 8) (rs := [.tmp 3]) Try.func116 rfl rfl rfl (leb rfl) (leb rfl) rfl fun w0 S0 => ?_
  refine W_seq (W_region mixed rfl (r_assign (.p rfl) rfl (r_end (W_seq (W_region mixed rfl (r_move (.p rfl) rfl (r_len (.p rfl) rfl (.sl _) trivial (List.length_map _) slc76 (r_loadr1 (.p rfl) rfl ag3 rfl (r_bin (.p rfl) rfl rfl (bin_neq _ _ _ _ _ _) rfl (r_assign (.p rfl) rfl (r_end ?_)))))))))))
  obtain rfl := Option.some.inj h
  refine W_sees (sees_mkL (rn []) [(3, .e (.one (.pure (.val (.bool (((p0.length : Int) != p1)))))))] [] ⟨rfl, trivial⟩ trivial rfl rfl) (W_ret ?_)
  exact ⟨⟨[_], ⟨.tmp _ _ rfl, trivial⟩, rfl⟩, trivial⟩
set_option maxRecDepth 10000 in
theorem slices_IndexFunc_bool_bool_c (N : Nat) (p0 : List (List Bool)) (p1 : (List Bool) → Option Bool) (r : Int) (h : Sh.slices_IndexFunc_bool_bool N p0 p1 = some r) : Contract Try.prog 122 [.e (.one (.pure (.sl (p0.map (eSl eB))))), .e (.one (.clo (cloG (ea1 false (eSl eB)) tB p1)))] [] (.e (.one (.pure (.val (.int .i64 r))))) := by
  unfold Sh.slices_IndexFunc_bool_bool at h
  refine contract_of_W (n := 19) (rs := [.tmp 4]) Try.func122 rfl rfl rfl (leb rfl) (leb rfl) rfl fun w0 S0 => ?_
  refine W_seq (W_region mixed rfl (r_assign (.p rfl) rfl (r_end (W_seq (W_seq (W_region mixed rfl (r_move (.p rfl) rfl (r_len (.p rfl) rfl (.sl _) trivial (List.length_map _) slc73 (r_move (.p rfl) rfl (r_end ?_))))))))))
  refine W_whileE (L := Sh.slices_IndexFunc_bool_bool_L1 N p0 p1) h (fun v1 => mk [(0, .e (.one (.pure (.sl (p0.map (eSl eB)))))), (1, .e (.one (.clo (cloG (ea1 false (eSl eB)) tB p1)))), (7, .e (.one (.pure (.val (.int .i64 ((p0.length : Int))))))), (8, .e (.one (.pure (.val (.int .i64 v1)))))] []) (fun v2 => mk [] []) (fun _ _ => rfl) (sees_mkL (rn []) _ _ ⟨rfl, rfl, rfl, rfl, trivial⟩ trivial rfl rfl) (fun j1 n1 v1 h => ?_) (fun v2 s h hs => ?_)
  · unfold Sh.slices_IndexFunc_bool_bool_L1 at h
    refine W_seq (W_region mixed rfl (r_bin (.p rfl) rfl rfl (bin_lss _ _ _ _ _ _) rfl (r_end (W_seq ?_))))
    refine W_cond rfl (fun c3 => ?_) (fun c3 => ?_)
    · have h := cnd_t c3 h
      refine W_skip (W_seq (W_block (W_seq (W_region mixed rfl (r_move (.p rfl) rfl (r_assign (.p rfl) rfl (r_end (W_seq (W_region mixed rfl (r_move (.p rfl) rfl (r_move (.p rfl) rfl (r_move (.p rfl) rfl ?_))))))))))))
      obtain ⟨v4, a4, b4, h⟩ := idx_bind h
      refine r_index (.p rfl) rfl rfl slc73 sz76 a4 (map_get b4) rfl (r_loadr1 (.p rfl) rfl ag76 rfl ?_)
      obtain ⟨v5, a5, h⟩ := bind_some h
      refine r_callv (ds0 := [_]) (ar := (ea1 false (eSl eB)) v4) (.p rfl) rfl rfl ⟨rfl, trivial⟩ rfl rfl rfl (cloG_at (inj_ea1 _ _ (injSl injB)) a5) ?_
      refine r_end ?_
      refine W_cond rfl (fun c6 => ?_) (fun c6 => ?_)
      · have h := cnd_t c6 h
        refine W_seq (W_region mixed rfl (r_move (.p rfl) rfl (r_assign (.p rfl) rfl (r_end ?_))))
        obtain rfl := Option.some.inj h
        refine W_sees (sees_mkL (rn []) [(4, .e (.one (.pure (.val (.int .i64 v1)))))] [] ⟨rfl, trivial⟩ trivial rfl rfl) (W_ret ?_)
        exact ⟨⟨[_], ⟨.tmp _ _ rfl, trivial⟩, rfl⟩, trivial⟩
      · have h := cnd_f c6 h
        refine W_skip (W_region mixed rfl (r_bin (.p rfl) rfl rfl (bin_add _ _ _ _ _ _) rfl (r_move (.p rfl) rfl (r_end ?_))))
        exact sink (IntKind.wrap .i64 (v1 + 1)) h (sees_mkL (rn []) _ _ ⟨rfl, rfl, rfl, rfl, trivial⟩ trivial rfl rfl)
    · have h := cnd_f c3 h
      refine W_exit ?_
      exact sink () h (sees_mkL (rn []) _ _ trivial trivial rfl rfl)
  · refine W_sees hs (W_seq (W_region mixed rfl (r_assign (.p rfl) rfl (r_end ?_))))
    obtain rfl := Option.some.inj h
    refine W_sees (sees_mkL (rn []) [(4, .e (.one (.pure (.val (.int .i64 ((-1)))))))] [] ⟨rfl, trivial⟩ trivial rfl rfl) (W_ret ?_)
    exact ⟨⟨[_], ⟨.tmp _ _ rfl, trivial⟩, rfl⟩, trivial⟩
set_option maxRecDepth 10000 in
theorem slices_ContainsFunc_bool_bool_c (N : Nat) (p0 : List (List Bool)) (p1 : (List Bool) → Option Bool) (r : Bool) (h : Sh.slices_ContainsFunc_bool_bool N p0 p1 = some r) : Contract Try.prog 115 [.e (.one (.pure (.sl (p0.map (eSl eB))))), .e (.one (.clo (cloG (ea1 false (eSl eB)) tB p1)))] [] (.e (.one (.pure (.val (.bool r))))) := by
  unfold Sh.slices_ContainsFunc_bool_bool at h
  refine contract_of_W (n := 9) (rs := [.tmp 4]) Try.func115 rfl rfl rfl (leb rfl) (leb rfl) rfl fun w0 S0 => ?_
  refine W_seq (W_region mixed rfl (r_assign (.p rfl) rfl (r_end (W_seq (W_region mixed rfl (r_move (.p rfl) rfl (r_move (.p rfl) rfl ?_)))))))
  obtain ⟨v1, a1, h⟩ := bind_some h
  refine r_call (ds0 := [_, _]) [] (slices_IndexFunc_bool_bool_c N p0 p1 v1 a1) (.p rfl) gd122 rfl ⟨rfl, rfl, trivial⟩ rfl rfl rfl (nodupL_spec rfl) trivial rfl (r_bin (.p rfl) rfl rfl (bin_geq _ _ _ _ _ _) rfl (r_assign (.p rfl) rfl (r_end ?_)))
  obtain rfl := Option.some.inj h
  refine W_sees (sees_mkL (rn []) [(4, .e (.one (.pure (.val (.bool ((decide (0 ≤ v1))))))))] [] ⟨rfl, trivial⟩ trivial rfl rfl) (W_ret ?_)
  exact ⟨⟨[_], ⟨.tmp _ _ rfl, trivial⟩, rfl⟩, trivial⟩
set_option maxRecDepth 10000 in
theorem fleet_matrix_c (N : Nat) (p0 : List (List Bool)) (p1 : Int) (p2 : Int) (r : Bool) (h : Sh.fleet_matrix N p0 p1 p2 = some r) : Contract Try.prog 107 [.e (.one (.pure (.sl (p0.map (eSl eB))))), .e (.one (.pure (.val (.int .i64 p1)))), .e (.one (.pure (.val (.int .i64 p2))))] [] (.e (.one (.pure (.val (.bool r))))) := by
  unfold Sh.fleet_matrix at h
  refine contract_of_W (n := 17) (rs := [.tmp 6]) Try.func107 rfl rfl rfl (leb rfl) (leb rfl) rfl fun w0 S0 => ?_
  refine W_seq (W_region mixed rfl (r_box (.p rfl) rfl rfl (r_assign (.p rfl) rfl (r_end ?_))))
  refine W_join h (fun v1 => mk [(6, .e (.one (.pure (.val (.bool v1)))))] []) (fun j1 h => ?_) (fun v1 h => ?_)
  · refine W_region mixed rfl (r_move (.p rfl) rfl (r_len (.p rfl) rfl (.sl _) trivial (List.length_map _) slc73 (r_move (.p rfl) rfl (r_bin (.p rfl) rfl rfl (bin_eql _ _ _ _ _ _) rfl (r_move (.p rfl) rfl ?_)))))
    refine r_split (t := 11) rfl (fun c2 => ?_) (fun c2 => ?_)
    · have h := cnd_t c2 h
      refine r_move (.g rfl rfl) rfl (r_see (sees_fzb 5 [.val (.int .i64 p2)] rfl rfl) ?_)
      refine r_makeFunc (capD := [_]) (cloG (ea1 false (eSl eB)) tB ((fun (x : List Bool) => Sh.fleet_matrix_1 N x p2))) (.g rfl rfl) gd116 rfl ⟨rfl, trivial⟩ rfl (fun ar t ht => by obtain ⟨x, r, rfl, hq, rfl⟩ := cloG_some ht; exact fleet_matrix_1_c N x p2 r hq) ?_
      obtain ⟨v3, a3, h⟩ := bind_some h
      refine r_call (ds0 := [_, _]) [] (slices_ContainsFunc_bool_bool_c N p0 ((fun (x : List Bool) => Sh.fleet_matrix_1 N x p2)) v3 a3) (.g rfl rfl) gd115 rfl ⟨rfl, rfl, trivial⟩ rfl rfl rfl (nodupL_spec rfl) trivial rfl ?_
      refine r_un (.g rfl rfl) rfl (un_not _) rfl (r_pick (.p rfl) rfl rfl rfl (r_assign (.p rfl) rfl (r_end ?_)))
      exact sink (!v3) h (sees_mkL (rn []) _ _ ⟨rfl, trivial⟩ trivial rfl rfl)
    · have h := cnd_f c2 h
      refine r_notB rfl rfl (r_notB rfl rfl (r_notB rfl rfl (r_notB rfl rfl (r_pick (.p rfl) rfl rfl rfl (r_assign (.p rfl) rfl (r_end ?_))))))
      exact sink false h (sees_mkL (rn []) _ _ ⟨rfl, trivial⟩ trivial rfl rfl)
  · obtain rfl := Option.some.inj h
    refine W_sees (sees_mkL (rn []) [(6, .e (.one (.pure (.val (.bool v1)))))] [] ⟨rfl, trivial⟩ trivial rfl rfl) (W_ret ?_)
    exact ⟨⟨[_], ⟨.tmp _ _ rfl, trivial⟩, rfl⟩, trivial⟩
set_option maxRecDepth 10000 in
theorem fleet_table_c (N : Nat) (p0 : ApiProblem) (p1 : ApiTable) (r : Int) (h : Sh.fleet_table N p0 p1 = some r) : Contract Try.prog 90 [.e (.agg [.pure (.sl (p0.fVersions.map eI64)), .pure (.sl (p0.fNow.map eI64)), .pure (.sl (p0.fTarget.map eI64)), .pure (.sl (p0.fTables.map eApiTable))]), .e (.agg [.pure (.val (.int .i64 p1.fKind)), .pure (.val (.int .i64 p1.fFrom)), .pure (.val (.int .i64 p1.fTo)), .pure (.val (.bool p1.fAware)), .pure (.sl (p1.fOK.map (eSl eB))), .pure (.sl (p1.fRewrite.map (eSl eB)))])] [] (.e (.one (.pure (.val (.int .i64 r))))) := by
  unfold Sh.fleet_table at h
  refine contract_of_W (n := 87) (rs := [.tmp 4]) Try.func90 rfl rfl rfl (leb rfl) (leb rfl) rfl fun w0 S0 => ?_
  refine W_seq (W_region mixed rfl (r_box (.p rfl) rfl rfl (r_box (.p rfl) rfl rfl (r_assign (.p rfl) rfl (r_end (W_seq (W_seq (W_region mixed rfl (r_fieldAddr (.p rfl) rfl fld75_0 (r_load1 (.p rfl) rfl ag3 rfl rfl (r_fieldAddr (.p rfl) rfl fld75_3 (r_load1 (.p rfl) rfl ag4 rfl rfl ?_))))))))))))
  obtain ⟨v1, a1, h⟩ := bind_some h
  refine r_call (ds0 := [_, _]) [] (fleet_kind_c N p1.fKind p1.fAware v1 a1) (.p rfl) gd106 rfl ⟨rfl, rfl, trivial⟩ rfl rfl rfl (nodupL_spec rfl) trivial rfl (r_un (.p rfl) rfl (un_not _) rfl (r_end ?_))
  refine W_cond rfl (fun c2 => ?_) (fun c2 => ?_)
  · have h := cnd_t c2 h
    refine W_seq (W_region mixed rfl (r_assign (.p rfl) rfl (r_end ?_)))
    obtain rfl := Option.some.inj h
    refine W_sees (sees_mkL (rn []) [(4, .e (.one (.pure (.val (.int .i64 1)))))] [] ⟨rfl, trivial⟩ trivial rfl rfl) (W_ret ?_)
    exact ⟨⟨[_], ⟨.tmp _ _ rfl, trivial⟩, rfl⟩, trivial⟩
  · have h := cnd_f c2 h
    refine W_skip (W_seq ?_)
    refine W_join h (fun v3 => mk [(2, .e (.one (.ptr 2 0))), (3, .e (.one (.ptr 3 0))), (29, .e (.one (.pure (.val (.bool v3)))))] [(2, .box [.pure (.sl (p0.fVersions.map eI64)), .pure (.sl (p0.fNow.map eI64)), .pure (.sl (p0.fTarget.map eI64)), .pure (.sl (p0.fTables.map eApiTable))]), (3, .box [.pure (.val (.int .i64 p1.fKind)), .pure (.val (.int .i64 p1.fFrom)), .pure (.val (.int .i64 p1.fTo)), .pure (.val (.bool p1.fAware)), .pure (.sl (p1.fOK.map (eSl eB))), .pure (.sl (p1.fRewrite.map (eSl eB)))])]) (fun j3 h => ?_) (fun v3 h => ?_)
    · refine W_region mixed rfl (r_fieldAddr (.p rfl) rfl fld75_1 (r_load1 (.p rfl) rfl ag3 rfl rfl (r_fieldAddr (.p rfl) rfl fld30_0 (r_load1 (.p rfl) rfl ag27 rfl rfl (r_len (.p rfl) rfl (.sl _) trivial (List.length_map _) slc27 ?_)))))
      obtain ⟨v4, a4, h⟩ := bind_some h
      refine r_call (ds0 := [_, _]) [] (fleet_within_c N p1.fFrom ((p0.fVersions.length : Int)) v4 a4) (.p rfl) gd89 rfl ⟨rfl, rfl, trivial⟩ rfl rfl rfl (nodupL_spec rfl) trivial rfl (r_un (.p rfl) rfl (un_not _) rfl (r_move (.p rfl) rfl ?_))
      refine r_split (t := 21) rfl (fun c5 => ?_) (fun c5 => ?_)
      · have h := cnd_t c5 h
        refine r_notB rfl rfl (r_notB rfl rfl (r_notB rfl rfl (r_notB rfl rfl (r_notB rfl rfl (r_notB rfl rfl (r_notB rfl rfl (r_pick (.p rfl) rfl rfl rfl (r_end ?_))))))))
        exact sink true h (sees_mkL (rn []) _ _ ⟨rfl, rfl, rfl, trivial⟩ ⟨rfl, rfl, trivial⟩ rfl rfl)
      · have h := cnd_f c5 h
        refine r_fieldAddr (.g rfl rfl) rfl fld75_2 (r_load1 (.g rfl rfl) rfl ag3 rfl rfl (r_fieldAddr (.g rfl rfl) rfl fld30_0 (r_load1 (.g rfl rfl) rfl ag27 rfl rfl (r_len (.g rfl rfl) rfl (.sl _) trivial (List.length_map _) slc27 ?_))))
        obtain ⟨v6, a6, h⟩ := bind_some h
        refine r_call (ds0 := [_, _]) [] (fleet_within_c N p1.fTo ((p0.fVersions.length : Int)) v6 a6) (.g rfl rfl) gd89 rfl ⟨rfl, rfl, trivial⟩ rfl rfl rfl (nodupL_spec rfl) trivial rfl (r_un (.g rfl rfl) rfl (un_not _) rfl (r_pick (.p rfl) rfl rfl rfl (r_end ?_)))
        exact sink (!v6) h (sees_mkL (rn []) _ _ ⟨rfl, rfl, rfl, trivial⟩ ⟨rfl, rfl, trivial⟩ rfl rfl)
    · refine W_cond rfl (fun c7 => ?_) (fun c7 => ?_)
      · have h := cnd_t c7 h
        refine W_seq (W_region mixed rfl (r_assign (.p rfl) rfl (r_end ?_)))
        obtain rfl := Option.some.inj h
        refine W_sees (sees_mkL (rn []) [(4, .e (.one (.pure (.val (.int .i64 4)))))] [] ⟨rfl, trivial⟩ trivial rfl rfl) (W_ret ?_)
        exact ⟨⟨[_], ⟨.tmp _ _ rfl, trivial⟩, rfl⟩, trivial⟩
      · have h := cnd_f c7 h
        refine W_skip (W_seq (W_region mixed rfl (r_fieldAddr (.p rfl) rfl fld30_0 (r_load1 (.p rfl) rfl ag27 rfl rfl (r_fieldAddr (.p rfl) rfl fld75_1 (r_load1 (.p rfl) rfl ag3 rfl rfl ?_))))))
        obtain ⟨v8, a8, b8, h⟩ := idx_bind h
        refine r_index (.p rfl) rfl rfl slc27 sz3 a8 (map_get b8) rfl (r_loadr1 (.p rfl) rfl ag3 rfl (r_assign (.p rfl) rfl (r_end (W_seq (W_region mixed rfl (r_fieldAddr (.p rfl) rfl fld75_0 (r_load1 (.p rfl) rfl ag3 rfl rfl (r_bin (.p rfl) rfl rfl (bin_eql _ _ _ _ _ _) rfl (r_assign (.p rfl) rfl (r_end (W_seq ?_)))))))))))
        refine W_join h (fun v9 => mk [(3, .e (.one (.ptr 3 0))), (70, .e (.one (.pure (.val (.bool v9)))))] [(3, .box [.pure (.val (.int .i64 p1.fKind)), .pure (.val (.int .i64 p1.fFrom)), .pure (.val (.int .i64 p1.fTo)), .pure (.val (.bool p1.fAware)), .pure (.sl (p1.fOK.map (eSl eB))), .pure (.sl (p1.fRewrite.map (eSl eB)))])]) (fun j9 h => ?_) (fun v9 h => ?_)
        · refine W_region mixed rfl (r_fieldAddr (.p rfl) rfl fld75_4 (r_load1 (.p rfl) rfl ag73 rfl rfl (r_move (.p rfl) rfl (r_fieldAddr (.p rfl) rfl fld30_0 (r_load1 (.p rfl) rfl ag27 rfl rfl (r_fieldAddr (.p rfl) rfl fld75_2 (r_load1 (.p rfl) rfl ag3 rfl rfl ?_)))))))
          obtain ⟨v10, a10, b10, h⟩ := idx_bind h
          refine r_index (.p rfl) rfl rfl slc27 sz3 a10 (map_get b10) rfl (r_loadr1 (.p rfl) rfl ag3 rfl ?_)
          obtain ⟨v11, a11, h⟩ := bind_some h
          refine r_call (ds0 := [_, _, _]) [] (fleet_matrix_c N p1.fOK v8 v10 v11 a11) (.p rfl) gd107 rfl ⟨rfl, rfl, rfl, trivial⟩ rfl rfl rfl (nodupL_spec rfl) trivial rfl (r_un (.p rfl) rfl (un_not _) rfl (r_move (.p rfl) rfl ?_))
          refine r_split (t := 50) rfl (fun c12 => ?_) (fun c12 => ?_)
          · have h := cnd_t c12 h
            refine r_notB rfl rfl (r_notB rfl rfl (r_notU rfl rfl (r_notU rfl rfl (r_notU rfl rfl (r_notU rfl rfl (r_notU rfl rfl (r_notU rfl rfl (r_notB rfl rfl (r_pick (.p rfl) rfl rfl rfl (r_move (.p rfl) rfl (r_notB rfl rfl (r_notB rfl rfl (r_notB rfl rfl (r_notU rfl rfl (r_notU rfl rfl (r_notU rfl rfl (r_notU rfl rfl (r_notB rfl rfl (r_pick (.p rfl) rfl rfl rfl ?_)))))))))))))))))))
            refine r_endD (by kernel_rfl) ?_
            exact sink true h (sees_mkL (rn []) _ _ ⟨rfl, rfl, trivial⟩ ⟨rfl, trivial⟩ rfl rfl)
          · have h := cnd_f c12 h
            refine r_move (.g rfl rfl) rfl (r_move (.g rfl rfl) rfl ?_)
            refine r_split (t := 52) rfl (fun c13 => ?_) (fun c13 => ?_)
            · have h := cnd_t c13 h
              refine r_fieldAddr (.g rfl rfl) rfl fld75_5 (r_load1 (.g rfl rfl) rfl ag73 rfl rfl (r_move (.g rfl rfl) rfl (r_move (.g rfl rfl) rfl ?_)))
              obtain ⟨v14, a14, h⟩ := bind_some h
              refine r_call (ds0 := [_, _, _]) [] (fleet_matrix_c N p1.fRewrite v8 v8 v14 a14) (.g rfl rfl) gd107 rfl ⟨rfl, rfl, rfl, trivial⟩ rfl rfl rfl (nodupL_spec rfl) trivial rfl (r_un (.g rfl rfl) rfl (un_not _) rfl (r_pick (.g rfl rfl) rfl rfl rfl (r_pick (.p rfl) rfl rfl rfl (r_move (.p rfl) rfl ?_))))
              refine r_split (t := 61) rfl (fun c15 => ?_) (fun c15 => ?_)
              · have h := cnd_t c15 h
                refine r_notB rfl rfl (r_notB rfl rfl (r_notB rfl rfl (r_notU rfl rfl (r_notU rfl rfl (r_notU rfl rfl (r_notU rfl rfl (r_notB rfl rfl (r_pick (.p rfl) rfl rfl rfl ?_))))))))
                refine r_endD (by kernel_rfl) ?_
                exact sink true h (sees_mkL (rn []) _ _ ⟨rfl, rfl, trivial⟩ ⟨rfl, trivial⟩ rfl rfl)
              · have h := cnd_f c15 h
                refine r_move (.g rfl rfl) rfl (r_un (.g rfl rfl) rfl (un_not _) rfl (r_move (.g rfl rfl) rfl ?_))
                refine r_split (t := 64) rfl (fun c16 => ?_) (fun c16 => ?_)
                · have h := cnd_t c16 h
                  refine r_fieldAddr (.g rfl rfl) rfl fld75_5 (r_load1 (.g rfl rfl) rfl ag73 rfl rfl (r_len (.g rfl rfl) rfl (.sl _) trivial (List.length_map _) slc73 (r_bin (.g rfl rfl) rfl rfl (bin_gtr _ _ _ _ _ _) rfl (r_pick (.g rfl rfl) rfl rfl rfl (r_pick (.p rfl) rfl rfl rfl ?_)))))
                  refine r_endD (by kernel_rfl) ?_
                  exact sink (decide (0 < (p1.fRewrite.length : Int))) h (sees_mkL (rn []) _ _ ⟨rfl, rfl, trivial⟩ ⟨rfl, trivial⟩ rfl rfl)
                · have h := cnd_f c16 h
                  refine r_notB rfl rfl (r_notB rfl rfl (r_notB rfl rfl (r_notB rfl rfl (r_pick (.g rfl rfl) rfl rfl rfl (r_pick (.p rfl) rfl rfl rfl ?_)))))
                  refine r_endD (by kernel_rfl) ?_
                  exact sink false h (sees_mkL (rn []) _ _ ⟨rfl, rfl, trivial⟩ ⟨rfl, trivial⟩ rfl rfl)
            · have h := cnd_f c13 h
              refine r_notB rfl rfl (r_notB rfl rfl (r_notB rfl rfl (r_notB rfl rfl (r_notB rfl rfl (r_notB rfl rfl (r_pick (.g rfl rfl) rfl rfl rfl (r_pick (.p rfl) rfl rfl rfl (r_move (.p rfl) rfl (r_move (.g rfl rfl) rfl (r_un (.g rfl rfl) rfl (un_not _) rfl (r_move (.g rfl rfl) rfl ?_)))))))))))
              refine r_split (t := 64) rfl (fun c17 => ?_) (fun c17 => ?_)
              · have h := cnd_t c17 h
                refine r_fieldAddr (.g rfl rfl) rfl fld75_5 (r_load1 (.g rfl rfl) rfl ag73 rfl rfl (r_len (.g rfl rfl) rfl (.sl _) trivial (List.length_map _) slc73 (r_bin (.g rfl rfl) rfl rfl (bin_gtr _ _ _ _ _ _) rfl (r_pick (.g rfl rfl) rfl rfl rfl (r_pick (.p rfl) rfl rfl rfl ?_)))))
                refine r_endD (by kernel_rfl) ?_
                exact sink (decide (0 < (p1.fRewrite.length : Int))) h (sees_mkL (rn []) _ _ ⟨rfl, rfl, trivial⟩ ⟨rfl, trivial⟩ rfl rfl)
              · have h := cnd_f c17 h
                refine r_notB rfl rfl (r_notB rfl rfl (r_notB rfl rfl (r_notB rfl rfl (r_pick (.g rfl rfl) rfl rfl rfl (r_pick (.p rfl) rfl rfl rfl ?_)))))
                refine r_endD (by kernel_rfl) ?_
                exact sink false h (sees_mkL (rn []) _ _ ⟨rfl, rfl, trivial⟩ ⟨rfl, trivial⟩ rfl rfl)
        · refine W_cond rfl (fun c18 => ?_) (fun c18 => ?_)
          · have h := cnd_t c18 h
            refine W_seq (W_region mixed rfl (r_assign (.p rfl) rfl (r_end ?_)))
            obtain rfl := Option.some.inj h
            refine W_sees (sees_mkL (rn []) [(4, .e (.one (.pure (.val (.int .i64 6)))))] [] ⟨rfl, trivial⟩ trivial rfl rfl) (W_ret ?_)
            exact ⟨⟨[_], ⟨.tmp _ _ rfl, trivial⟩, rfl⟩, trivial⟩
          · have h := cnd_f c18 h
            refine W_skip (W_seq (W_seq (W_region mixed rfl (r_fieldAddr (.p rfl) rfl fld75_5 (r_load1 (.p rfl) rfl ag73 rfl rfl (r_len (.p rfl) rfl (.sl _) trivial (List.length_map _) slc73 (r_move (.p rfl) rfl (r_end ?_))))))))
            refine W_whileE (L := Sh.fleet_table_L19 N p1) h (fun v19 => mk [(3, .e (.one (.ptr 3 0))), (73, .e (.one (.pure (.val (.int .i64 ((p1.fRewrite.length : Int))))))), (74, .e (.one (.pure (.val (.int .i64 v19)))))] [(3, .box [.pure (.val (.int .i64 p1.fKind)), .pure (.val (.int .i64 p1.fFrom)), .pure (.val (.int .i64 p1.fTo)), .pure (.val (.bool p1.fAware)), .pure (.sl (p1.fOK.map (eSl eB))), .pure (.sl (p1.fRewrite.map (eSl eB)))])]) (fun v20 => mk [] []) (fun _ _ => rfl) (sees_mkL (rn []) _ _ ⟨rfl, rfl, rfl, trivial⟩ ⟨rfl, trivial⟩ rfl rfl) (fun j19 n19 v19 h => ?_) (fun v20 s h hs => ?_)
            · unfold Sh.fleet_table_L19 at h
              refine W_seq (W_region mixed rfl (r_bin (.p rfl) rfl rfl (bin_lss _ _ _ _ _ _) rfl (r_end (W_seq ?_))))
              refine W_cond rfl (fun c21 => ?_) (fun c21 => ?_)
              · have h := cnd_t c21 h
                refine W_skip (W_seq (W_block (W_seq (W_region mixed rfl (r_move (.p rfl) rfl (r_assign (.p rfl) rfl (r_end (W_seq (W_region mixed rfl (r_fieldAddr (.p rfl) rfl fld75_5 (r_load1 (.p rfl) rfl ag73 rfl rfl (r_move (.p rfl) rfl ?_))))))))))))
                obtain ⟨v22, a22, b22, h⟩ := idx_bind h
                refine r_index (.p rfl) rfl rfl slc73 sz76 a22 (map_get b22) rfl (r_loadr1 (.p rfl) rfl ag76 rfl (r_move (.p rfl) rfl ?_))
                obtain ⟨v23, a23, b23, h⟩ := idx_bind h
                refine r_index (.p rfl) rfl rfl slc76 sz4 a23 (map_get b23) rfl (r_loadr1 (.p rfl) rfl ag4 rfl (r_un (.p rfl) rfl (un_not _) rfl (r_end ?_)))
                refine W_cond rfl (fun c24 => ?_) (fun c24 => ?_)
                · have h := cnd_t c24 h
                  refine W_seq (W_region mixed rfl (r_assign (.p rfl) rfl (r_end ?_)))
                  obtain rfl := Option.some.inj h
                  refine W_sees (sees_mkL (rn []) [(4, .e (.one (.pure (.val (.int .i64 1)))))] [] ⟨rfl, trivial⟩ trivial rfl rfl) (W_ret ?_)
                  exact ⟨⟨[_], ⟨.tmp _ _ rfl, trivial⟩, rfl⟩, trivial⟩
                · have h := cnd_f c24 h
                  refine W_skip (W_region mixed rfl (r_bin (.p rfl) rfl rfl (bin_add _ _ _ _ _ _) rfl (r_move (.p rfl) rfl (r_end ?_))))
                  exact sink (IntKind.wrap .i64 (v19 + 1)) h (sees_mkL (rn []) _ _ ⟨rfl, rfl, rfl, trivial⟩ ⟨rfl, trivial⟩ rfl rfl)
              · have h := cnd_f c21 h
                refine W_exit ?_
                exact sink () h (sees_mkL (rn []) _ _ trivial trivial rfl rfl)
            · refine W_sees hs (W_seq (W_region mixed rfl (r_assign (.p rfl) rfl (r_end ?_))))
              obtain rfl := Option.some.inj h
              refine W_sees (sees_mkL (rn []) [(4, .e (.one (.pure (.val (.int .i64 0)))))] [] ⟨rfl, trivial⟩ trivial rfl rfl) (W_ret ?_)
              exact ⟨⟨[_], ⟨.tmp _ _ rfl, trivial⟩, rfl⟩, trivial⟩
set_option maxRecDepth 10000 in
theorem fleet_ValidProblem_c (N : Nat) (p0 : ApiProblem) (r : Int) (h : Sh.fleet_ValidProblem N p0 = some r) : Contract Try.prog 61 [.e (.agg [.pure (.sl (p0.fVersions.map eI64)), .pure (.sl (p0.fNow.map eI64)), .pure (.sl (p0.fTarget.map eI64)), .pure (.sl (p0.fTables.map eApiTable))])] [] (.e (.one (.pure (.val (.int .i64 r))))) := by
  unfold Sh.fleet_ValidProblem at h
  refine contract_of_W (n := 81) (rs := [.tmp 2]) Try.func61 rfl rfl rfl (leb rfl) (leb rfl) rfl fun w0 S0 => ?_
  refine W_seq (W_region mixed rfl (r_box (.p rfl) rfl rfl (r_assign (.p rfl) rfl (r_end (W_seq (W_region mixed rfl (r_fieldAddr (.p rfl) rfl fld30_0 (r_load1 (.p rfl) rfl ag27 rfl rfl (r_len (.p rfl) rfl (.sl _) trivial (List.length_map _) slc27 (r_assign (.p rfl) rfl (r_end (W_seq ?_))))))))))))
  refine W_join h (fun v1 => mk [(1, .e (.one (.ptr 1 0))), (3, .e (.one (.pure (.val (.int .i64 ((p0.fVersions.length : Int))))))), (19, .e (.one (.pure (.val (.bool v1)))))] [(1, .box [.pure (.sl (p0.fVersions.map eI64)), .pure (.sl (p0.fNow.map eI64)), .pure (.sl (p0.fTarget.map eI64)), .pure (.sl (p0.fTables.map eApiTable))])]) (fun j1 h => ?_) (fun v1 h => ?_)
  · refine W_region mixed rfl (r_move (.p rfl) rfl (r_bin (.p rfl) rfl rfl (bin_gtr _ _ _ _ _ _) rfl (r_move (.p rfl) rfl ?_)))
    refine r_split (t := 14) rfl (fun c2 => ?_) (fun c2 => ?_)
    · have h := cnd_t c2 h
      refine r_notB rfl rfl (r_notB rfl rfl (r_notB rfl rfl (r_notB rfl rfl (r_pick (.p rfl) rfl rfl rfl (r_end ?_)))))
      exact sink true h (sees_mkL (rn []) _ _ ⟨rfl, rfl, rfl, trivial⟩ ⟨rfl, trivial⟩ rfl rfl)
    · have h := cnd_f c2 h
      refine r_fieldAddr (.g rfl rfl) rfl fld30_3 (r_load1 (.g rfl rfl) rfl ag28 rfl rfl (r_len (.g rfl rfl) rfl (.sl _) trivial (List.length_map _) slc28 (r_bin (.g rfl rfl) rfl rfl (bin_gtr _ _ _ _ _ _) rfl (r_pick (.p rfl) rfl rfl rfl (r_end ?_)))))
      exact sink (decide (12 < (p0.fTables.length : Int))) h (sees_mkL (rn []) _ _ ⟨rfl, rfl, rfl, trivial⟩ ⟨rfl, trivial⟩ rfl rfl)
  · refine W_cond rfl (fun c3 => ?_) (fun c3 => ?_)
    · have h := cnd_t c3 h
      refine W_seq (W_region mixed rfl (r_assign (.p rfl) rfl (r_end ?_)))
      obtain rfl := Option.some.inj h
      refine W_sees (sees_mkL (rn []) [(2, .e (.one (.pure (.val (.int .i64 3)))))] [] ⟨rfl, trivial⟩ trivial rfl rfl) (W_ret ?_)
      exact ⟨⟨[_], ⟨.tmp _ _ rfl, trivial⟩, rfl⟩, trivial⟩
    · have h := cnd_f c3 h
      refine W_skip (W_seq ?_)
      refine W_join h (fun v4 => mk [(1, .e (.one (.ptr 1 0))), (31, .e (.one (.pure (.val (.bool v4)))))] [(1, .box [.pure (.sl (p0.fVersions.map eI64)), .pure (.sl (p0.fNow.map eI64)), .pure (.sl (p0.fTarget.map eI64)), .pure (.sl (p0.fTables.map eApiTable))])]) (fun j4 h => ?_) (fun v4 h => ?_)
      · refine W_region mixed rfl (r_fieldAddr (.p rfl) rfl fld30_1 (r_load1 (.p rfl) rfl ag27 rfl rfl (r_len (.p rfl) rfl (.sl _) trivial (List.length_map _) slc27 (r_move (.p rfl) rfl (r_bin (.p rfl) rfl rfl (bin_neq _ _ _ _ _ _) rfl (r_move (.p rfl) rfl ?_))))))
        refine r_split (t := 25) rfl (fun c5 => ?_) (fun c5 => ?_)
        · have h := cnd_t c5 h
          refine r_notB rfl rfl (r_notB rfl rfl (r_notB rfl rfl (r_notB rfl rfl (r_notB rfl rfl (r_pick (.p rfl) rfl rfl rfl (r_end ?_))))))
          exact sink true h (sees_mkL (rn []) _ _ ⟨rfl, rfl, trivial⟩ ⟨rfl, trivial⟩ rfl rfl)
        · have h := cnd_f c5 h
          refine r_fieldAddr (.g rfl rfl) rfl fld30_2 (r_load1 (.g rfl rfl) rfl ag27 rfl rfl (r_len (.g rfl rfl) rfl (.sl _) trivial (List.length_map _) slc27 (r_move (.g rfl rfl) rfl (r_bin (.g rfl rfl) rfl rfl (bin_neq _ _ _ _ _ _) rfl (r_pick (.p rfl) rfl rfl rfl (r_end ?_))))))
          exact sink ((p0.fTarget.length : Int) != (p0.fVersions.length : Int)) h (sees_mkL (rn []) _ _ ⟨rfl, rfl, trivial⟩ ⟨rfl, trivial⟩ rfl rfl)
      · refine W_cond rfl (fun c6 => ?_) (fun c6 => ?_)
        · have h := cnd_t c6 h
          refine W_seq (W_region mixed rfl (r_assign (.p rfl) rfl (r_end ?_)))
          obtain rfl := Option.some.inj h
          refine W_sees (sees_mkL (rn []) [(2, .e (.one (.pure (.val (.int .i64 6)))))] [] ⟨rfl, trivial⟩ trivial rfl rfl) (W_ret ?_)
          exact ⟨⟨[_], ⟨.tmp _ _ rfl, trivial⟩, rfl⟩, trivial⟩
        · have h := cnd_f c6 h
          refine W_skip (W_seq (W_seq (W_region mixed rfl (r_fieldAddr (.p rfl) rfl fld30_0 (r_load1 (.p rfl) rfl ag27 rfl rfl (r_len (.p rfl) rfl (.sl _) trivial (List.length_map _) slc27 (r_move (.p rfl) rfl (r_end ?_))))))))
          refine W_whileE (L := Sh.fleet_ValidProblem_L7 N p0) h (fun v7 => mk [(1, .e (.one (.ptr 1 0))), (33, .e (.one (.pure (.sl (p0.fVersions.map eI64))))), (34, .e (.one (.pure (.val (.int .i64 ((p0.fVersions.length : Int))))))), (35, .e (.one (.pure (.val (.int .i64 v7)))))] [(1, .box [.pure (.sl (p0.fVersions.map eI64)), .pure (.sl (p0.fNow.map eI64)), .pure (.sl (p0.fTarget.map eI64)), .pure (.sl (p0.fTables.map eApiTable))])]) (fun v8 => mk [(1, .e (.one (.ptr 1 0)))] [(1, .box [.pure (.sl (p0.fVersions.map eI64)), .pure (.sl (p0.fNow.map eI64)), .pure (.sl (p0.fTarget.map eI64)), .pure (.sl (p0.fTables.map eApiTable))])]) (fun _ _ => rfl) (sees_mkL (rn []) _ _ ⟨rfl, rfl, rfl, rfl, trivial⟩ ⟨rfl, trivial⟩ rfl rfl) (fun j7 n7 v7 h => ?_) (fun v8 s h hs => ?_)
          · unfold Sh.fleet_ValidProblem_L7 at h
            refine W_seq (W_region mixed rfl (r_bin (.p rfl) rfl rfl (bin_lss _ _ _ _ _ _) rfl (r_end (W_seq ?_))))
            refine W_cond rfl (fun c9 => ?_) (fun c9 => ?_)
            · have h := cnd_t c9 h
              refine W_skip (W_seq (W_block (W_seq (W_region mixed rfl (r_move (.p rfl) rfl ?_)))))
              obtain ⟨v10, a10, b10, h⟩ := idx_bind h
              refine r_index (.p rfl) rfl rfl slc27 sz3 a10 (map_get b10) rfl (r_loadr1 (.p rfl) rfl ag3 rfl (r_assign (.p rfl) rfl (r_assign (.p rfl) rfl (r_end ?_))))
              refine W_join h (fun v11 => mk [(1, .e (.one (.ptr 1 0))), (33, .e (.one (.pure (.sl (p0.fVersions.map eI64))))), (34, .e (.one (.pure (.val (.int .i64 ((p0.fVersions.length : Int))))))), (35, .e (.one (.pure (.val (.int .i64 v7))))), (65, .e (.one (.pure (.val (.bool v11)))))] [(1, .box [.pure (.sl (p0.fVersions.map eI64)), .pure (.sl (p0.fNow.map eI64)), .pure (.sl (p0.fTarget.map eI64)), .pure (.sl (p0.fTables.map eApiTable))])]) (fun j11 h => ?_) (fun v11 h => ?_)
              · refine W_region mixed rfl (r_move (.p rfl) rfl (r_bin (.p rfl) rfl rfl (bin_lss _ _ _ _ _ _) rfl (r_move (.p rfl) rfl ?_)))
                refine r_split (t := 42) rfl (fun c12 => ?_) (fun c12 => ?_)
                · have h := cnd_t c12 h
                  refine r_notB rfl rfl (r_notB rfl rfl (r_pick (.p rfl) rfl rfl rfl (r_move (.p rfl) rfl (r_notB rfl rfl (r_notB rfl rfl (r_notB rfl rfl (r_notB rfl rfl (r_notB rfl rfl (r_notB rfl rfl (r_notB rfl rfl (r_notB rfl rfl (r_pick (.p rfl) rfl rfl rfl (r_move (.p rfl) rfl (r_notB rfl rfl (r_notB rfl rfl (r_notB rfl rfl (r_notB rfl rfl (r_notB rfl rfl (r_notB rfl rfl (r_notB rfl rfl (r_notB rfl rfl (r_pick (.p rfl) rfl rfl rfl (r_end ?_)))))))))))))))))))))))
                  exact sink true h (sees_mkL (rn []) _ _ ⟨rfl, rfl, rfl, rfl, rfl, trivial⟩ ⟨rfl, trivial⟩ rfl rfl)
                · have h := cnd_f c12 h
                  refine r_move (.g rfl rfl) rfl (r_bin (.g rfl rfl) rfl rfl (bin_gtr _ _ _ _ _ _) rfl (r_pick (.p rfl) rfl rfl rfl (r_move (.p rfl) rfl ?_)))
                  refine r_split (t := 46) rfl (fun c13 => ?_) (fun c13 => ?_)
                  · have h := cnd_t c13 h
                    refine r_notB rfl rfl (r_notB rfl rfl (r_notB rfl rfl (r_notB rfl rfl (r_notB rfl rfl (r_notB rfl rfl (r_notB rfl rfl (r_notB rfl rfl (r_pick (.p rfl) rfl rfl rfl (r_move (.p rfl) rfl (r_notB rfl rfl (r_notB rfl rfl (r_notB rfl rfl (r_notB rfl rfl (r_notB rfl rfl (r_notB rfl rfl (r_notB rfl rfl (r_notB rfl rfl (r_pick (.p rfl) rfl rfl rfl (r_end ?_)))))))))))))))))))
                    exact sink true h (sees_mkL (rn []) _ _ ⟨rfl, rfl, rfl, rfl, rfl, trivial⟩ ⟨rfl, trivial⟩ rfl rfl)
                  · have h := cnd_f c13 h
                    refine r_fieldAddr (.g rfl rfl) rfl fld30_1 (r_load1 (.g rfl rfl) rfl ag27 rfl rfl (r_move (.g rfl rfl) rfl ?_))
                    obtain ⟨v14, a14, b14, h⟩ := idx_bind h
                    refine r_index (.g rfl rfl) rfl rfl slc27 sz3 a14 (map_get b14) rfl (r_loadr1 (.g rfl rfl) rfl ag3 rfl (r_move (.g rfl rfl) rfl ?_))
                    obtain ⟨v15, a15, h⟩ := bind_some h
                    refine r_call (ds0 := [_, _]) [] (fleet_within_c N v14 v10 v15 a15) (.g rfl rfl) gd89 rfl ⟨rfl, rfl, trivial⟩ rfl rfl rfl (nodupL_spec rfl) trivial rfl (r_un (.g rfl rfl) rfl (un_not _) rfl (r_pick (.p rfl) rfl rfl rfl (r_move (.p rfl) rfl ?_)))
                    refine r_split (t := 56) rfl (fun c16 => ?_) (fun c16 => ?_)
                    · have h := cnd_t c16 h
                      refine r_notB rfl rfl (r_notB rfl rfl (r_notB rfl rfl (r_notB rfl rfl (r_notB rfl rfl (r_notB rfl rfl (r_notB rfl rfl (r_notB rfl rfl (r_pick (.p rfl) rfl rfl rfl (r_end ?_)))))))))
                      exact sink true h (sees_mkL (rn []) _ _ ⟨rfl, rfl, rfl, rfl, rfl, trivial⟩ ⟨rfl, trivial⟩ rfl rfl)
                    · have h := cnd_f c16 h
                      refine r_fieldAddr (.g rfl rfl) rfl fld30_2 (r_load1 (.g rfl rfl) rfl ag27 rfl rfl (r_move (.g rfl rfl) rfl ?_))
                      obtain ⟨v17, a17, b17, h⟩ := idx_bind h
                      refine r_index (.g rfl rfl) rfl rfl slc27 sz3 a17 (map_get b17) rfl (r_loadr1 (.g rfl rfl) rfl ag3 rfl (r_move (.g rfl rfl) rfl ?_))
                      obtain ⟨v18, a18, h⟩ := bind_some h
                      refine r_call (ds0 := [_, _]) [] (fleet_within_c N v17 v10 v18 a18) (.g rfl rfl) gd89 rfl ⟨rfl, rfl, trivial⟩ rfl rfl rfl (nodupL_spec rfl) trivial rfl (r_un (.g rfl rfl) rfl (un_not _) rfl (r_pick (.p rfl) rfl rfl rfl (r_end ?_)))
                      exact sink (!v18) h (sees_mkL (rn []) _ _ ⟨rfl, rfl, rfl, rfl, rfl, trivial⟩ ⟨rfl, trivial⟩ rfl rfl)
              · refine W_cond rfl (fun c19 => ?_) (fun c19 => ?_)
                · have h := cnd_t c19 h
                  refine W_seq (W_region mixed rfl (r_assign (.p rfl) rfl (r_end ?_)))
                  obtain rfl := Option.some.inj h
                  refine W_sees (sees_mkL (rn []) [(2, .e (.one (.pure (.val (.int .i64 7)))))] [] ⟨rfl, trivial⟩ trivial rfl rfl) (W_ret ?_)
                  exact ⟨⟨[_], ⟨.tmp _ _ rfl, trivial⟩, rfl⟩, trivial⟩
                · have h := cnd_f c19 h
                  refine W_skip (W_region mixed rfl (r_bin (.p rfl) rfl rfl (bin_add _ _ _ _ _ _) rfl (r_move (.p rfl) rfl (r_end ?_))))
                  exact sink (IntKind.wrap .i64 (v7 + 1)) h (sees_mkL (rn []) _ _ ⟨rfl, rfl, rfl, rfl, trivial⟩ ⟨rfl, trivial⟩ rfl rfl)
            · have h := cnd_f c9 h
              refine W_exit ?_
              exact sink () h (sees_mkL (rn []) _ _ ⟨rfl, trivial⟩ ⟨rfl, trivial⟩ rfl rfl)
          · refine W_sees hs (W_seq (W_seq (W_region mixed rfl (r_fieldAddr (.p rfl) rfl fld30_3 (r_load1 (.p rfl) rfl ag28 rfl rfl (r_len (.p rfl) rfl (.sl _) trivial (List.length_map _) slc28 (r_move (.p rfl) rfl (r_end ?_))))))))
            refine W_whileE (L := Sh.fleet_ValidProblem_L20 N p0) h (fun v20 => mk [(1, .e (.one (.ptr 1 0))), (68, .e (.one (.pure (.sl (p0.fTables.map eApiTable))))), (69, .e (.one (.pure (.val (.int .i64 ((p0.fTables.length : Int))))))), (70, .e (.one (.pure (.val (.int .i64 v20)))))] [(1, .box [.pure (.sl (p0.fVersions.map eI64)), .pure (.sl (p0.fNow.map eI64)), .pure (.sl (p0.fTarget.map eI64)), .pure (.sl (p0.fTables.map eApiTable))])]) (fun v21 => mk [] []) (fun _ _ => rfl) (sees_mkL (rn []) _ _ ⟨rfl, rfl, rfl, rfl, trivial⟩ ⟨rfl, trivial⟩ rfl rfl) (fun j20 n20 v20 h => ?_) (fun v21 s h hs => ?_)
            · unfold Sh.fleet_ValidProblem_L20 at h
              refine W_seq (W_region mixed rfl (r_bin (.p rfl) rfl rfl (bin_lss _ _ _ _ _ _) rfl (r_end (W_seq ?_))))
              refine W_cond rfl (fun c22 => ?_) (fun c22 => ?_)
              · have h := cnd_t c22 h
                refine W_skip (W_seq (W_block (W_seq (W_region mixed rfl ?_))))
                obtain ⟨v23, a23, b23, h⟩ := idx_bind h
                refine r_index (.p rfl) rfl rfl slc28 sz75 a23 (map_get b23) rfl (r_loadrN (.p rfl) rfl ag75 sz75 rfl rfl (r_alloc (.p rfl) zv75 rfl rfl rfl (r_store rfl rfl rfl rfl sz75 rfl (leb rfl) rfl (r_end (W_seq (W_region mixed rfl (r_loadN (.p rfl) rfl ag30 sz30 rfl rfl rfl (r_loadN (.p rfl) rfl ag75 sz75 rfl rfl rfl ?_))))))))
                obtain ⟨v24, a24, h⟩ := bind_some h
                refine r_call (ds0 := [_, _]) [] (fleet_table_c N p0 v23 v24 a24) (.p rfl) gd90 rfl ⟨rfl, rfl, trivial⟩ rfl rfl rfl (nodupL_spec rfl) trivial rfl (r_assign (.p rfl) rfl (r_end (W_seq (W_region mixed rfl (r_move (.p rfl) rfl (r_bin (.p rfl) rfl rfl (bin_neq _ _ _ _ _ _) rfl (r_end ?_)))))))
                refine W_cond rfl (fun c25 => ?_) (fun c25 => ?_)
                · have h := cnd_t c25 h
                  refine W_seq (W_region mixed rfl (r_move (.p rfl) rfl (r_assign (.p rfl) rfl (r_end ?_))))
                  obtain rfl := Option.some.inj h
                  refine W_sees (sees_mkL (rn []) [(2, .e (.one (.pure (.val (.int .i64 v24)))))] [] ⟨rfl, trivial⟩ trivial rfl rfl) (W_ret ?_)
                  exact ⟨⟨[_], ⟨.tmp _ _ rfl, trivial⟩, rfl⟩, trivial⟩
                · have h := cnd_f c25 h
                  refine W_skip (W_region mixed rfl (r_bin (.p rfl) rfl rfl (bin_add _ _ _ _ _ _) rfl (r_move (.p rfl) rfl (r_end ?_))))
                  exact sink (IntKind.wrap .i64 (v20 + 1)) h (sees_mkL (rn []) _ _ ⟨rfl, rfl, rfl, rfl, trivial⟩ ⟨rfl, trivial⟩ rfl rfl)
              · have h := cnd_f c22 h
                refine W_exit ?_
                exact sink () h (sees_mkL (rn []) _ _ trivial trivial rfl rfl)
            · refine W_sees hs (W_seq (W_region mixed rfl (r_assign (.p rfl) rfl (r_end ?_))))
              obtain rfl := Option.some.inj h
              refine W_sees (sees_mkL (rn []) [(2, .e (.one (.pure (.val (.int .i64 0)))))] [] ⟨rfl, trivial⟩ trivial rfl rfl) (W_ret ?_)
              exact ⟨⟨[_], ⟨.tmp _ _ rfl, trivial⟩, rfl⟩, trivial⟩
set_option maxRecDepth 10000 in
theorem slices_Clone_int_int_c (N : Nat) (p0 : List Int) (r : (List Int)) (h : Sh.slices_Clone_int_int N p0 = some r) : Contract Try.prog 72 [.e (.one (.pure (.sl (p0.map eI64))))] [(1, r.map eI64)] (.e (.one (.own 0))) := by
  unfold Sh.slices_Clone_int_int at h
  refine contract_of_W (n := 8) (rs := [.tmp 2]) Try.func72 rfl rfl rfl (leb rfl) (leb rfl) rfl fun w0 S0 => ?_
  refine W_seq (W_region mixed rfl (r_assign (.p rfl) rfl (r_end (W_seq (W_seq (W_region mixed rfl (r_move (.p rfl) rfl ?_)))))))
  refine r_eqNil (.p rfl) rfl slc27 ?_
  refine r_end ?_
  refine W_condN rfl (fun c2 => ?_) ?_
  · have c2 := List.map_eq_nil_iff.1 c2
    rw [c2] at h
    have h : (some (([] : List Int))) = some r := h
    refine W_seq (W_region mixed rfl (r_assign (.p rfl) rfl (r_end ?_)))
    obtain rfl := Option.some.inj h
    refine W_sees ((sees_adopt 2 2001 1 rfl rfl rfl).trans (sees_mkL (rn [(1000, 2001)]) [(2, .e (.one (.own 1000)))] [(1000, .vec 1 ((([] : List Int)).map eI64))] ⟨rfl, trivial⟩ ⟨rfl, trivial⟩ rfl rfl)) (W_ret ?_)
    exact ⟨⟨[_], ⟨.tmp _ _ rfl, trivial⟩, rfl⟩, ⟨rfl, trivial⟩⟩
  · refine W_skip (W_seq (W_region mixed rfl (r_buildSlice [] (.p rfl) rfl trivial rfl slc27 sz3 zv3 rfl rfl (leb rfl) rfl rfl (r_move (.p rfl) rfl ?_))))
    obtain ⟨c1, h⟩ := chk_bind h
    refine r_append (.p rfl) rfl (.own _ _ _) ⟨rfl, trivial⟩ rfl (.sl _ _ (map_rows (f := eI64) (n := 1) (fun _ => rfl) _)) trivial rfl slc27 slc27 sz3 byt3 (leb rfl) zv3 rfl (len_lim (f := eI64) (g := eI64) (xs := (([] : List Int))) (ys := p0) c1) (map_app eI64 (([] : List Int)) p0) rfl ?_
    refine r_assign (.p rfl) rfl (r_end ?_)
    obtain rfl := Option.some.inj h
    refine W_sees (sees_mkL (rn [(1000, 7)]) [(2, .e (.one (.own 1000)))] [(1000, .vec 1 (((([] : List Int)) ++ p0).map eI64))] ⟨rfl, trivial⟩ ⟨rfl, trivial⟩ rfl rfl) (W_ret ?_)
    exact ⟨⟨[_], ⟨.tmp _ _ rfl, trivial⟩, rfl⟩, ⟨rfl, trivial⟩⟩
set_option maxRecDepth 10000 in
theorem math_bits_Mul32_c (N : Nat) (p0 : Int) (p1 : Int) (r : Int × Int) (h : Sh.math_bits_Mul32 N p0 p1 = some r) : Contract Try.prog 110 [.e (.one (.pure (.val (.int .u32 p0)))), .e (.one (.pure (.val (.int .u32 p1))))] [] (.tup [.one (.pure (.val (.int .u32 r.1))), .one (.pure (.val (.int .u32 r.2)))]) := by
  unfold Sh.math_bits_Mul32 at h
  refine contract_of_W (n := 17) (rs := [.tmp 4, .tmp 5]) Try.func110 rfl rfl rfl (leb rfl) (leb rfl) rfl fun w0 S0 => ?_
  refine W_seq (W_region mixed rfl (r_assign (.p rfl) rfl (r_assign (.p rfl) rfl (r_end (W_seq (W_region mixed rfl (r_move (.p rfl) rfl (r_conv (.p rfl) rfl (conv_int so143 in146 _ _) rfl (r_move (.p rfl) rfl (r_conv (.p rfl) rfl (conv_int so143 in146 _ _) rfl (r_bin (.p rfl) rfl rfl (bin_mul _ _ _ _ _ _) rfl (r_assign (.p rfl) rfl (r_end (W_seq (W_region mixed rfl (r_move (.p rfl) rfl ?_))))))))))))))))
  refine r_bin (.p rfl) rfl rfl (bin_shr _ _ _ _ _ _ _ (by decide)) rfl ?_
  refine r_conv (.p rfl) rfl (conv_int so146 in143 _ _) rfl (r_move (.p rfl) rfl (r_conv (.p rfl) rfl (conv_int so146 in143 _ _) rfl (r_assign (.p rfl) rfl (r_assign (.p rfl) rfl (r_end ?_)))))
  obtain rfl := Option.some.inj h
  refine W_sees (sees_mkL (rn []) [(4, .e (.one (.pure (.val (.int .u32 ((IntKind.wrap .u32 ((shrI .u64 ((IntKind.wrap .u64 ((IntKind.wrap .u64 p0) * (IntKind.wrap .u64 p1)))) 32))))))))), (5, .e (.one (.pure (.val (.int .u32 ((IntKind.wrap .u32 ((IntKind.wrap .u64 ((IntKind.wrap .u64 p0) * (IntKind.wrap .u64 p1)))))))))))] [] ⟨rfl, rfl, trivial⟩ trivial rfl rfl) (W_ret ?_)
  exact ⟨⟨[_, _], ⟨.tmp _ _ rfl, ⟨.tmp _ _ rfl, trivial⟩⟩, rfl⟩, trivial⟩
set_option maxRecDepth 10000 in
theorem math_bits_Mul64_c (N : Nat) (p0 : Int) (p1 : Int) (r : Int × Int) (h : Sh.math_bits_Mul64 N p0 p1 = some r) : Contract Try.prog 111 [.e (.one (.pure (.val (.int .u64 p0)))), .e (.one (.pure (.val (.int .u64 p1))))] [] (.tup [.one (.pure (.val (.int .u64 r.1))), .one (.pure (.val (.int .u64 r.2)))]) := by
  unfold Sh.math_bits_Mul64 at h
  refine contract_of_W (n := 51) (rs := [.tmp 4, .tmp 5]) Try.func111 rfl rfl rfl (leb rfl) (leb rfl) rfl fun w0 S0 => ?_
  refine W_seq (W_region mixed rfl (r_assign (.p rfl) rfl (r_assign (.p rfl) rfl (r_end (W_seq (W_region mixed rfl (r_move (.p rfl) rfl (r_bin (.p rfl) rfl rfl (bin_and _ _ _ _ _ _) rfl (r_assign (.p rfl) rfl (r_end (W_seq (W_region mixed rfl (r_move (.p rfl) rfl ?_)))))))))))))
  refine r_bin (.p rfl) rfl rfl (bin_shr _ _ _ _ _ _ _ (by decide)) rfl ?_
  refine r_assign (.p rfl) rfl (r_end (W_seq (W_region mixed rfl (r_move (.p rfl) rfl (r_bin (.p rfl) rfl rfl (bin_and _ _ _ _ _ _) rfl (r_assign (.p rfl) rfl (r_end (W_seq (W_region mixed rfl (r_move (.p rfl) rfl ?_))))))))))
  refine r_bin (.p rfl) rfl rfl (bin_shr _ _ _ _ _ _ _ (by decide)) rfl ?_
  refine r_assign (.p rfl) rfl (r_end (W_seq (W_region mixed rfl (r_move (.p rfl) rfl (r_move (.p rfl) rfl (r_bin (.p rfl) rfl rfl (bin_mul _ _ _ _ _ _) rfl (r_assign (.p rfl) rfl (r_end (W_seq (W_region mixed rfl (r_move (.p rfl) rfl (r_move (.p rfl) rfl (r_bin (.p rfl) rfl rfl (bin_mul _ _ _ _ _ _) rfl (r_move (.p rfl) rfl ?_))))))))))))))
  refine r_bin (.p rfl) rfl rfl (bin_shr _ _ _ _ _ _ _ (by decide)) rfl ?_
  refine r_bin (.p rfl) rfl rfl (bin_add _ _ _ _ _ _) rfl (r_assign (.p rfl) rfl (r_end (W_seq (W_region mixed rfl (r_move (.p rfl) rfl (r_bin (.p rfl) rfl rfl (bin_and _ _ _ _ _ _) rfl (r_assign (.p rfl) rfl (r_end (W_seq (W_region mixed rfl (r_move (.p rfl) rfl ?_)))))))))))
  refine r_bin (.p rfl) rfl rfl (bin_shr _ _ _ _ _ _ _ (by decide)) rfl ?_
  refine r_assign (.p rfl) rfl (r_end (W_seq (W_region mixed rfl (r_move (.p rfl) rfl (r_move (.p rfl) rfl (r_move (.p rfl) rfl (r_bin (.p rfl) rfl rfl (bin_mul _ _ _ _ _ _) rfl (r_bin (.p rfl) rfl rfl (bin_add _ _ _ _ _ _) rfl (r_assign (.p rfl) rfl (r_end (W_seq (W_region mixed rfl (r_move (.p rfl) rfl (r_move (.p rfl) rfl (r_bin (.p rfl) rfl rfl (bin_mul _ _ _ _ _ _) rfl (r_move (.p rfl) rfl (r_bin (.p rfl) rfl rfl (bin_add _ _ _ _ _ _) rfl (r_move (.p rfl) rfl ?_))))))))))))))))))
  refine r_bin (.p rfl) rfl rfl (bin_shr _ _ _ _ _ _ _ (by decide)) rfl ?_
  refine r_bin (.p rfl) rfl rfl (bin_add _ _ _ _ _ _) rfl (r_assign (.p rfl) rfl (r_end (W_seq (W_region mixed rfl (r_move (.p rfl) rfl (r_move (.p rfl) rfl (r_bin (.p rfl) rfl rfl (bin_mul _ _ _ _ _ _) rfl (r_assign (.p rfl) rfl (r_end ?_)))))))))
  obtain rfl := Option.some.inj h
  refine W_sees (sees_mkL (rn []) [(4, .e (.one (.pure (.val (.int .u64 ((IntKind.wrap .u64 ((IntKind.wrap .u64 ((IntKind.wrap .u64 ((shrI .u64 p0 32) * (shrI .u64 p1 32))) + (shrI .u64 ((IntKind.wrap .u64 ((IntKind.wrap .u64 ((shrI .u64 p0 32) * (andI .u64 p1 4294967295))) + (shrI .u64 ((IntKind.wrap .u64 ((andI .u64 p0 4294967295) * (andI .u64 p1 4294967295)))) 32)))) 32))) + (shrI .u64 ((IntKind.wrap .u64 ((andI .u64 ((IntKind.wrap .u64 ((IntKind.wrap .u64 ((shrI .u64 p0 32) * (andI .u64 p1 4294967295))) + (shrI .u64 ((IntKind.wrap .u64 ((andI .u64 p0 4294967295) * (andI .u64 p1 4294967295)))) 32)))) 4294967295) + (IntKind.wrap .u64 ((andI .u64 p0 4294967295) * (shrI .u64 p1 32)))))) 32))))))))), (5, .e (.one (.pure (.val (.int .u64 ((IntKind.wrap .u64 (p0 * p1))))))))] [] ⟨rfl, rfl, trivial⟩ trivial rfl rfl) (W_ret ?_)
  exact ⟨⟨[_, _], ⟨.tmp _ _ rfl, ⟨.tmp _ _ rfl, trivial⟩⟩, rfl⟩, trivial⟩
set_option maxRecDepth 10000 in
theorem math_bits_Mul_c (N : Nat) (p0 : Int) (p1 : Int) (r : Int × Int) (h : Sh.math_bits_Mul N p0 p1 = some r) : Contract Try.prog 97 [.e (.one (.pure (.val (.int .u64 p0)))), .e (.one (.pure (.val (.int .u64 p1))))] [] (.tup [.one (.pure (.val (.int .u64 r.1))), .one (.pure (.val (.int .u64 r.2)))]) := by
  unfold Sh.math_bits_Mul at h
  refine contract_of_W (n := 30) (rs := [.tmp 4, .tmp 5]) Try.func97 rfl rfl rfl (leb rfl) (leb rfl) rfl fun w0 S0 => ?_
  refine W_seq (W_region mixed rfl (r_assign (.p rfl) rfl (r_assign (.p rfl) rfl (r_end (W_seq ?_)))))
  refine W_cond rfl (fun c1 => ?_) (fun c1 => ?_)
  · have h := cnd_t c1 h
    refine W_seq (W_region mixed rfl (r_move (.p rfl) rfl (r_conv (.p rfl) rfl (conv_int so133 in143 _ _) rfl (r_move (.p rfl) rfl (r_conv (.p rfl) rfl (conv_int so133 in143 _ _) rfl ?_)))))
    obtain ⟨v2, a2, h⟩ := bind_some h
    refine r_call (ds0 := [_, _]) [] (math_bits_Mul32_c N ((IntKind.wrap .u32 p0)) ((IntKind.wrap .u32 p1)) v2 a2) (.p rfl) gd110 rfl ⟨rfl, rfl, trivial⟩ rfl rfl rfl (nodupL_spec rfl) trivial rfl (r_move (.p rfl) rfl (r_extract (.p rfl) rfl rfl (r_extract (.p rfl) rfl rfl (r_assign (.p rfl) rfl (r_assign (.p rfl) rfl (r_end (W_seq (W_region mixed rfl (r_move (.p rfl) rfl (r_conv (.p rfl) rfl (conv_int so143 in133 _ _) rfl (r_move (.p rfl) rfl (r_conv (.p rfl) rfl (conv_int so143 in133 _ _) rfl (r_assign (.p rfl) rfl (r_assign (.p rfl) rfl (r_end ?_)))))))))))))))
    obtain rfl := Option.some.inj h
    refine W_sees (sees_mkL (rn []) [(4, .e (.one (.pure (.val (.int .u64 ((IntKind.wrap .u64 v2.1))))))), (5, .e (.one (.pure (.val (.int .u64 ((IntKind.wrap .u64 v2.2)))))))] [] ⟨rfl, rfl, trivial⟩ trivial rfl rfl) (W_ret ?_)
    exact ⟨⟨[_, _], ⟨.tmp _ _ rfl, ⟨.tmp _ _ rfl, trivial⟩⟩, rfl⟩, trivial⟩
  · have h := cnd_f c1 h
    refine W_skip (W_seq (W_region mixed rfl (r_move (.p rfl) rfl (r_move (.p rfl) rfl ?_))))
    obtain ⟨v3, a3, h⟩ := bind_some h
    refine r_call (ds0 := [_, _]) [] (math_bits_Mul64_c N p0 p1 v3 a3) (.p rfl) gd111 rfl ⟨rfl, rfl, trivial⟩ rfl rfl rfl (nodupL_spec rfl) trivial rfl (r_move (.p rfl) rfl (r_extract (.p rfl) rfl rfl (r_extract (.p rfl) rfl rfl (r_assign (.p rfl) rfl (r_assign (.p rfl) rfl (r_end (W_seq (W_region mixed rfl (r_move (.p rfl) rfl (r_move (.p rfl) rfl (r_assign (.p rfl) rfl (r_assign (.p rfl) rfl (r_end ?_)))))))))))))
    obtain rfl := Option.some.inj h
    refine W_sees (sees_mkL (rn []) [(4, .e (.one (.pure (.val (.int .u64 v3.1))))), (5, .e (.one (.pure (.val (.int .u64 v3.2)))))] [] ⟨rfl, rfl, trivial⟩ trivial rfl rfl) (W_ret ?_)
    exact ⟨⟨[_, _], ⟨.tmp _ _ rfl, ⟨.tmp _ _ rfl, trivial⟩⟩, rfl⟩, trivial⟩
set_option maxRecDepth 10000 in
theorem slices_Repeat_int_int_c (N : Nat) (p0 : List Int) (p1 : Int) (r : (List Int)) (h : Sh.slices_Repeat_int_int N p0 p1 = some r) : Contract Try.prog 73 [.e (.one (.pure (.sl (p0.map eI64)))), .e (.one (.pure (.val (.int .i64 p1))))] [(1, r.map eI64)] (.e (.one (.own 0))) := by
  unfold Sh.slices_Repeat_int_int at h
  refine contract_of_W (n := 48) (rs := [.tmp 4]) Try.func73 rfl rfl rfl (leb rfl) (leb rfl) rfl fun w0 S0 => ?_
  refine W_seq (W_region mixed rfl (r_assign (.p rfl) rfl (r_end ?_)))
  refine W_join h (fun v1 => mk [(0, .e (.one (.pure (.sl (p0.map eI64))))), (1, .e (.one (.pure (.val (.int .i64 p1)))))] []) (fun j1 h => ?_) (fun v1 h => ?_)
  · refine W_seq (W_region mixed rfl (r_move (.p rfl) rfl (r_bin (.p rfl) rfl rfl (bin_lss _ _ _ _ _ _) rfl (r_end ?_))))
    refine W_cond rfl (fun c2 => ?_) (fun c2 => ?_)
    · have h := cnd_t c2 h
      refine W_region mixed rfl ?_
      cases h
    · have h := cnd_f c2 h
      refine W_skip ?_
      exact sink () h (sees_mkL (rn []) _ _ ⟨rfl, rfl, trivial⟩ trivial rfl rfl)
  · refine W_seq (W_region mixed rfl (r_move (.p rfl) rfl (r_len (.p rfl) rfl (.sl _) trivial (List.length_map _) slc27 (r_conv (.p rfl) rfl (conv_int so3 in133 _ _) rfl (r_move (.p rfl) rfl (r_conv (.p rfl) rfl (conv_int so3 in133 _ _) rfl ?_))))))
    obtain ⟨v3, a3, h⟩ := bind_some h
    refine r_call (ds0 := [_, _]) [] (math_bits_Mul_c N ((IntKind.wrap .u64 ((p0.length : Int)))) ((IntKind.wrap .u64 p1)) v3 a3) (.p rfl) gd97 rfl ⟨rfl, rfl, trivial⟩ rfl rfl rfl (nodupL_spec rfl) trivial rfl (r_move (.p rfl) rfl (r_extract (.p rfl) rfl rfl (r_extract (.p rfl) rfl rfl (r_assign (.p rfl) rfl (r_assign (.p rfl) rfl (r_end ?_))))))
    refine W_join h (fun v4 => mk [(0, .e (.one (.pure (.sl (p0.map eI64))))), (6, .e (.one (.pure (.val (.int .u64 v3.2)))))] []) (fun j4 h => ?_) (fun v4 h => ?_)
    · refine W_join h (fun v5 => mk [(0, .e (.one (.pure (.sl (p0.map eI64))))), (6, .e (.one (.pure (.val (.int .u64 v3.2))))), (26, .e (.one (.pure (.val (.bool v5)))))] []) (fun j5 h => ?_) (fun v5 h => ?_)
      · refine W_region mixed rfl (r_move (.p rfl) rfl (r_bin (.p rfl) rfl rfl (bin_gtr _ _ _ _ _ _) rfl (r_move (.p rfl) rfl ?_)))
        refine r_split (t := 23) rfl (fun c6 => ?_) (fun c6 => ?_)
        · have h := cnd_t c6 h
          refine r_notB rfl rfl (r_notB rfl rfl (r_pick (.p rfl) rfl rfl rfl (r_end ?_)))
          exact sink true h (sees_mkL (rn []) _ _ ⟨rfl, rfl, rfl, trivial⟩ trivial rfl rfl)
        · have h := cnd_f c6 h
          refine r_move (.g rfl rfl) rfl (r_bin (.g rfl rfl) rfl rfl (bin_gtr _ _ _ _ _ _) rfl (r_pick (.p rfl) rfl rfl rfl (r_end ?_)))
          exact sink (decide (9223372036854775807 < v3.2)) h (sees_mkL (rn []) _ _ ⟨rfl, rfl, rfl, trivial⟩ trivial rfl rfl)
      · refine W_cond rfl (fun c7 => ?_) (fun c7 => ?_)
        · have h := cnd_t c7 h
          refine W_region mixed rfl ?_
          cases h
        · have h := cnd_f c7 h
          refine W_skip ?_
          exact sink () h (sees_mkL (rn []) _ _ ⟨rfl, rfl, trivial⟩ trivial rfl rfl)
    · refine W_seq (W_region mixed rfl (r_move (.p rfl) rfl (r_conv (.p rfl) rfl (conv_int so133 in3 _ _) rfl ?_)))
      obtain ⟨c8, h⟩ := chk_bind h
      refine r_makeSlice (.p rfl) rfl rfl rfl slc27 sz3 byt3 (leb rfl) zv3 rfl rfl rfl c8.1 c8.2.1 c8.2.2 (map_rep eI64 _ ((0 : Int))) (r_assign (.p rfl) rfl (r_end (W_seq (W_region mixed rfl (r_move (.p rfl) rfl (r_move (.p rfl) rfl ?_))))))
      refine rt_copy eI64 (List.replicate ((IntKind.wrap .i64 v3.2)).toNat ((0 : Int))) p0 (.p rfl) rfl (dstV_own eI64 _ _ (List.replicate ((IntKind.wrap .i64 v3.2)).toNat ((0 : Int)))) rfl rfl (srcW_sl eI64 _ _ (fun _ => rfl)) trivial slc27 sz3 ?_
      refine r_assign (.p rfl) rfl (r_end (W_seq ?_))
      refine W_whileE (L := Sh.slices_Repeat_int_int_L9 N) h (fun v9 => mk [(7, .e (.one (.own 2001))), (8, .e (.one (.pure (.val (.int .i64 v9.2)))))] [(2001, .vec 1 (v9.1.map eI64))]) (fun v10 => mk [(7, .e (.one (.own 2002)))] [(2002, .vec 1 (v10.map eI64))]) (fun _ _ => rfl) (sees_mkL (rn [(2001, 30)]) _ _ ⟨rfl, rfl, trivial⟩ ⟨rfl, trivial⟩ rfl rfl) (fun j9 n9 v9 h => ?_) (fun v10 s h hs => ?_)
      · unfold Sh.slices_Repeat_int_int_L9 at h
        refine W_seq (W_seq (W_region mixed rfl (r_move (.p rfl) rfl (r_move (.p rfl) rfl (r_len (.p rfl) rfl (.own _ _ _) ⟨rfl, trivial⟩ (List.length_map _) slc27 (r_bin (.p rfl) rfl rfl (bin_lss _ _ _ _ _ _) rfl (r_end ?_)))))))
        refine W_cond rfl (fun c11 => ?_) (fun c11 => ?_)
        · have h := cnd_t c11 h
          refine W_skip (W_block (W_region mixed rfl (r_move (.p rfl) rfl (r_move (.p rfl) rfl (r_move (.p rfl) rfl ?_)))))
          obtain ⟨c12, h⟩ := chk_bind h
          have w13 : ((v9.2).toNat) + ((v9.1.length - (v9.2).toNat)) ≤ v9.1.length := by have := c12.2.1; have := c12.2.2; omega
          refine rt_slice eI64 v9.1 (.p rfl) rfl (dstV_own eI64 _ _ v9.1) rfl slc27 sz3 (.some _ _ _ _ c12.1) (.none _) ⟨rfl, trivial⟩ trivial c12.2.1 (by rw [Nat.zero_add]; exact c12.2.2) (Nat.zero_add _) rfl ?_
          refine r_move (.p rfl) rfl (r_move (.p rfl) rfl ?_)
          obtain ⟨c14, h⟩ := chk_bind h
          have w15 : 0 + ((v9.2).toNat) ≤ v9.1.length := by have := c14.2.1; have := c14.2.2; omega
          refine rt_slice eI64 v9.1 (.p rfl) rfl (dstV_own eI64 _ _ v9.1) rfl slc27 sz3 (.none _) (.some _ _ _ _ c14.1) trivial ⟨rfl, trivial⟩ c14.2.1 (by rw [Nat.zero_add]; exact c14.2.2) (Nat.zero_add _) rfl ?_
          refine rt_copy eI64 v9.1 (((v9.1.drop 0).take ((v9.2).toNat))) (.p rfl) rfl (dstV_view eI64 _ _ ((v9.2).toNat) ((v9.1.length - (v9.2).toNat)) v9.1 w13) rfl rfl (srcW_view eI64 _ _ 0 ((v9.2).toNat) v9.1 w15) ⟨rfl, trivial⟩ slc27 sz3 ?_
          refine r_bin (.p rfl) rfl rfl (bin_add _ _ _ _ _ _) rfl (r_assign (.p rfl) rfl ?_)
          refine r_endD (by kernel_rfl) ?_
          exact sink (spl v9.1 ((v9.2).toNat) ((((v9.1.drop 0).take ((v9.2).toNat))).take (Nat.min (((v9.1.drop 0).take ((v9.2).toNat))).length ((v9.1.length - (v9.2).toNat)))), (IntKind.wrap .i64 (v9.2 + (((Nat.min (((v9.1.drop 0).take ((v9.2).toNat))).length ((v9.1.length - (v9.2).toNat))) : Nat) : Int)))) h (sees_mkL (rn []) _ _ ⟨rfl, rfl, trivial⟩ ⟨rfl, trivial⟩ rfl rfl)
        · have h := cnd_f c11 h
          refine W_exit ?_
          exact sink v9.1 h (sees_mkL (rn [(2002, 2001)]) _ _ ⟨rfl, trivial⟩ ⟨rfl, trivial⟩ rfl rfl)
      · refine W_sees hs (W_seq (W_region mixed rfl (r_move (.p rfl) rfl (r_assign (.p rfl) rfl (r_end ?_)))))
        obtain rfl := Option.some.inj h
        refine W_sees (sees_mkL (rn [(1000, 2002)]) [(4, .e (.one (.own 1000)))] [(1000, .vec 1 (v10.map eI64))] ⟨rfl, trivial⟩ ⟨rfl, trivial⟩ rfl rfl) (W_ret ?_)
        exact ⟨⟨[_], ⟨.tmp _ _ rfl, trivial⟩, rfl⟩, ⟨rfl, trivial⟩⟩
set_option maxRecDepth 10000 in
theorem mix_stored_c (N : Nat) (p0 : ApiTable) (r : Bool) (h : Sh.mix_stored N p0 = some r) : Contract Try.prog 74 [.e (.agg [.pure (.val (.int .i64 p0.fKind)), .pure (.val (.int .i64 p0.fFrom)), .pure (.val (.int .i64 p0.fTo)), .pure (.val (.bool p0.fAware)), .pure (.sl (p0.fOK.map (eSl eB))), .pure (.sl (p0.fRewrite.map (eSl eB)))])] [] (.e (.one (.pure (.val (.bool r))))) := by
  unfold Sh.mix_stored at h
  refine contract_of_W (n := 11) (rs := [.tmp 2]) Try.func74 rfl rfl rfl (leb rfl) (leb rfl) rfl fun w0 S0 => ?_
  refine W_seq (W_region mixed rfl (r_box (.p rfl) rfl rfl (r_assign (.p rfl) rfl (r_end ?_))))
  refine W_join h (fun v1 => mk [(2, .e (.one (.pure (.val (.bool v1)))))] []) (fun j1 h => ?_) (fun v1 h => ?_)
  · refine W_region mixed rfl (r_fieldAddr (.p rfl) rfl fld75_0 (r_load1 (.p rfl) rfl ag3 rfl rfl (r_bin (.p rfl) rfl rfl (bin_eql _ _ _ _ _ _) rfl (r_move (.p rfl) rfl ?_))))
    refine r_split (t := 6) rfl (fun c2 => ?_) (fun c2 => ?_)
    · have h := cnd_t c2 h
      refine r_notB rfl rfl (r_notB rfl rfl (r_notB rfl rfl (r_pick (.p rfl) rfl rfl rfl (r_assign (.p rfl) rfl (r_end ?_)))))
      exact sink true h (sees_mkL (rn []) _ _ ⟨rfl, trivial⟩ trivial rfl rfl)
    · have h := cnd_f c2 h
      refine r_fieldAddr (.g rfl rfl) rfl fld75_0 (r_load1 (.g rfl rfl) rfl ag3 rfl rfl (r_bin (.g rfl rfl) rfl rfl (bin_eql _ _ _ _ _ _) rfl (r_pick (.p rfl) rfl rfl rfl (r_assign (.p rfl) rfl (r_end ?_)))))
      exact sink (p0.fKind == 4) h (sees_mkL (rn []) _ _ ⟨rfl, trivial⟩ trivial rfl rfl)
  · obtain rfl := Option.some.inj h
    refine W_sees (sees_mkL (rn []) [(2, .e (.one (.pure (.val (.bool v1)))))] [] ⟨rfl, trivial⟩ trivial rfl rfl) (W_ret ?_)
    exact ⟨⟨[_], ⟨.tmp _ _ rfl, trivial⟩, rfl⟩, trivial⟩
set_option maxRecDepth 10000 in
theorem mix_Start_c (N : Nat) (p0 : ApiProblem) (r : ApiMix × Int) (h : Sh.mix_Start N p0 = some r) : Contract Try.prog 37 [.e (.agg [.pure (.sl (p0.fVersions.map eI64)), .pure (.sl (p0.fNow.map eI64)), .pure (.sl (p0.fTarget.map eI64)), .pure (.sl (p0.fTables.map eApiTable))])] [(1, r.1.fBase.map eI64), (1, r.1.fNext.map eI64), (1, r.1.fHeld.map eU8)] (.tup [.agg [.own 0, .own 1, .own 2], .one (.pure (.val (.int .i64 r.2)))]) := by
  unfold Sh.mix_Start at h
  refine contract_of_W (n := 50) (rs := [.cell 2 43, .tmp 3]) Try.func37 rfl rfl rfl (leb rfl) (leb rfl) rfl fun w0 S0 => ?_
  refine W_seq (W_region mixed rfl (r_box (.p rfl) rfl rfl (r_alloc (.p rfl) zv43 rfl rfl rfl (r_assign (.p rfl) rfl (r_end (W_seq (W_seq (W_region mixed rfl (r_loadN (.p rfl) rfl ag30 sz30 rfl rfl rfl ?_)))))))))
  obtain ⟨v1, a1, h⟩ := bind_some h
  refine r_call (ds0 := [_]) [] (fleet_ValidProblem_c N p0 v1 a1) (.p rfl) gd61 rfl ⟨rfl, trivial⟩ rfl rfl rfl (nodupL_spec rfl) trivial rfl (r_assign (.p rfl) rfl (r_end (W_seq (W_region mixed rfl (r_move (.p rfl) rfl (r_bin (.p rfl) rfl rfl (bin_neq _ _ _ _ _ _) rfl (r_end ?_)))))))
  refine W_cond rfl (fun c2 => ?_) (fun c2 => ?_)
  · have h := cnd_t c2 h
    refine W_seq (W_region mixed rfl (r_build [] (.p rfl) rfl trivial zv43 rfl rfl pl43 rfl (r_move (.p rfl) rfl (r_store rfl rfl rfl rfl sz43 rfl (leb rfl) rfl (r_assign (.p rfl) rfl (r_end ?_))))))
    obtain rfl := Option.some.inj h
    refine W_sees ((sees_adoptB 2 0 2001 1 _ rfl rfl rfl rfl).trans ((sees_adoptB 2 1 2002 1 _ rfl rfl rfl rfl).trans ((sees_adoptB 2 2 2003 1 _ rfl rfl rfl rfl).trans (sees_mkL (rn [(1000, 2001), (1001, 2002), (1002, 2003)]) [(2, .e (.one (.ptr 2 0))), (3, .e (.one (.pure (.val (.int .i64 v1)))))] [(2, .box [.own 1000, .own 1001, .own 1002]), (1000, .vec 1 ((([] : List Int)).map eI64)), (1001, .vec 1 ((([] : List Int)).map eI64)), (1002, .vec 1 ((([] : List Int)).map eU8))] ⟨rfl, rfl, trivial⟩ ⟨rfl, rfl, rfl, rfl, trivial⟩ rfl rfl)))) (W_ret ?_)
    exact ⟨⟨[_, _], ⟨.cellN _ _ _ _ _ _ _ rfl rfl ag43 sz43 rfl rfl (ltb rfl), ⟨.tmp _ _ rfl, trivial⟩⟩, rfl⟩, ⟨rfl, rfl, rfl, trivial⟩⟩
  · have h := cnd_f c2 h
    refine W_skip (W_seq (W_region mixed rfl (r_fieldAddr (.p rfl) rfl fld30_1 (r_load1 (.p rfl) rfl ag27 rfl rfl ?_))))
    obtain ⟨v3, a3, h⟩ := bind_some h
    refine r_call (ds0 := [_]) [2004] (slices_Clone_int_int_c N p0.fNow v3 a3) (.p rfl) gd72 rfl ⟨rfl, trivial⟩ rfl rfl rfl (nodupL_spec rfl) ⟨rfl, trivial⟩ rfl (r_buildSlice [(0, .const (.int .i64 (-1)), _)] (.p rfl) rfl ⟨rfl, trivial⟩ rfl slc27 sz3 zv3 rfl rfl (leb rfl) rfl rfl (r_fieldAddr (.p rfl) rfl fld30_1 (r_load1 (.p rfl) rfl ag27 rfl rfl (r_len (.p rfl) rfl (.sl _) trivial (List.length_map _) slc27 ?_))))
    obtain ⟨v4, a4, h⟩ := bind_some h
    refine r_callL (ds0 := [_, _]) [2005] [(17, _)] (slices_Repeat_int_int_c N (([(-1)] : List Int)) ((p0.fNow.length : Int)) v4 a4) (.p rfl) gd73 rfl ⟨rfl, rfl, trivial⟩ ⟨rfl, trivial⟩ rfl rfl rfl (nodupL_spec rfl) ⟨rfl, trivial⟩ rfl (flatV_cons (fun _ => rfl) flatV_nil) rfl ?_
    refine r_fieldAddr (.p rfl) rfl fld30_3 (r_load1 (.p rfl) rfl ag28 rfl rfl (r_len (.p rfl) rfl (.sl _) trivial (List.length_map _) slc28 ?_))
    obtain ⟨c5, h⟩ := chk_bind h
    refine r_makeSlice (.p rfl) rfl rfl rfl slc41 sz87 byt87 (leb rfl) zv87 rfl rfl rfl c5.1 c5.2.1 c5.2.2 (map_rep eU8 _ ((0 : Int))) (r_build [(0, .tmp 16, _), (1, .tmp 21, _), (2, .tmp 25, _)] (.p rfl) rfl ⟨rfl, rfl, rfl, trivial⟩ zv43 rfl rfl pl43 rfl (r_alloc (.p rfl) zv43 rfl rfl rfl (r_store rfl rfl rfl rfl sz43 rfl (leb rfl) rfl ?_)))
    refine r_endD (by kernel_rfl) ?_
    refine W_seq (W_seq (W_region mixed rfl (r_fieldAddr (.p rfl) rfl fld30_3 (r_load1 (.p rfl) rfl ag28 rfl rfl (r_len (.p rfl) rfl (.sl _) trivial (List.length_map _) slc28 (r_move (.p rfl) rfl (r_end ?_)))))))
    refine W_whileE (L := Sh.mix_Start_L6 N p0) h (fun v6 => mk [(1, .e (.one (.ptr 1 0))), (2, .e (.one (.ptr 2 0))), (5, .e (.one (.ptr 5 0))), (28, .e (.one (.pure (.sl (p0.fTables.map eApiTable))))), (29, .e (.one (.pure (.val (.int .i64 ((p0.fTables.length : Int))))))), (30, .e (.one (.pure (.val (.int .i64 v6.2)))))] [(1, .box [.pure (.sl (p0.fVersions.map eI64)), .pure (.sl (p0.fNow.map eI64)), .pure (.sl (p0.fTarget.map eI64)), .pure (.sl (p0.fTables.map eApiTable))]), (2, .box [.pure (.nil0), .pure (.nil0), .pure (.nil0)]), (5, .box [.own 2006, .own 2007, .own 2008]), (2006, .vec 1 (v3.map eI64)), (2007, .vec 1 (v4.map eI64)), (2008, .vec 1 (v6.1.map eU8))]) (fun v7 => mk [(2, .e (.one (.ptr 2 0))), (5, .e (.one (.ptr 5 0)))] [(2, .box [.pure (.nil0), .pure (.nil0), .pure (.nil0)]), (5, .box [.own 2009, .own 2010, .own 2011]), (2009, .vec 1 (v3.map eI64)), (2010, .vec 1 (v4.map eI64)), (2011, .vec 1 (v7.map eU8))]) (fun _ _ => rfl) (sees_mkL (rn [(2006, 2004), (2007, 2005), (2008, 25)]) _ _ ⟨rfl, rfl, rfl, rfl, rfl, rfl, trivial⟩ ⟨rfl, rfl, rfl, rfl, rfl, rfl, trivial⟩ rfl rfl) (fun j6 n6 v6 h => ?_) (fun v7 s h hs => ?_)
    · unfold Sh.mix_Start_L6 at h
      refine W_seq (W_region mixed rfl (r_bin (.p rfl) rfl rfl (bin_lss _ _ _ _ _ _) rfl (r_end (W_seq ?_))))
      refine W_cond rfl (fun c8 => ?_) (fun c8 => ?_)
      · have h := cnd_t c8 h
        refine W_skip ?_
        refine W_join h (fun v9 => mk [(1, .e (.one (.ptr 1 0))), (2, .e (.one (.ptr 2 0))), (5, .e (.one (.ptr 5 0))), (28, .e (.one (.pure (.sl (p0.fTables.map eApiTable))))), (29, .e (.one (.pure (.val (.int .i64 ((p0.fTables.length : Int))))))), (30, .e (.one (.pure (.val (.int .i64 v6.2)))))] [(1, .box [.pure (.sl (p0.fVersions.map eI64)), .pure (.sl (p0.fNow.map eI64)), .pure (.sl (p0.fTarget.map eI64)), .pure (.sl (p0.fTables.map eApiTable))]), (2, .box [.pure (.nil0), .pure (.nil0), .pure (.nil0)]), (5, .box [.own 2012, .own 2013, .own 2014]), (2012, .vec 1 (v3.map eI64)), (2013, .vec 1 (v4.map eI64)), (2014, .vec 1 (v9.map eU8))]) (fun j9 h => ?_) (fun v9 h => ?_)
        · refine W_block (W_seq (W_region mixed rfl (r_move (.p rfl) rfl ?_)))
          obtain ⟨v10, a10, b10, h⟩ := idx_bind h
          refine r_index (.p rfl) rfl rfl slc28 sz75 a10 (map_get b10) rfl (r_loadrN (.p rfl) rfl ag75 sz75 rfl rfl (r_alloc (.p rfl) zv75 rfl rfl rfl (r_assign (.p rfl) rfl (r_store rfl rfl rfl rfl sz75 rfl (leb rfl) rfl (r_end (W_seq (W_region mixed rfl (r_loadN (.p rfl) rfl ag75 sz75 rfl rfl rfl ?_))))))))
          obtain ⟨v11, a11, h⟩ := bind_some h
          refine r_call (ds0 := [_]) [] (mix_stored_c N v10 v11 a11) (.p rfl) gd74 rfl ⟨rfl, trivial⟩ rfl rfl rfl (nodupL_spec rfl) trivial rfl (r_end ?_)
          refine W_cond rfl (fun c12 => ?_) (fun c12 => ?_)
          · have h := cnd_t c12 h
            refine W_region mixed rfl (r_fieldAddr (.p rfl) rfl fld43_2 (r_load1 (.p rfl) rfl ag41 rfl rfl (r_move (.p rfl) rfl (r_fieldAddr (.p rfl) rfl fld30_1 (r_load1 (.p rfl) rfl ag27 rfl rfl (r_fieldAddr (.p rfl) rfl fld75_1 (r_load1 (.p rfl) rfl ag3 rfl rfl ?_)))))))
            obtain ⟨v13, a13, b13, h⟩ := idx_bind h
            refine r_index (.p rfl) rfl rfl slc27 sz3 a13 (map_get b13) rfl (r_loadr1 (.p rfl) rfl ag3 rfl ?_)
            obtain ⟨c14, h⟩ := chk_bind h
            refine r_bin (.p rfl) rfl rfl (bin_shl _ _ _ _ _ _ _ c14) rfl ?_
            obtain ⟨v15, a15, b15, h⟩ := idx_bind h
            refine r_indexo (.p rfl) rfl rfl rfl slc41 sz87 a15 (map_get b15) (r_storee rfl rfl rfl rfl (map_get b15) rfl sz87 rfl (leb rfl) (map_setv eU8 v6.1 _ ((shlI .u8 1 v13))) ?_)
            refine r_endD (by kernel_rfl) ?_
            exact sink (v6.1.set (v6.2).toNat ((shlI .u8 1 v13))) h (sees_mkL (rn [(2012, 2006), (2013, 2007), (2014, 2008)]) _ _ ⟨rfl, rfl, rfl, rfl, rfl, rfl, trivial⟩ ⟨rfl, rfl, rfl, rfl, rfl, rfl, trivial⟩ rfl rfl)
          · have h := cnd_f c12 h
            refine W_skip ?_
            exact sink v6.1 h (sees_mkL (rn [(2012, 2006), (2013, 2007), (2014, 2008)]) _ _ ⟨rfl, rfl, rfl, rfl, rfl, rfl, trivial⟩ ⟨rfl, rfl, rfl, rfl, rfl, rfl, trivial⟩ rfl rfl)
        · refine W_region mixed rfl (r_bin (.p rfl) rfl rfl (bin_add _ _ _ _ _ _) rfl (r_move (.p rfl) rfl (r_end ?_)))
          exact sink (v9, (IntKind.wrap .i64 (v6.2 + 1))) h (sees_mkL (rn [(2006, 2012), (2007, 2013), (2008, 2014)]) _ _ ⟨rfl, rfl, rfl, rfl, rfl, rfl, trivial⟩ ⟨rfl, rfl, rfl, rfl, rfl, rfl, trivial⟩ rfl rfl)
      · have h := cnd_f c8 h
        refine W_exit ?_
        exact sink v6.1 h (sees_mkL (rn [(2009, 2006), (2010, 2007), (2011, 2008)]) _ _ ⟨rfl, rfl, trivial⟩ ⟨rfl, rfl, rfl, rfl, rfl, trivial⟩ rfl rfl)
    · refine W_sees hs (W_seq (W_region mixed rfl (r_loadN (.p rfl) rfl ag43 sz43 rfl rfl rfl (r_store rfl rfl rfl rfl sz43 rfl (leb rfl) rfl (r_assign (.p rfl) rfl (r_end ?_))))))
      obtain rfl := Option.some.inj h
      refine W_sees (sees_mkL (rn [(1000, 2009), (1001, 2010), (1002, 2011)]) [(2, .e (.one (.ptr 2 0))), (3, .e (.one (.pure (.val (.int .i64 0)))))] [(2, .box [.own 1000, .own 1001, .own 1002]), (1000, .vec 1 (v3.map eI64)), (1001, .vec 1 (v4.map eI64)), (1002, .vec 1 (v7.map eU8))] ⟨rfl, rfl, trivial⟩ ⟨rfl, rfl, rfl, rfl, trivial⟩ rfl rfl) (W_ret ?_)
      exact ⟨⟨[_, _], ⟨.cellN _ _ _ _ _ _ _ rfl rfl ag43 sz43 rfl rfl (ltb rfl), ⟨.tmp _ _ rfl, trivial⟩⟩, rfl⟩, ⟨rfl, rfl, rfl, trivial⟩⟩
set_option maxRecDepth 10000 in
theorem mix_running_c (N : Nat) (p0 : ApiMix) (p1 : Int) (r : Int) (h : Sh.mix_running N p0 p1 = some r) : Contract Try.prog 99 [.e (.agg [.pure (.sl (p0.fBase.map eI64)), .pure (.sl (p0.fNext.map eI64)), .pure (.sl (p0.fHeld.map eU8))]), .e (.one (.pure (.val (.int .i64 p1))))] [] (.e (.one (.pure (.val (.int .u8 r))))) := by
  unfold Sh.mix_running at h
  refine contract_of_W (n := 27) (rs := [.tmp 4]) Try.func99 rfl rfl rfl (leb rfl) (leb rfl) rfl fun w0 S0 => ?_
  refine W_seq (W_region mixed rfl (r_box (.p rfl) rfl rfl (r_assign (.p rfl) rfl (r_end (W_seq (W_region mixed rfl (r_fieldAddr (.p rfl) rfl fld43_0 (r_load1 (.p rfl) rfl ag27 rfl rfl (r_move (.p rfl) rfl ?_)))))))))
  obtain ⟨v1, a1, b1, h⟩ := idx_bind h
  refine r_index (.p rfl) rfl rfl slc27 sz3 a1 (map_get b1) rfl (r_loadr1 (.p rfl) rfl ag3 rfl ?_)
  obtain ⟨c2, h⟩ := chk_bind h
  refine r_bin (.p rfl) rfl rfl (bin_shl _ _ _ _ _ _ _ c2) rfl (r_assign (.p rfl) rfl (r_end ?_))
  refine W_join h (fun v3 => mk [(5, .e (.one (.pure (.val (.int .u8 v3)))))] []) (fun j3 h => ?_) (fun v3 h => ?_)
  · refine W_seq (W_region mixed rfl (r_fieldAddr (.p rfl) rfl fld43_1 (r_load1 (.p rfl) rfl ag27 rfl rfl (r_move (.p rfl) rfl ?_))))
    obtain ⟨v4, a4, b4, h⟩ := idx_bind h
    refine r_index (.p rfl) rfl rfl slc27 sz3 a4 (map_get b4) rfl (r_loadr1 (.p rfl) rfl ag3 rfl (r_bin (.p rfl) rfl rfl (bin_geq _ _ _ _ _ _) rfl (r_end ?_)))
    refine W_cond rfl (fun c5 => ?_) (fun c5 => ?_)
    · have h := cnd_t c5 h
      refine W_region mixed rfl (r_move (.p rfl) rfl (r_fieldAddr (.p rfl) rfl fld43_1 (r_load1 (.p rfl) rfl ag27 rfl rfl (r_move (.p rfl) rfl ?_))))
      obtain ⟨v6, a6, b6, h⟩ := idx_bind h
      refine r_index (.p rfl) rfl rfl slc27 sz3 a6 (map_get b6) rfl (r_loadr1 (.p rfl) rfl ag3 rfl ?_)
      obtain ⟨c7, h⟩ := chk_bind h
      refine r_bin (.p rfl) rfl rfl (bin_shl _ _ _ _ _ _ _ c7) rfl (r_bin (.p rfl) rfl rfl (bin_or _ _ _ _ _ _) rfl (r_assign (.p rfl) rfl (r_end ?_)))
      exact sink (orI .u8 ((shlI .u8 1 v1)) ((shlI .u8 1 v6))) h (sees_mkL (rn []) _ _ ⟨rfl, trivial⟩ trivial rfl rfl)
    · have h := cnd_f c5 h
      refine W_skip ?_
      exact sink (shlI .u8 1 v1) h (sees_mkL (rn []) _ _ ⟨rfl, trivial⟩ trivial rfl rfl)
  · refine W_seq (W_region mixed rfl (r_move (.p rfl) rfl (r_assign (.p rfl) rfl (r_end ?_))))
    obtain rfl := Option.some.inj h
    refine W_sees (sees_mkL (rn []) [(4, .e (.one (.pure (.val (.int .u8 v3)))))] [] ⟨rfl, trivial⟩ trivial rfl rfl) (W_ret ?_)
    exact ⟨⟨[_], ⟨.tmp _ _ rfl, trivial⟩, rfl⟩, trivial⟩
set_option maxRecDepth 10000 in
theorem mix_Valid_c (N : Nat) (p0 : ApiProblem) (p1 : ApiMix) (r : Int) (h : Sh.mix_Valid N p0 p1 = some r) : Contract Try.prog 77 [.e (.agg [.pure (.sl (p0.fVersions.map eI64)), .pure (.sl (p0.fNow.map eI64)), .pure (.sl (p0.fTarget.map eI64)), .pure (.sl (p0.fTables.map eApiTable))]), .e (.agg [.pure (.sl (p1.fBase.map eI64)), .pure (.sl (p1.fNext.map eI64)), .pure (.sl (p1.fHeld.map eU8))])] [] (.e (.one (.pure (.val (.int .i64 r))))) := by
  unfold Sh.mix_Valid at h
  refine contract_of_W (n := 135) (rs := [.tmp 4]) Try.func77 rfl rfl rfl (leb rfl) (leb rfl) rfl fun w0 S0 => ?_
  refine W_seq (W_region mixed rfl (r_box (.p rfl) rfl rfl (r_box (.p rfl) rfl rfl (r_assign (.p rfl) rfl (r_end (W_seq (W_seq (W_region mixed rfl (r_loadN (.p rfl) rfl ag30 sz30 rfl rfl rfl ?_)))))))))
  obtain ⟨v1, a1, h⟩ := bind_some h
  refine r_call (ds0 := [_]) [] (fleet_ValidProblem_c N p0 v1 a1) (.p rfl) gd61 rfl ⟨rfl, trivial⟩ rfl rfl rfl (nodupL_spec rfl) trivial rfl (r_assign (.p rfl) rfl (r_end (W_seq (W_region mixed rfl (r_move (.p rfl) rfl (r_bin (.p rfl) rfl rfl (bin_neq _ _ _ _ _ _) rfl (r_end ?_)))))))
  refine W_cond rfl (fun c2 => ?_) (fun c2 => ?_)
  · have h := cnd_t c2 h
    refine W_seq (W_region mixed rfl (r_move (.p rfl) rfl (r_assign (.p rfl) rfl (r_end ?_))))
    obtain rfl := Option.some.inj h
    refine W_sees (sees_mkL (rn []) [(4, .e (.one (.pure (.val (.int .i64 v1)))))] [] ⟨rfl, trivial⟩ trivial rfl rfl) (W_ret ?_)
    exact ⟨⟨[_], ⟨.tmp _ _ rfl, trivial⟩, rfl⟩, trivial⟩
  · have h := cnd_f c2 h
    refine W_skip (W_seq ?_)
    refine W_join h (fun v3 => mk [(2, .e (.one (.ptr 2 0))), (3, .e (.one (.ptr 3 0))), (41, .e (.one (.pure (.val (.bool v3)))))] [(2, .box [.pure (.sl (p0.fVersions.map eI64)), .pure (.sl (p0.fNow.map eI64)), .pure (.sl (p0.fTarget.map eI64)), .pure (.sl (p0.fTables.map eApiTable))]), (3, .box [.pure (.sl (p1.fBase.map eI64)), .pure (.sl (p1.fNext.map eI64)), .pure (.sl (p1.fHeld.map eU8))])]) (fun j3 h => ?_) (fun v3 h => ?_)
    · refine W_region mixed rfl (r_fieldAddr (.p rfl) rfl fld43_0 (r_load1 (.p rfl) rfl ag27 rfl rfl (r_len (.p rfl) rfl (.sl _) trivial (List.length_map _) slc27 (r_fieldAddr (.p rfl) rfl fld30_0 (r_load1 (.p rfl) rfl ag27 rfl rfl (r_len (.p rfl) rfl (.sl _) trivial (List.length_map _) slc27 (r_bin (.p rfl) rfl rfl (bin_neq _ _ _ _ _ _) rfl (r_move (.p rfl) rfl ?_))))))))
      refine r_split (t := 24) rfl (fun c4 => ?_) (fun c4 => ?_)
      · have h := cnd_t c4 h
        refine r_notB rfl rfl (r_notB rfl rfl (r_notB rfl rfl (r_notB rfl rfl (r_notB rfl rfl (r_notB rfl rfl (r_notB rfl rfl (r_pick (.p rfl) rfl rfl rfl (r_move (.p rfl) rfl (r_notB rfl rfl (r_notB rfl rfl (r_notB rfl rfl (r_notB rfl rfl (r_notB rfl rfl (r_notB rfl rfl (r_notB rfl rfl (r_pick (.p rfl) rfl rfl rfl (r_end ?_)))))))))))))))))
        exact sink true h (sees_mkL (rn []) _ _ ⟨rfl, rfl, rfl, trivial⟩ ⟨rfl, rfl, trivial⟩ rfl rfl)
      · have h := cnd_f c4 h
        refine r_fieldAddr (.g rfl rfl) rfl fld43_1 (r_load1 (.g rfl rfl) rfl ag27 rfl rfl (r_len (.g rfl rfl) rfl (.sl _) trivial (List.length_map _) slc27 (r_fieldAddr (.g rfl rfl) rfl fld30_0 (r_load1 (.g rfl rfl) rfl ag27 rfl rfl (r_len (.g rfl rfl) rfl (.sl _) trivial (List.length_map _) slc27 (r_bin (.g rfl rfl) rfl rfl (bin_neq _ _ _ _ _ _) rfl (r_pick (.p rfl) rfl rfl rfl (r_move (.p rfl) rfl ?_))))))))
        refine r_split (t := 33) rfl (fun c5 => ?_) (fun c5 => ?_)
        · have h := cnd_t c5 h
          refine r_notB rfl rfl (r_notB rfl rfl (r_notB rfl rfl (r_notB rfl rfl (r_notB rfl rfl (r_notB rfl rfl (r_notB rfl rfl (r_pick (.p rfl) rfl rfl rfl (r_end ?_))))))))
          exact sink true h (sees_mkL (rn []) _ _ ⟨rfl, rfl, rfl, trivial⟩ ⟨rfl, rfl, trivial⟩ rfl rfl)
        · have h := cnd_f c5 h
          refine r_fieldAddr (.g rfl rfl) rfl fld43_2 (r_load1 (.g rfl rfl) rfl ag41 rfl rfl (r_len (.g rfl rfl) rfl (.sl _) trivial (List.length_map _) slc41 (r_fieldAddr (.g rfl rfl) rfl fld30_3 (r_load1 (.g rfl rfl) rfl ag28 rfl rfl (r_len (.g rfl rfl) rfl (.sl _) trivial (List.length_map _) slc28 (r_bin (.g rfl rfl) rfl rfl (bin_neq _ _ _ _ _ _) rfl (r_pick (.p rfl) rfl rfl rfl (r_end ?_))))))))
          exact sink ((p1.fHeld.length : Int) != (p0.fTables.length : Int)) h (sees_mkL (rn []) _ _ ⟨rfl, rfl, rfl, trivial⟩ ⟨rfl, rfl, trivial⟩ rfl rfl)
    · refine W_cond rfl (fun c6 => ?_) (fun c6 => ?_)
      · have h := cnd_t c6 h
        refine W_seq (W_region mixed rfl (r_assign (.p rfl) rfl (r_end ?_)))
        obtain rfl := Option.some.inj h
        refine W_sees (sees_mkL (rn []) [(4, .e (.one (.pure (.val (.int .i64 6)))))] [] ⟨rfl, trivial⟩ trivial rfl rfl) (W_ret ?_)
        exact ⟨⟨[_], ⟨.tmp _ _ rfl, trivial⟩, rfl⟩, trivial⟩
      · have h := cnd_f c6 h
        refine W_skip (W_seq (W_seq (W_region mixed rfl (r_fieldAddr (.p rfl) rfl fld30_0 (r_load1 (.p rfl) rfl ag27 rfl rfl (r_len (.p rfl) rfl (.sl _) trivial (List.length_map _) slc27 (r_move (.p rfl) rfl (r_end ?_))))))))
        refine W_whileE (L := Sh.mix_Valid_L7 N p0 p1) h (fun v7 => mk [(2, .e (.one (.ptr 2 0))), (3, .e (.one (.ptr 3 0))), (43, .e (.one (.pure (.sl (p0.fVersions.map eI64))))), (44, .e (.one (.pure (.val (.int .i64 ((p0.fVersions.length : Int))))))), (45, .e (.one (.pure (.val (.int .i64 v7)))))] [(2, .box [.pure (.sl (p0.fVersions.map eI64)), .pure (.sl (p0.fNow.map eI64)), .pure (.sl (p0.fTarget.map eI64)), .pure (.sl (p0.fTables.map eApiTable))]), (3, .box [.pure (.sl (p1.fBase.map eI64)), .pure (.sl (p1.fNext.map eI64)), .pure (.sl (p1.fHeld.map eU8))])]) (fun v8 => mk [(2, .e (.one (.ptr 2 0))), (3, .e (.one (.ptr 3 0)))] [(2, .box [.pure (.sl (p0.fVersions.map eI64)), .pure (.sl (p0.fNow.map eI64)), .pure (.sl (p0.fTarget.map eI64)), .pure (.sl (p0.fTables.map eApiTable))]), (3, .box [.pure (.sl (p1.fBase.map eI64)), .pure (.sl (p1.fNext.map eI64)), .pure (.sl (p1.fHeld.map eU8))])]) (fun _ _ => rfl) (sees_mkL (rn []) _ _ ⟨rfl, rfl, rfl, rfl, rfl, trivial⟩ ⟨rfl, rfl, trivial⟩ rfl rfl) (fun j7 n7 v7 h => ?_) (fun v8 s h hs => ?_)
        · unfold Sh.mix_Valid_L7 at h
          refine W_seq (W_region mixed rfl (r_bin (.p rfl) rfl rfl (bin_lss _ _ _ _ _ _) rfl (r_end (W_seq ?_))))
          refine W_cond rfl (fun c9 => ?_) (fun c9 => ?_)
          · have h := cnd_t c9 h
            refine W_skip (W_seq (W_block (W_seq (W_region mixed rfl (r_move (.p rfl) rfl ?_)))))
            obtain ⟨v10, a10, b10, h⟩ := idx_bind h
            refine r_index (.p rfl) rfl rfl slc27 sz3 a10 (map_get b10) rfl (r_loadr1 (.p rfl) rfl ag3 rfl (r_assign (.p rfl) rfl (r_assign (.p rfl) rfl (r_end (W_seq ?_)))))
            refine W_join h (fun v11 => mk [(2, .e (.one (.ptr 2 0))), (3, .e (.one (.ptr 3 0))), (6, .e (.one (.pure (.val (.int .i64 v7))))), (43, .e (.one (.pure (.sl (p0.fVersions.map eI64))))), (44, .e (.one (.pure (.val (.int .i64 ((p0.fVersions.length : Int))))))), (45, .e (.one (.pure (.val (.int .i64 v7))))), (81, .e (.one (.pure (.val (.bool v11)))))] [(2, .box [.pure (.sl (p0.fVersions.map eI64)), .pure (.sl (p0.fNow.map eI64)), .pure (.sl (p0.fTarget.map eI64)), .pure (.sl (p0.fTables.map eApiTable))]), (3, .box [.pure (.sl (p1.fBase.map eI64)), .pure (.sl (p1.fNext.map eI64)), .pure (.sl (p1.fHeld.map eU8))])]) (fun j11 h => ?_) (fun v11 h => ?_)
            · refine W_region mixed rfl (r_fieldAddr (.p rfl) rfl fld43_0 (r_load1 (.p rfl) rfl ag27 rfl rfl (r_move (.p rfl) rfl ?_)))
              obtain ⟨v12, a12, b12, h⟩ := idx_bind h
              refine r_index (.p rfl) rfl rfl slc27 sz3 a12 (map_get b12) rfl (r_loadr1 (.p rfl) rfl ag3 rfl (r_bin (.p rfl) rfl rfl (bin_lss _ _ _ _ _ _) rfl (r_move (.p rfl) rfl ?_)))
              refine r_split (t := 56) rfl (fun c13 => ?_) (fun c13 => ?_)
              · have h := cnd_t c13 h
                refine r_notB rfl rfl (r_notB rfl rfl (r_notB rfl rfl (r_notB rfl rfl (r_notB rfl rfl (r_notB rfl rfl (r_notB rfl rfl (r_pick (.p rfl) rfl rfl rfl (r_move (.p rfl) rfl (r_notB rfl rfl (r_notB rfl rfl (r_notB rfl rfl (r_notB rfl rfl (r_notB rfl rfl (r_notB rfl rfl (r_pick (.p rfl) rfl rfl rfl (r_move (.p rfl) rfl (r_notB rfl rfl (r_notB rfl rfl (r_notB rfl rfl (r_notB rfl rfl (r_notB rfl rfl (r_notB rfl rfl (r_notB rfl rfl (r_pick (.p rfl) rfl rfl rfl (r_end ?_)))))))))))))))))))))))))
                exact sink true h (sees_mkL (rn []) _ _ ⟨rfl, rfl, rfl, rfl, rfl, rfl, rfl, trivial⟩ ⟨rfl, rfl, trivial⟩ rfl rfl)
              · have h := cnd_f c13 h
                refine r_fieldAddr (.g rfl rfl) rfl fld43_0 (r_load1 (.g rfl rfl) rfl ag27 rfl rfl (r_move (.g rfl rfl) rfl ?_))
                obtain ⟨v14, a14, b14, h⟩ := idx_bind h
                refine r_index (.g rfl rfl) rfl rfl slc27 sz3 a14 (map_get b14) rfl (r_loadr1 (.g rfl rfl) rfl ag3 rfl (r_move (.g rfl rfl) rfl (r_bin (.g rfl rfl) rfl rfl (bin_geq _ _ _ _ _ _) rfl (r_pick (.p rfl) rfl rfl rfl (r_move (.p rfl) rfl ?_)))))
                refine r_split (t := 65) rfl (fun c15 => ?_) (fun c15 => ?_)
                · have h := cnd_t c15 h
                  refine r_notB rfl rfl (r_notB rfl rfl (r_notB rfl rfl (r_notB rfl rfl (r_notB rfl rfl (r_notB rfl rfl (r_pick (.p rfl) rfl rfl rfl (r_move (.p rfl) rfl (r_notB rfl rfl (r_notB rfl rfl (r_notB rfl rfl (r_notB rfl rfl (r_notB rfl rfl (r_notB rfl rfl (r_notB rfl rfl (r_pick (.p rfl) rfl rfl rfl (r_end ?_))))))))))))))))
                  exact sink true h (sees_mkL (rn []) _ _ ⟨rfl, rfl, rfl, rfl, rfl, rfl, rfl, trivial⟩ ⟨rfl, rfl, trivial⟩ rfl rfl)
                · have h := cnd_f c15 h
                  refine r_fieldAddr (.g rfl rfl) rfl fld43_1 (r_load1 (.g rfl rfl) rfl ag27 rfl rfl (r_move (.g rfl rfl) rfl ?_))
                  obtain ⟨v16, a16, b16, h⟩ := idx_bind h
                  refine r_index (.g rfl rfl) rfl rfl slc27 sz3 a16 (map_get b16) rfl (r_loadr1 (.g rfl rfl) rfl ag3 rfl (r_bin (.g rfl rfl) rfl rfl (bin_lss _ _ _ _ _ _) rfl (r_pick (.p rfl) rfl rfl rfl (r_move (.p rfl) rfl ?_))))
                  refine r_split (t := 73) rfl (fun c17 => ?_) (fun c17 => ?_)
                  · have h := cnd_t c17 h
                    refine r_notB rfl rfl (r_notB rfl rfl (r_notB rfl rfl (r_notB rfl rfl (r_notB rfl rfl (r_notB rfl rfl (r_notB rfl rfl (r_pick (.p rfl) rfl rfl rfl (r_end ?_))))))))
                    exact sink true h (sees_mkL (rn []) _ _ ⟨rfl, rfl, rfl, rfl, rfl, rfl, rfl, trivial⟩ ⟨rfl, rfl, trivial⟩ rfl rfl)
                  · have h := cnd_f c17 h
                    refine r_fieldAddr (.g rfl rfl) rfl fld43_1 (r_load1 (.g rfl rfl) rfl ag27 rfl rfl (r_move (.g rfl rfl) rfl ?_))
                    obtain ⟨v18, a18, b18, h⟩ := idx_bind h
                    refine r_index (.g rfl rfl) rfl rfl slc27 sz3 a18 (map_get b18) rfl (r_loadr1 (.g rfl rfl) rfl ag3 rfl (r_move (.g rfl rfl) rfl (r_bin (.g rfl rfl) rfl rfl (bin_geq _ _ _ _ _ _) rfl (r_pick (.p rfl) rfl rfl rfl (r_end ?_)))))
                    exact sink (decide (v10 ≤ v18)) h (sees_mkL (rn []) _ _ ⟨rfl, rfl, rfl, rfl, rfl, rfl, rfl, trivial⟩ ⟨rfl, rfl, trivial⟩ rfl rfl)
            · refine W_cond rfl (fun c19 => ?_) (fun c19 => ?_)
              · have h := cnd_t c19 h
                refine W_seq (W_region mixed rfl (r_assign (.p rfl) rfl (r_end ?_)))
                obtain rfl := Option.some.inj h
                refine W_sees (sees_mkL (rn []) [(4, .e (.one (.pure (.val (.int .i64 7)))))] [] ⟨rfl, trivial⟩ trivial rfl rfl) (W_ret ?_)
                exact ⟨⟨[_], ⟨.tmp _ _ rfl, trivial⟩, rfl⟩, trivial⟩
              · have h := cnd_f c19 h
                refine W_skip (W_seq (W_region mixed rfl (r_fieldAddr (.p rfl) rfl fld43_0 (r_load1 (.p rfl) rfl ag27 rfl rfl (r_move (.p rfl) rfl ?_)))))
                obtain ⟨v20, a20, b20, h⟩ := idx_bind h
                refine r_index (.p rfl) rfl rfl slc27 sz3 a20 (map_get b20) rfl (r_loadr1 (.p rfl) rfl ag3 rfl (r_fieldAddr (.p rfl) rfl fld43_1 (r_load1 (.p rfl) rfl ag27 rfl rfl (r_move (.p rfl) rfl ?_))))
                obtain ⟨v21, a21, b21, h⟩ := idx_bind h
                refine r_index (.p rfl) rfl rfl slc27 sz3 a21 (map_get b21) rfl (r_loadr1 (.p rfl) rfl ag3 rfl (r_bin (.p rfl) rfl rfl (bin_eql _ _ _ _ _ _) rfl ?_))
                refine r_endD (by kernel_rfl) ?_
                refine W_cond rfl (fun c22 => ?_) (fun c22 => ?_)
                · have h := cnd_t c22 h
                  refine W_seq (W_region mixed rfl (r_assign (.p rfl) rfl (r_end ?_)))
                  obtain rfl := Option.some.inj h
                  refine W_sees (sees_mkL (rn []) [(4, .e (.one (.pure (.val (.int .i64 1)))))] [] ⟨rfl, trivial⟩ trivial rfl rfl) (W_ret ?_)
                  exact ⟨⟨[_], ⟨.tmp _ _ rfl, trivial⟩, rfl⟩, trivial⟩
                · have h := cnd_f c22 h
                  refine W_skip (W_region mixed rfl (r_bin (.p rfl) rfl rfl (bin_add _ _ _ _ _ _) rfl (r_move (.p rfl) rfl (r_end ?_))))
                  exact sink (IntKind.wrap .i64 (v7 + 1)) h (sees_mkL (rn []) _ _ ⟨rfl, rfl, rfl, rfl, rfl, trivial⟩ ⟨rfl, rfl, trivial⟩ rfl rfl)
          · have h := cnd_f c9 h
            refine W_exit ?_
            exact sink () h (sees_mkL (rn []) _ _ ⟨rfl, rfl, trivial⟩ ⟨rfl, rfl, trivial⟩ rfl rfl)
        · refine W_sees hs (W_seq (W_seq (W_region mixed rfl (r_fieldAddr (.p rfl) rfl fld30_3 (r_load1 (.p rfl) rfl ag28 rfl rfl (r_len (.p rfl) rfl (.sl _) trivial (List.length_map _) slc28 (r_move (.p rfl) rfl (r_end ?_))))))))
          refine W_whileE (L := Sh.mix_Valid_L23 N p0 p1) h (fun v23 => mk [(2, .e (.one (.ptr 2 0))), (3, .e (.one (.ptr 3 0))), (95, .e (.one (.pure (.sl (p0.fTables.map eApiTable))))), (96, .e (.one (.pure (.val (.int .i64 ((p0.fTables.length : Int))))))), (97, .e (.one (.pure (.val (.int .i64 v23)))))] [(2, .box [.pure (.sl (p0.fVersions.map eI64)), .pure (.sl (p0.fNow.map eI64)), .pure (.sl (p0.fTarget.map eI64)), .pure (.sl (p0.fTables.map eApiTable))]), (3, .box [.pure (.sl (p1.fBase.map eI64)), .pure (.sl (p1.fNext.map eI64)), .pure (.sl (p1.fHeld.map eU8))])]) (fun v24 => mk [] []) (fun _ _ => rfl) (sees_mkL (rn []) _ _ ⟨rfl, rfl, rfl, rfl, rfl, trivial⟩ ⟨rfl, rfl, trivial⟩ rfl rfl) (fun j23 n23 v23 h => ?_) (fun v24 s h hs => ?_)
          · unfold Sh.mix_Valid_L23 at h
            refine W_seq (W_region mixed rfl (r_bin (.p rfl) rfl rfl (bin_lss _ _ _ _ _ _) rfl (r_end (W_seq ?_))))
            refine W_cond rfl (fun c25 => ?_) (fun c25 => ?_)
            · have h := cnd_t c25 h
              refine W_skip (W_seq (W_block (W_seq (W_region mixed rfl (r_move (.p rfl) rfl ?_)))))
              obtain ⟨v26, a26, b26, h⟩ := idx_bind h
              refine r_index (.p rfl) rfl rfl slc28 sz75 a26 (map_get b26) rfl (r_loadrN (.p rfl) rfl ag75 sz75 rfl rfl (r_alloc (.p rfl) zv75 rfl rfl rfl (r_assign (.p rfl) rfl (r_store rfl rfl rfl rfl sz75 rfl (leb rfl) rfl (r_end (W_seq (W_region mixed rfl (r_assign (.p rfl) rfl (r_assign (.p rfl) rfl (r_end ?_))))))))))
              refine W_join h (fun v27 => mk [(2, .e (.one (.ptr 2 0))), (3, .e (.one (.ptr 3 0))), (8, .e (.one (.pure (.val (.int .i64 v23))))), (10, .e (.one (.pure (.val (.int .u8 v27.1))))), (11, .e (.one (.pure (.val (.int .u8 v27.2))))), (95, .e (.one (.pure (.sl (p0.fTables.map eApiTable))))), (96, .e (.one (.pure (.val (.int .i64 ((p0.fTables.length : Int))))))), (97, .e (.one (.pure (.val (.int .i64 v23)))))] [(2, .box [.pure (.sl (p0.fVersions.map eI64)), .pure (.sl (p0.fNow.map eI64)), .pure (.sl (p0.fTarget.map eI64)), .pure (.sl (p0.fTables.map eApiTable))]), (3, .box [.pure (.sl (p1.fBase.map eI64)), .pure (.sl (p1.fNext.map eI64)), .pure (.sl (p1.fHeld.map eU8))])]) (fun j27 h => ?_) (fun v27 h => ?_)
              · refine W_seq (W_region mixed rfl (r_loadN (.p rfl) rfl ag75 sz75 rfl rfl rfl ?_))
                obtain ⟨v28, a28, h⟩ := bind_some h
                refine r_call (ds0 := [_]) [] (mix_stored_c N v26 v28 a28) (.p rfl) gd74 rfl ⟨rfl, trivial⟩ rfl rfl rfl (nodupL_spec rfl) trivial rfl (r_end ?_)
                refine W_cond rfl (fun c29 => ?_) (fun c29 => ?_)
                · have h := cnd_t c29 h
                  refine W_region mixed rfl (r_loadN (.p rfl) rfl ag43 sz43 rfl rfl rfl (r_fieldAddr (.p rfl) rfl fld75_1 (r_load1 (.p rfl) rfl ag3 rfl rfl ?_)))
                  obtain ⟨v30, a30, h⟩ := bind_some h
                  refine r_call (ds0 := [_, _]) [] (mix_running_c N p1 v26.fFrom v30 a30) (.p rfl) gd99 rfl ⟨rfl, rfl, trivial⟩ rfl rfl rfl (nodupL_spec rfl) trivial rfl (r_fieldAddr (.p rfl) rfl fld30_0 (r_load1 (.p rfl) rfl ag27 rfl rfl (r_fieldAddr (.p rfl) rfl fld75_1 (r_load1 (.p rfl) rfl ag3 rfl rfl ?_))))
                  obtain ⟨v31, a31, b31, h⟩ := idx_bind h
                  refine r_index (.p rfl) rfl rfl slc27 sz3 a31 (map_get b31) rfl (r_loadr1 (.p rfl) rfl ag3 rfl ?_)
                  obtain ⟨c32, h⟩ := chk_bind h
                  refine r_bin (.p rfl) rfl rfl (bin_shl _ _ _ _ _ _ _ c32) rfl (r_bin (.p rfl) rfl rfl (bin_sub _ _ _ _ _ _) rfl (r_assign (.p rfl) rfl (r_assign (.p rfl) rfl ?_)))
                  refine r_endD (by kernel_rfl) ?_
                  exact sink (v30, (IntKind.wrap .u8 ((shlI .u8 1 v31) - 1))) h (sees_mkL (rn []) _ _ ⟨rfl, rfl, rfl, rfl, rfl, rfl, rfl, rfl, trivial⟩ ⟨rfl, rfl, trivial⟩ rfl rfl)
                · have h := cnd_f c29 h
                  refine W_skip ?_
                  exact sink (0, 0) h (sees_mkL (rn []) _ _ ⟨rfl, rfl, rfl, rfl, rfl, rfl, rfl, rfl, trivial⟩ ⟨rfl, rfl, trivial⟩ rfl rfl)
              · refine W_join h (fun v33 => mk [(2, .e (.one (.ptr 2 0))), (3, .e (.one (.ptr 3 0))), (95, .e (.one (.pure (.sl (p0.fTables.map eApiTable))))), (96, .e (.one (.pure (.val (.int .i64 ((p0.fTables.length : Int))))))), (97, .e (.one (.pure (.val (.int .i64 v23))))), (133, .e (.one (.pure (.val (.bool v33)))))] [(2, .box [.pure (.sl (p0.fVersions.map eI64)), .pure (.sl (p0.fNow.map eI64)), .pure (.sl (p0.fTarget.map eI64)), .pure (.sl (p0.fTables.map eApiTable))]), (3, .box [.pure (.sl (p1.fBase.map eI64)), .pure (.sl (p1.fNext.map eI64)), .pure (.sl (p1.fHeld.map eU8))])]) (fun j33 h => ?_) (fun v33 h => ?_)
                · refine W_region mixed rfl (r_move (.p rfl) rfl (r_fieldAddr (.p rfl) rfl fld43_2 (r_load1 (.p rfl) rfl ag41 rfl rfl (r_move (.p rfl) rfl ?_))))
                  obtain ⟨v34, a34, b34, h⟩ := idx_bind h
                  refine r_index (.p rfl) rfl rfl slc41 sz87 a34 (map_get b34) rfl (r_loadr1 (.p rfl) rfl ag87 rfl (r_bin (.p rfl) rfl rfl (bin_andNot _ _ _ _ _ _) rfl (r_bin (.p rfl) rfl rfl (bin_neq _ _ _ _ _ _) rfl (r_move (.p rfl) rfl ?_))))
                  refine r_split (t := 124) rfl (fun c35 => ?_) (fun c35 => ?_)
                  · have h := cnd_t c35 h
                    refine r_notB rfl rfl (r_notB rfl rfl (r_notB rfl rfl (r_notB rfl rfl (r_notB rfl rfl (r_notB rfl rfl (r_notB rfl rfl (r_notB rfl rfl (r_pick (.p rfl) rfl rfl rfl (r_end ?_)))))))))
                    exact sink true h (sees_mkL (rn []) _ _ ⟨rfl, rfl, rfl, rfl, rfl, rfl, trivial⟩ ⟨rfl, rfl, trivial⟩ rfl rfl)
                  · have h := cnd_f c35 h
                    refine r_fieldAddr (.g rfl rfl) rfl fld43_2 (r_load1 (.g rfl rfl) rfl ag41 rfl rfl (r_move (.g rfl rfl) rfl ?_))
                    obtain ⟨v36, a36, b36, h⟩ := idx_bind h
                    refine r_index (.g rfl rfl) rfl rfl slc41 sz87 a36 (map_get b36) rfl (r_loadr1 (.g rfl rfl) rfl ag87 rfl (r_move (.g rfl rfl) rfl (r_bin (.g rfl rfl) rfl rfl (bin_andNot _ _ _ _ _ _) rfl (r_bin (.g rfl rfl) rfl rfl (bin_neq _ _ _ _ _ _) rfl (r_pick (.p rfl) rfl rfl rfl (r_end ?_))))))
                    exact sink ((andNotI .u8 v36 v27.2) != 0) h (sees_mkL (rn []) _ _ ⟨rfl, rfl, rfl, rfl, rfl, rfl, trivial⟩ ⟨rfl, rfl, trivial⟩ rfl rfl)
                · refine W_cond rfl (fun c37 => ?_) (fun c37 => ?_)
                  · have h := cnd_t c37 h
                    refine W_seq (W_region mixed rfl (r_assign (.p rfl) rfl (r_end ?_)))
                    obtain rfl := Option.some.inj h
                    refine W_sees (sees_mkL (rn []) [(4, .e (.one (.pure (.val (.int .i64 1)))))] [] ⟨rfl, trivial⟩ trivial rfl rfl) (W_ret ?_)
                    exact ⟨⟨[_], ⟨.tmp _ _ rfl, trivial⟩, rfl⟩, trivial⟩
                  · have h := cnd_f c37 h
                    refine W_skip (W_region mixed rfl (r_bin (.p rfl) rfl rfl (bin_add _ _ _ _ _ _) rfl (r_move (.p rfl) rfl (r_end ?_))))
                    exact sink (IntKind.wrap .i64 (v23 + 1)) h (sees_mkL (rn []) _ _ ⟨rfl, rfl, rfl, rfl, rfl, trivial⟩ ⟨rfl, rfl, trivial⟩ rfl rfl)
            · have h := cnd_f c25 h
              refine W_exit ?_
              exact sink () h (sees_mkL (rn []) _ _ trivial trivial rfl rfl)
          · refine W_sees hs (W_seq (W_region mixed rfl (r_assign (.p rfl) rfl (r_end ?_))))
            obtain rfl := Option.some.inj h
            refine W_sees (sees_mkL (rn []) [(4, .e (.one (.pure (.val (.int .i64 0)))))] [] ⟨rfl, trivial⟩ trivial rfl rfl) (W_ret ?_)
            exact ⟨⟨[_], ⟨.tmp _ _ rfl, trivial⟩, rfl⟩, trivial⟩
set_option maxRecDepth 10000 in
theorem slices_Clone_api_Set_api_Set_c (N : Nat) (p0 : List Int) (r : (List Int)) (h : Sh.slices_Clone_api_Set_api_Set N p0 = some r) : Contract Try.prog 98 [.e (.one (.pure (.sl (p0.map eU8))))] [(1, r.map eU8)] (.e (.one (.own 0))) := by
  unfold Sh.slices_Clone_api_Set_api_Set at h
  refine contract_of_W (n := 8) (rs := [.tmp 2]) Try.func98 rfl rfl rfl (leb rfl) (leb rfl) rfl fun w0 S0 => ?_
  refine W_seq (W_region mixed rfl (r_assign (.p rfl) rfl (r_end (W_seq (W_seq (W_region mixed rfl (r_move (.p rfl) rfl ?_)))))))
  refine r_eqNil (.p rfl) rfl slc41 ?_
  refine r_end ?_
  refine W_condN rfl (fun c2 => ?_) ?_
  · have c2 := List.map_eq_nil_iff.1 c2
    rw [c2] at h
    have h : (some (([] : List Int))) = some r := h
    refine W_seq (W_region mixed rfl (r_assign (.p rfl) rfl (r_end ?_)))
    obtain rfl := Option.some.inj h
    refine W_sees ((sees_adopt 2 2001 1 rfl rfl rfl).trans (sees_mkL (rn [(1000, 2001)]) [(2, .e (.one (.own 1000)))] [(1000, .vec 1 ((([] : List Int)).map eU8))] ⟨rfl, trivial⟩ ⟨rfl, trivial⟩ rfl rfl)) (W_ret ?_)
    exact ⟨⟨[_], ⟨.tmp _ _ rfl, trivial⟩, rfl⟩, ⟨rfl, trivial⟩⟩
  · refine W_skip (W_seq (W_region mixed rfl (r_buildSlice [] (.p rfl) rfl trivial rfl slc41 sz87 zv87 rfl rfl (leb rfl) rfl rfl (r_move (.p rfl) rfl ?_))))
    obtain ⟨c1, h⟩ := chk_bind h
    refine r_append (.p rfl) rfl (.own _ _ _) ⟨rfl, trivial⟩ rfl (.sl _ _ (map_rows (f := eU8) (n := 1) (fun _ => rfl) _)) trivial rfl slc41 slc41 sz87 byt87 (leb rfl) zv87 rfl (len_lim (f := eU8) (g := eU8) (xs := (([] : List Int))) (ys := p0) c1) (map_app eU8 (([] : List Int)) p0) rfl ?_
    refine r_assign (.p rfl) rfl (r_end ?_)
    obtain rfl := Option.some.inj h
    refine W_sees (sees_mkL (rn [(1000, 7)]) [(2, .e (.one (.own 1000)))] [(1000, .vec 1 (((([] : List Int)) ++ p0).map eU8))] ⟨rfl, trivial⟩ ⟨rfl, trivial⟩ rfl rfl) (W_ret ?_)
    exact ⟨⟨[_], ⟨.tmp _ _ rfl, trivial⟩, rfl⟩, ⟨rfl, trivial⟩⟩
set_option maxRecDepth 10000 in
theorem mix_Aborts_c (N : Nat) (p0 : ApiProblem) (p1 : ApiMix) (r : (List ApiMix) × Int) (h : Sh.mix_Aborts N p0 p1 = some r) : Contract Try.prog 75 [.e (.agg [.pure (.sl (p0.fVersions.map eI64)), .pure (.sl (p0.fNow.map eI64)), .pure (.sl (p0.fTarget.map eI64)), .pure (.sl (p0.fTables.map eApiTable))]), .e (.agg [.pure (.sl (p1.fBase.map eI64)), .pure (.sl (p1.fNext.map eI64)), .pure (.sl (p1.fHeld.map eU8))])] [(3, r.1.map eApiMix)] (.tup [.one (.own 0), .one (.pure (.val (.int .i64 r.2)))]) := by
  unfold Sh.mix_Aborts at h
  refine contract_of_W (n := 75) (rs := [.tmp 4, .tmp 5]) Try.func75 rfl rfl rfl (leb rfl) (leb rfl) rfl fun w0 S0 => ?_
  refine W_seq (W_region mixed rfl (r_box (.p rfl) rfl rfl (r_box (.p rfl) rfl rfl (r_assign (.p rfl) rfl (r_assign (.p rfl) rfl (r_end (W_seq (W_seq (W_region mixed rfl (r_loadN (.p rfl) rfl ag30 sz30 rfl rfl rfl (r_loadN (.p rfl) rfl ag43 sz43 rfl rfl rfl ?_)))))))))))
  obtain ⟨v1, a1, h⟩ := bind_some h
  refine r_call (ds0 := [_, _]) [] (mix_Valid_c N p0 p1 v1 a1) (.p rfl) gd77 rfl ⟨rfl, rfl, trivial⟩ rfl rfl rfl (nodupL_spec rfl) trivial rfl (r_assign (.p rfl) rfl (r_end (W_seq (W_region mixed rfl (r_move (.p rfl) rfl (r_bin (.p rfl) rfl rfl (bin_neq _ _ _ _ _ _) rfl (r_end ?_)))))))
  refine W_cond rfl (fun c2 => ?_) (fun c2 => ?_)
  · have h := cnd_t c2 h
    refine W_seq (W_region mixed rfl (r_move (.p rfl) rfl (r_assign (.p rfl) rfl (r_assign (.p rfl) rfl (r_end ?_)))))
    obtain rfl := Option.some.inj h
    refine W_sees ((sees_adopt 4 2001 3 rfl rfl rfl).trans (sees_mkL (rn [(1000, 2001)]) [(4, .e (.one (.own 1000))), (5, .e (.one (.pure (.val (.int .i64 v1)))))] [(1000, .vec 3 ((([] : List ApiMix)).map eApiMix))] ⟨rfl, rfl, trivial⟩ ⟨rfl, trivial⟩ rfl rfl)) (W_ret ?_)
    exact ⟨⟨[_, _], ⟨.tmp _ _ rfl, ⟨.tmp _ _ rfl, trivial⟩⟩, rfl⟩, ⟨rfl, trivial⟩⟩
  · have h := cnd_f c2 h
    refine W_skip (W_seq (W_region mixed rfl (r_assign (.p rfl) rfl (r_end (W_seq (W_seq (W_region mixed rfl (r_fieldAddr (.p rfl) rfl fld43_1 (r_load1 (.p rfl) rfl ag27 rfl rfl (r_len (.p rfl) rfl (.sl _) trivial (List.length_map _) slc27 (r_move (.p rfl) rfl (r_end ?_))))))))))))
    refine W_whileE (L := Sh.mix_Aborts_L3 N p1) h (fun v3 => mk [(3, .e (.one (.ptr 3 0))), (7, .e (.one (.own 2002))), (22, .e (.one (.pure (.sl (p1.fNext.map eI64))))), (23, .e (.one (.pure (.val (.int .i64 ((p1.fNext.length : Int))))))), (24, .e (.one (.pure (.val (.int .i64 v3.2)))))] [(3, .box [.pure (.sl (p1.fBase.map eI64)), .pure (.sl (p1.fNext.map eI64)), .pure (.sl (p1.fHeld.map eU8))]), (2002, .vec 1 (v3.1.map eI64))]) (fun v4 => mk [(3, .e (.one (.ptr 3 0))), (7, .e (.one (.own 2003)))] [(3, .box [.pure (.sl (p1.fBase.map eI64)), .pure (.sl (p1.fNext.map eI64)), .pure (.sl (p1.fHeld.map eU8))]), (2003, .vec 1 (v4.map eI64))]) (fun _ _ => rfl) ((sees_adopt 7 2005 1 rfl rfl rfl).trans (sees_mkL (rn [(2002, 2005)]) _ _ ⟨rfl, rfl, rfl, rfl, rfl, trivial⟩ ⟨rfl, rfl, trivial⟩ rfl rfl)) (fun j3 n3 v3 h => ?_) (fun v4 s h hs => ?_)
    · unfold Sh.mix_Aborts_L3 at h
      refine W_seq (W_region mixed rfl (r_bin (.p rfl) rfl rfl (bin_lss _ _ _ _ _ _) rfl (r_end (W_seq ?_))))
      refine W_cond rfl (fun c5 => ?_) (fun c5 => ?_)
      · have h := cnd_t c5 h
        refine W_skip ?_
        refine W_join h (fun v6 => mk [(3, .e (.one (.ptr 3 0))), (7, .e (.one (.own 2004))), (22, .e (.one (.pure (.sl (p1.fNext.map eI64))))), (23, .e (.one (.pure (.val (.int .i64 ((p1.fNext.length : Int))))))), (24, .e (.one (.pure (.val (.int .i64 v3.2)))))] [(3, .box [.pure (.sl (p1.fBase.map eI64)), .pure (.sl (p1.fNext.map eI64)), .pure (.sl (p1.fHeld.map eU8))]), (2004, .vec 1 (v6.map eI64))]) (fun j6 h => ?_) (fun v6 h => ?_)
        · refine W_block (W_seq (W_region mixed rfl (r_move (.p rfl) rfl ?_)))
          obtain ⟨v7, a7, b7, h⟩ := idx_bind h
          refine r_index (.p rfl) rfl rfl slc27 sz3 a7 (map_get b7) rfl (r_loadr1 (.p rfl) rfl ag3 rfl (r_assign (.p rfl) rfl (r_assign (.p rfl) rfl (r_end (W_seq (W_region mixed rfl (r_move (.p rfl) rfl (r_bin (.p rfl) rfl rfl (bin_geq _ _ _ _ _ _) rfl (r_end ?_)))))))))
          refine W_cond rfl (fun c8 => ?_) (fun c8 => ?_)
          · have h := cnd_t c8 h
            refine W_region mixed rfl (r_move (.p rfl) rfl (r_move (.p rfl) rfl (r_buildSlice [(0, .tmp 32, _)] (.p rfl) rfl ⟨rfl, trivial⟩ rfl slc27 sz3 zv3 rfl rfl (leb rfl) rfl rfl ?_)))
            obtain ⟨c9, h⟩ := chk_bind h
            refine r_append (.p rfl) rfl (.own _ _ _) ⟨rfl, trivial⟩ rfl (.own _ _ _) ⟨rfl, trivial⟩ rfl slc27 slc27 sz3 byt3 (leb rfl) zv3 rfl (len_lim (f := eI64) (g := eI64) (xs := v3.1) (ys := (([v3.2] : List Int))) c9) (map_app eI64 v3.1 (([v3.2] : List Int))) rfl (r_assign (.p rfl) rfl (r_end ?_))
            exact sink (v3.1 ++ (([v3.2] : List Int))) h (sees_mkL (rn [(2004, 34)]) _ _ ⟨rfl, rfl, rfl, rfl, rfl, trivial⟩ ⟨rfl, rfl, trivial⟩ rfl rfl)
          · have h := cnd_f c8 h
            refine W_skip ?_
            exact sink v3.1 h (sees_mkL (rn [(2004, 2002)]) _ _ ⟨rfl, rfl, rfl, rfl, rfl, trivial⟩ ⟨rfl, rfl, trivial⟩ rfl rfl)
        · refine W_region mixed rfl (r_bin (.p rfl) rfl rfl (bin_add _ _ _ _ _ _) rfl (r_move (.p rfl) rfl (r_end ?_)))
          exact sink (v6, (IntKind.wrap .i64 (v3.2 + 1))) h (sees_mkL (rn [(2002, 2004)]) _ _ ⟨rfl, rfl, rfl, rfl, rfl, trivial⟩ ⟨rfl, rfl, trivial⟩ rfl rfl)
      · have h := cnd_f c5 h
        refine W_exit ?_
        exact sink v3.1 h (sees_mkL (rn [(2003, 2002)]) _ _ ⟨rfl, rfl, trivial⟩ ⟨rfl, rfl, trivial⟩ rfl rfl)
    · refine W_sees hs (W_seq (W_region mixed rfl (r_assign (.p rfl) rfl (r_end (W_seq (W_seq (W_region mixed rfl (r_move (.p rfl) rfl (r_len (.p rfl) rfl (.own _ _ _) ⟨rfl, trivial⟩ (List.length_map _) slc27 ?_)))))))))
      obtain ⟨c10, h⟩ := chk_bind h
      refine r_bin (.p rfl) rfl rfl (bin_shl _ _ _ _ _ _ _ c10) rfl (r_move (.p rfl) rfl (r_end ?_))
      refine W_whileE (L := Sh.mix_Aborts_L11 N p1 v4) h (fun v11 => mk [(3, .e (.one (.ptr 3 0))), (7, .e (.one (.own 2006))), (10, .e (.one (.own 2007))), (38, .e (.one (.pure (.val (.int .i64 ((shlI .i64 1 ((v4.length : Int))))))))), (39, .e (.one (.pure (.val (.int .i64 v11.2)))))] [(3, .box [.pure (.sl (p1.fBase.map eI64)), .pure (.sl (p1.fNext.map eI64)), .pure (.sl (p1.fHeld.map eU8))]), (2006, .vec 1 (v4.map eI64)), (2007, .vec 3 (v11.1.map eApiMix))]) (fun v12 => mk [(10, .e (.one (.own 2008)))] [(2008, .vec 3 (v12.map eApiMix))]) (fun _ _ => rfl) ((sees_adopt 10 2027 3 rfl rfl rfl).trans (sees_mkL (rn [(2006, 2003), (2007, 2027)]) _ _ ⟨rfl, rfl, rfl, rfl, rfl, trivial⟩ ⟨rfl, rfl, rfl, trivial⟩ rfl rfl)) (fun j11 n11 v11 h => ?_) (fun v12 s h hs => ?_)
      · unfold Sh.mix_Aborts_L11 at h
        refine W_seq (W_region mixed rfl (r_bin (.p rfl) rfl rfl (bin_lss _ _ _ _ _ _) rfl (r_end (W_seq ?_))))
        refine W_cond rfl (fun c13 => ?_) (fun c13 => ?_)
        · have h := cnd_t c13 h
          refine W_skip (W_seq (W_block (W_seq (W_region mixed rfl (r_move (.p rfl) rfl (r_assign (.p rfl) rfl (r_end (W_seq (W_region mixed rfl (r_fieldAddr (.p rfl) rfl fld43_0 (r_load1 (.p rfl) rfl ag27 rfl rfl ?_)))))))))))
          obtain ⟨v14, a14, h⟩ := bind_some h
          refine r_call (ds0 := [_]) [2009] (slices_Clone_int_int_c N p1.fBase v14 a14) (.p rfl) gd72 rfl ⟨rfl, trivial⟩ rfl rfl rfl (nodupL_spec rfl) ⟨rfl, trivial⟩ rfl (r_fieldAddr (.p rfl) rfl fld43_1 (r_load1 (.p rfl) rfl ag27 rfl rfl ?_))
          obtain ⟨v15, a15, h⟩ := bind_some h
          refine r_call (ds0 := [_]) [2010] (slices_Clone_int_int_c N p1.fNext v15 a15) (.p rfl) gd72 rfl ⟨rfl, trivial⟩ rfl rfl rfl (nodupL_spec rfl) ⟨rfl, trivial⟩ rfl (r_fieldAddr (.p rfl) rfl fld43_2 (r_load1 (.p rfl) rfl ag41 rfl rfl ?_))
          obtain ⟨v16, a16, h⟩ := bind_some h
          refine r_call (ds0 := [_]) [2011] (slices_Clone_api_Set_api_Set_c N p1.fHeld v16 a16) (.p rfl) gd98 rfl ⟨rfl, trivial⟩ rfl rfl rfl (nodupL_spec rfl) ⟨rfl, trivial⟩ rfl (r_build [(0, .tmp 44, _), (1, .tmp 47, _), (2, .tmp 50, _)] (.p rfl) rfl ⟨rfl, rfl, rfl, trivial⟩ zv43 rfl rfl pl43 rfl (r_alloc (.p rfl) zv43 rfl rfl rfl (r_store rfl rfl rfl rfl sz43 rfl (leb rfl) rfl ?_)))
          refine r_endD (by kernel_rfl) ?_
          refine W_seq (W_seq (W_region mixed rfl (r_move (.p rfl) rfl (r_len (.p rfl) rfl (.own _ _ _) ⟨rfl, trivial⟩ (List.length_map _) slc27 (r_move (.p rfl) rfl (r_end ?_))))))
          refine W_whileE (L := Sh.mix_Aborts_L17 N v4 v11) h (fun v17 => mk [(3, .e (.one (.ptr 3 0))), (7, .e (.one (.own 2015))), (10, .e (.one (.own 2016))), (11, .e (.one (.pure (.val (.int .i64 v11.2))))), (12, .e (.one (.ptr 12 0))), (38, .e (.one (.pure (.val (.int .i64 ((shlI .i64 1 ((v4.length : Int))))))))), (39, .e (.one (.pure (.val (.int .i64 v11.2))))), (52, .e (.one (.own 2015))), (53, .e (.one (.pure (.val (.int .i64 ((v4.length : Int))))))), (54, .e (.one (.pure (.val (.int .i64 v17.2)))))] [(3, .box [.pure (.sl (p1.fBase.map eI64)), .pure (.sl (p1.fNext.map eI64)), .pure (.sl (p1.fHeld.map eU8))]), (12, .box [.own 2012, .own 2013, .own 2014]), (2012, .vec 1 (v14.map eI64)), (2013, .vec 1 (v17.1.map eI64)), (2014, .vec 1 (v16.map eU8)), (2015, .vec 1 (v4.map eI64)), (2016, .vec 3 (v11.1.map eApiMix))]) (fun v18 => mk [(3, .e (.one (.ptr 3 0))), (7, .e (.one (.own 2020))), (10, .e (.one (.own 2021))), (12, .e (.one (.ptr 12 0))), (38, .e (.one (.pure (.val (.int .i64 ((shlI .i64 1 ((v4.length : Int))))))))), (39, .e (.one (.pure (.val (.int .i64 v11.2)))))] [(3, .box [.pure (.sl (p1.fBase.map eI64)), .pure (.sl (p1.fNext.map eI64)), .pure (.sl (p1.fHeld.map eU8))]), (12, .box [.own 2017, .own 2018, .own 2019]), (2017, .vec 1 (v14.map eI64)), (2018, .vec 1 (v18.map eI64)), (2019, .vec 1 (v16.map eU8)), (2020, .vec 1 (v4.map eI64)), (2021, .vec 3 (v11.1.map eApiMix))]) (fun _ _ => rfl) (sees_mkL (rn [(2012, 2009), (2013, 2010), (2014, 2011), (2015, 2006), (2016, 2007)]) _ _ ⟨rfl, rfl, rfl, rfl, rfl, rfl, rfl, rfl, rfl, rfl, trivial⟩ ⟨rfl, rfl, rfl, rfl, rfl, rfl, rfl, trivial⟩ rfl rfl) (fun j17 n17 v17 h => ?_) (fun v18 s h hs => ?_)
          · unfold Sh.mix_Aborts_L17 at h
            refine W_seq (W_region mixed rfl (r_bin (.p rfl) rfl rfl (bin_lss _ _ _ _ _ _) rfl (r_end (W_seq ?_))))
            refine W_cond rfl (fun c19 => ?_) (fun c19 => ?_)
            · have h := cnd_t c19 h
              refine W_skip ?_
              refine W_join h (fun v20 => mk [(3, .e (.one (.ptr 3 0))), (7, .e (.one (.own 2025))), (10, .e (.one (.own 2026))), (11, .e (.one (.pure (.val (.int .i64 v11.2))))), (12, .e (.one (.ptr 12 0))), (38, .e (.one (.pure (.val (.int .i64 ((shlI .i64 1 ((v4.length : Int))))))))), (39, .e (.one (.pure (.val (.int .i64 v11.2))))), (52, .e (.one (.own 2025))), (53, .e (.one (.pure (.val (.int .i64 ((v4.length : Int))))))), (54, .e (.one (.pure (.val (.int .i64 v17.2)))))] [(3, .box [.pure (.sl (p1.fBase.map eI64)), .pure (.sl (p1.fNext.map eI64)), .pure (.sl (p1.fHeld.map eU8))]), (12, .box [.own 2022, .own 2023, .own 2024]), (2022, .vec 1 (v14.map eI64)), (2023, .vec 1 (v20.map eI64)), (2024, .vec 1 (v16.map eU8)), (2025, .vec 1 (v4.map eI64)), (2026, .vec 3 (v11.1.map eApiMix))]) (fun j20 h => ?_) (fun v20 h => ?_)
              · refine W_block (W_seq (W_region mixed rfl (r_move (.p rfl) rfl ?_)))
                obtain ⟨v21, a21, b21, h⟩ := idx_bind h
                refine r_indexo (.p rfl) rfl rfl rfl slc27 sz3 a21 (map_get b21) (r_loade1 (.p rfl) rfl ag3 rfl (map_get b21) rfl (r_assign (.p rfl) rfl (r_assign (.p rfl) rfl (r_end (W_seq (W_region mixed rfl (r_move (.p rfl) rfl (r_move (.p rfl) rfl ?_))))))))
                obtain ⟨c22, h⟩ := chk_bind h
                refine r_bin (.p rfl) rfl rfl (bin_shr _ _ _ _ _ _ _ c22) rfl (r_bin (.p rfl) rfl rfl (bin_and _ _ _ _ _ _) rfl (r_bin (.p rfl) rfl rfl (bin_eql _ _ _ _ _ _) rfl (r_end ?_)))
                refine W_cond rfl (fun c23 => ?_) (fun c23 => ?_)
                · have h := cnd_t c23 h
                  refine W_region mixed rfl (r_fieldAddr (.p rfl) rfl fld43_1 (r_load1 (.p rfl) rfl ag27 rfl rfl (r_move (.p rfl) rfl ?_)))
                  obtain ⟨v24, a24, b24, h⟩ := idx_bind h
                  refine r_indexo (.p rfl) rfl rfl rfl slc27 sz3 a24 (map_get b24) (r_storee rfl rfl rfl rfl (map_get b24) rfl sz3 rfl (leb rfl) (map_setv eI64 v17.1 _ ((-1))) (r_end ?_))
                  exact sink (v17.1.set (v21).toNat ((-1))) h (sees_mkL (rn [(2022, 2012), (2023, 2013), (2024, 2014), (2025, 2015), (2026, 2016)]) _ _ ⟨rfl, rfl, rfl, rfl, rfl, rfl, rfl, rfl, rfl, rfl, trivial⟩ ⟨rfl, rfl, rfl, rfl, rfl, rfl, rfl, trivial⟩ rfl rfl)
                · have h := cnd_f c23 h
                  refine W_skip ?_
                  exact sink v17.1 h (sees_mkL (rn [(2022, 2012), (2023, 2013), (2024, 2014), (2025, 2015), (2026, 2016)]) _ _ ⟨rfl, rfl, rfl, rfl, rfl, rfl, rfl, rfl, rfl, rfl, trivial⟩ ⟨rfl, rfl, rfl, rfl, rfl, rfl, rfl, trivial⟩ rfl rfl)
              · refine W_region mixed rfl (r_bin (.p rfl) rfl rfl (bin_add _ _ _ _ _ _) rfl (r_move (.p rfl) rfl (r_end ?_)))
                exact sink (v20, (IntKind.wrap .i64 (v17.2 + 1))) h (sees_mkL (rn [(2012, 2022), (2013, 2023), (2014, 2024), (2015, 2025), (2016, 2026)]) _ _ ⟨rfl, rfl, rfl, rfl, rfl, rfl, rfl, rfl, rfl, rfl, trivial⟩ ⟨rfl, rfl, rfl, rfl, rfl, rfl, rfl, trivial⟩ rfl rfl)
            · have h := cnd_f c19 h
              refine W_exit ?_
              exact sink v17.1 h (sees_mkL (rn [(2017, 2012), (2018, 2013), (2019, 2014), (2020, 2015), (2021, 2016)]) _ _ ⟨rfl, rfl, rfl, rfl, rfl, rfl, trivial⟩ ⟨rfl, rfl, rfl, rfl, rfl, rfl, rfl, trivial⟩ rfl rfl)
          · refine W_sees hs (W_region mixed rfl (r_move (.p rfl) rfl (r_loadN (.p rfl) rfl ag43 sz43 rfl rfl rfl (r_see (sees_frz 2017 _ _ rfl rfl) (r_see (sees_frz 2018 _ _ rfl rfl) (r_see (sees_frz 2019 _ _ rfl rfl) (r_buildSlice [(0, .tmp 70, _)] (.p rfl) rfl ⟨rfl, trivial⟩ rfl slc89 sz43 zv43 rfl rfl (leb rfl) rfl rfl ?_)))))))
            obtain ⟨c25, h⟩ := chk_bind h
            refine r_append (.p rfl) rfl (.own _ _ _) ⟨rfl, trivial⟩ rfl (.own _ _ _) ⟨rfl, trivial⟩ rfl slc89 slc89 sz43 byt43 (leb rfl) zv43 rfl (len_lim (f := eApiMix) (g := eApiMix) (xs := v11.1) (ys := (([(ApiMix.mk v14 v18 v16)] : List ApiMix))) c25) (map_app eApiMix v11.1 (([(ApiMix.mk v14 v18 v16)] : List ApiMix))) rfl (r_assign (.p rfl) rfl (r_end (W_region mixed rfl (r_bin (.p rfl) rfl rfl (bin_add _ _ _ _ _ _) rfl (r_move (.p rfl) rfl (r_end ?_))))))
            exact sink (v11.1 ++ (([(ApiMix.mk v14 v18 v16)] : List ApiMix)), (IntKind.wrap .i64 (v11.2 + 1))) h (sees_mkL (rn [(2006, 2020), (2007, 72)]) _ _ ⟨rfl, rfl, rfl, rfl, rfl, trivial⟩ ⟨rfl, rfl, rfl, trivial⟩ rfl rfl)
        · have h := cnd_f c13 h
          refine W_exit ?_
          exact sink v11.1 h (sees_mkL (rn [(2008, 2007)]) _ _ ⟨rfl, trivial⟩ ⟨rfl, trivial⟩ rfl rfl)
      · refine W_sees hs (W_seq (W_region mixed rfl (r_move (.p rfl) rfl (r_assign (.p rfl) rfl (r_assign (.p rfl) rfl (r_end ?_))))))
        obtain rfl := Option.some.inj h
        refine W_sees (sees_mkL (rn [(1000, 2008)]) [(4, .e (.one (.own 1000))), (5, .e (.one (.pure (.val (.int .i64 0)))))] [(1000, .vec 3 (v12.map eApiMix))] ⟨rfl, rfl, trivial⟩ ⟨rfl, trivial⟩ rfl rfl) (W_ret ?_)
        exact ⟨⟨[_, _], ⟨.tmp _ _ rfl, ⟨.tmp _ _ rfl, trivial⟩⟩, rfl⟩, ⟨rfl, trivial⟩⟩
set_option maxRecDepth 10000 in
theorem mix_conflicts_c (N : Nat) (p0 : ApiProblem) (p1 : ApiMix) (r : (List ApiConflict)) (h : Sh.mix_conflicts N p0 p1 = some r) : Contract Try.prog 76 [.e (.agg [.pure (.sl (p0.fVersions.map eI64)), .pure (.sl (p0.fNow.map eI64)), .pure (.sl (p0.fTarget.map eI64)), .pure (.sl (p0.fTables.map eApiTable))]), .e (.agg [.pure (.sl (p1.fBase.map eI64)), .pure (.sl (p1.fNext.map eI64)), .pure (.sl (p1.fHeld.map eU8))])] [(3, r.map eApiConflict)] (.e (.one (.own 0))) := by
  unfold Sh.mix_conflicts at h
  refine contract_of_W (n := 98) (rs := [.tmp 4]) Try.func76 rfl rfl rfl (leb rfl) (leb rfl) rfl fun w0 S0 => ?_
  refine W_seq (W_region mixed rfl (r_box (.p rfl) rfl rfl (r_box (.p rfl) rfl rfl (r_assign (.p rfl) rfl (r_end (W_seq (W_region mixed rfl (r_assign (.p rfl) rfl (r_end (W_seq (W_seq (W_region mixed rfl (r_fieldAddr (.p rfl) rfl fld30_3 (r_load1 (.p rfl) rfl ag28 rfl rfl (r_len (.p rfl) rfl (.sl _) trivial (List.length_map _) slc28 (r_move (.p rfl) rfl (r_end ?_)))))))))))))))))
  refine W_whileE (L := Sh.mix_conflicts_L1 N p0 p1) h (fun v1 => mk [(3, .e (.one (.ptr 3 0))), (5, .e (.one (.own 2001))), (15, .e (.one (.pure (.sl (p0.fTables.map eApiTable))))), (16, .e (.one (.pure (.val (.int .i64 ((p0.fTables.length : Int))))))), (17, .e (.one (.pure (.val (.int .i64 v1.2)))))] [(3, .box [.pure (.sl (p1.fBase.map eI64)), .pure (.sl (p1.fNext.map eI64)), .pure (.sl (p1.fHeld.map eU8))]), (2001, .vec 3 (v1.1.map eApiConflict))]) (fun v2 => mk [(5, .e (.one (.own 2002)))] [(2002, .vec 3 (v2.map eApiConflict))]) (fun _ _ => rfl) ((sees_adopt 5 2013 3 rfl rfl rfl).trans (sees_mkL (rn [(2001, 2013)]) _ _ ⟨rfl, rfl, rfl, rfl, rfl, trivial⟩ ⟨rfl, rfl, trivial⟩ rfl rfl)) (fun j1 n1 v1 h => ?_) (fun v2 s h hs => ?_)
  · unfold Sh.mix_conflicts_L1 at h
    refine W_seq (W_region mixed rfl (r_bin (.p rfl) rfl rfl (bin_lss _ _ _ _ _ _) rfl (r_end (W_seq ?_))))
    refine W_cond rfl (fun c3 => ?_) (fun c3 => ?_)
    · have h := cnd_t c3 h
      refine W_skip (W_seq (W_block (W_seq (W_region mixed rfl (r_move (.p rfl) rfl ?_)))))
      obtain ⟨v4, a4, b4, h⟩ := idx_bind h
      refine r_index (.p rfl) rfl rfl slc28 sz75 a4 (map_get b4) rfl (r_loadrN (.p rfl) rfl ag75 sz75 rfl rfl (r_alloc (.p rfl) zv75 rfl rfl rfl (r_assign (.p rfl) rfl (r_store rfl rfl rfl rfl sz75 rfl (leb rfl) rfl (r_end (W_seq (W_region mixed rfl (r_loadN (.p rfl) rfl ag43 sz43 rfl rfl rfl (r_fieldAddr (.p rfl) rfl fld75_1 (r_load1 (.p rfl) rfl ag3 rfl rfl ?_))))))))))
      obtain ⟨v5, a5, h⟩ := bind_some h
      refine r_call (ds0 := [_, _]) [] (mix_running_c N p1 v4.fFrom v5 a5) (.p rfl) gd99 rfl ⟨rfl, rfl, trivial⟩ rfl rfl rfl (nodupL_spec rfl) trivial rfl (r_loadN (.p rfl) rfl ag43 sz43 rfl rfl rfl (r_fieldAddr (.p rfl) rfl fld75_2 (r_load1 (.p rfl) rfl ag3 rfl rfl ?_)))
      obtain ⟨v6, a6, h⟩ := bind_some h
      refine r_call (ds0 := [_, _]) [] (mix_running_c N p1 v4.fTo v6 a6) (.p rfl) gd99 rfl ⟨rfl, rfl, trivial⟩ rfl rfl rfl (nodupL_spec rfl) trivial rfl (r_assign (.p rfl) rfl (r_assign (.p rfl) rfl ?_))
      refine r_endD (by kernel_rfl) ?_
      refine W_join h (fun v7 => mk [(3, .e (.one (.ptr 3 0))), (5, .e (.one (.own 2003))), (6, .e (.one (.pure (.val (.int .i64 v1.2))))), (7, .e (.one (.ptr 7 0))), (8, .e (.one (.pure (.val (.int .u8 v7))))), (9, .e (.one (.pure (.val (.int .u8 v6))))), (15, .e (.one (.pure (.sl (p0.fTables.map eApiTable))))), (16, .e (.one (.pure (.val (.int .i64 ((p0.fTables.length : Int))))))), (17, .e (.one (.pure (.val (.int .i64 v1.2)))))] [(3, .box [.pure (.sl (p1.fBase.map eI64)), .pure (.sl (p1.fNext.map eI64)), .pure (.sl (p1.fHeld.map eU8))]), (7, .box [.pure (.val (.int .i64 v4.fKind)), .pure (.val (.int .i64 v4.fFrom)), .pure (.val (.int .i64 v4.fTo)), .pure (.val (.bool v4.fAware)), .pure (.sl (v4.fOK.map (eSl eB))), .pure (.sl (v4.fRewrite.map (eSl eB)))]), (2003, .vec 3 (v1.1.map eApiConflict))]) (fun j7 h => ?_) (fun v7 h => ?_)
      · refine W_seq (W_region mixed rfl (r_loadN (.p rfl) rfl ag75 sz75 rfl rfl rfl ?_))
        obtain ⟨v8, a8, h⟩ := bind_some h
        refine r_call (ds0 := [_]) [] (mix_stored_c N v4 v8 a8) (.p rfl) gd74 rfl ⟨rfl, trivial⟩ rfl rfl rfl (nodupL_spec rfl) trivial rfl (r_end ?_)
        refine W_cond rfl (fun c9 => ?_) (fun c9 => ?_)
        · have h := cnd_t c9 h
          refine W_region mixed rfl (r_fieldAddr (.p rfl) rfl fld43_2 (r_load1 (.p rfl) rfl ag41 rfl rfl (r_move (.p rfl) rfl ?_)))
          obtain ⟨v10, a10, b10, h⟩ := idx_bind h
          refine r_index (.p rfl) rfl rfl slc41 sz87 a10 (map_get b10) rfl (r_loadr1 (.p rfl) rfl ag87 rfl (r_assign (.p rfl) rfl (r_end ?_)))
          exact sink v10 h (sees_mkL (rn [(2003, 2001)]) _ _ ⟨rfl, rfl, rfl, rfl, rfl, rfl, rfl, rfl, rfl, trivial⟩ ⟨rfl, rfl, rfl, trivial⟩ rfl rfl)
        · have h := cnd_f c9 h
          refine W_skip ?_
          exact sink v5 h (sees_mkL (rn [(2003, 2001)]) _ _ ⟨rfl, rfl, rfl, rfl, rfl, rfl, rfl, rfl, rfl, trivial⟩ ⟨rfl, rfl, rfl, trivial⟩ rfl rfl)
      · refine W_seq (W_region mixed rfl (r_fieldAddr (.p rfl) rfl fld75_4 (r_load1 (.p rfl) rfl ag73 rfl rfl (r_len (.p rfl) rfl (.sl _) trivial (List.length_map _) slc73 (r_move (.p rfl) rfl (r_end ?_))))))
        refine W_whileE (L := Sh.mix_conflicts_L11 N v1 v4 v6 v7) h (fun v11 => mk [(3, .e (.one (.ptr 3 0))), (5, .e (.one (.own 2004))), (6, .e (.one (.pure (.val (.int .i64 v1.2))))), (7, .e (.one (.ptr 7 0))), (8, .e (.one (.pure (.val (.int .u8 v7))))), (9, .e (.one (.pure (.val (.int .u8 v6))))), (15, .e (.one (.pure (.sl (p0.fTables.map eApiTable))))), (16, .e (.one (.pure (.val (.int .i64 ((p0.fTables.length : Int))))))), (17, .e (.one (.pure (.val (.int .i64 v1.2))))), (39, .e (.one (.pure (.val (.int .i64 ((v4.fOK.length : Int))))))), (40, .e (.one (.pure (.val (.int .i64 v11.2)))))] [(3, .box [.pure (.sl (p1.fBase.map eI64)), .pure (.sl (p1.fNext.map eI64)), .pure (.sl (p1.fHeld.map eU8))]), (7, .box [.pure (.val (.int .i64 v4.fKind)), .pure (.val (.int .i64 v4.fFrom)), .pure (.val (.int .i64 v4.fTo)), .pure (.val (.bool v4.fAware)), .pure (.sl (v4.fOK.map (eSl eB))), .pure (.sl (v4.fRewrite.map (eSl eB)))]), (2004, .vec 3 (v11.1.map eApiConflict))]) (fun v12 => mk [(3, .e (.one (.ptr 3 0))), (5, .e (.one (.own 2005))), (15, .e (.one (.pure (.sl (p0.fTables.map eApiTable))))), (16, .e (.one (.pure (.val (.int .i64 ((p0.fTables.length : Int))))))), (17, .e (.one (.pure (.val (.int .i64 v1.2)))))] [(3, .box [.pure (.sl (p1.fBase.map eI64)), .pure (.sl (p1.fNext.map eI64)), .pure (.sl (p1.fHeld.map eU8))]), (2005, .vec 3 (v12.map eApiConflict))]) (fun _ _ => rfl) (sees_mkL (rn [(2004, 2003)]) _ _ ⟨rfl, rfl, rfl, rfl, rfl, rfl, rfl, rfl, rfl, rfl, rfl, trivial⟩ ⟨rfl, rfl, rfl, trivial⟩ rfl rfl) (fun j11 n11 v11 h => ?_) (fun v12 s h hs => ?_)
        · unfold Sh.mix_conflicts_L11 at h
          refine W_seq (W_region mixed rfl (r_bin (.p rfl) rfl rfl (bin_lss _ _ _ _ _ _) rfl (r_end (W_seq ?_))))
          refine W_cond rfl (fun c13 => ?_) (fun c13 => ?_)
          · have h := cnd_t c13 h
            refine W_skip ?_
            refine W_join h (fun v14 => mk [(3, .e (.one (.ptr 3 0))), (5, .e (.one (.own 2006))), (6, .e (.one (.pure (.val (.int .i64 v1.2))))), (7, .e (.one (.ptr 7 0))), (8, .e (.one (.pure (.val (.int .u8 v7))))), (9, .e (.one (.pure (.val (.int .u8 v6))))), (15, .e (.one (.pure (.sl (p0.fTables.map eApiTable))))), (16, .e (.one (.pure (.val (.int .i64 ((p0.fTables.length : Int))))))), (17, .e (.one (.pure (.val (.int .i64 v1.2))))), (39, .e (.one (.pure (.val (.int .i64 ((v4.fOK.length : Int))))))), (40, .e (.one (.pure (.val (.int .i64 v11.2)))))] [(3, .box [.pure (.sl (p1.fBase.map eI64)), .pure (.sl (p1.fNext.map eI64)), .pure (.sl (p1.fHeld.map eU8))]), (7, .box [.pure (.val (.int .i64 v4.fKind)), .pure (.val (.int .i64 v4.fFrom)), .pure (.val (.int .i64 v4.fTo)), .pure (.val (.bool v4.fAware)), .pure (.sl (v4.fOK.map (eSl eB))), .pure (.sl (v4.fRewrite.map (eSl eB)))]), (2006, .vec 3 (v14.map eApiConflict))]) (fun j14 h => ?_) (fun v14 h => ?_)
            · refine W_block (W_seq (W_region mixed rfl (r_move (.p rfl) rfl (r_assign (.p rfl) rfl (r_end (W_seq (W_seq (W_region mixed rfl (r_move (.p rfl) rfl (r_move (.p rfl) rfl ?_))))))))))
              obtain ⟨c15, h⟩ := chk_bind h
              refine r_bin (.p rfl) rfl rfl (bin_shr _ _ _ _ _ _ _ c15) rfl (r_bin (.p rfl) rfl rfl (bin_and _ _ _ _ _ _) rfl (r_bin (.p rfl) rfl rfl (bin_eql _ _ _ _ _ _) rfl (r_end ?_)))
              refine W_cond rfl (fun c16 => ?_) (fun c16 => ?_)
              · have h := cnd_t c16 h
                refine W_exit ?_
                exact sink v11.1 h (sees_mkL (rn [(2006, 2004)]) _ _ ⟨rfl, rfl, rfl, rfl, rfl, rfl, rfl, rfl, rfl, rfl, rfl, trivial⟩ ⟨rfl, rfl, rfl, trivial⟩ rfl rfl)
              · have h := cnd_f c16 h
                refine W_skip (W_seq (W_region mixed rfl (r_assign (.p rfl) rfl (r_end (W_seq (W_seq (W_region mixed rfl (r_fieldAddr (.p rfl) rfl fld75_4 (r_load1 (.p rfl) rfl ag73 rfl rfl (r_move (.p rfl) rfl ?_))))))))))
                obtain ⟨v17, a17, b17, h⟩ := idx_bind h
                refine r_index (.p rfl) rfl rfl slc73 sz76 a17 (map_get b17) rfl (r_loadr1 (.p rfl) rfl ag76 rfl (r_len (.p rfl) rfl (.sl _) trivial (List.length_map _) slc76 (r_move (.p rfl) rfl (r_end ?_))))
                refine W_whileE (L := Sh.mix_conflicts_L18 N v1 v4 v6 v11 v17) h (fun v18 => mk [(3, .e (.one (.ptr 3 0))), (5, .e (.one (.own 2007))), (6, .e (.one (.pure (.val (.int .i64 v1.2))))), (7, .e (.one (.ptr 7 0))), (8, .e (.one (.pure (.val (.int .u8 v7))))), (9, .e (.one (.pure (.val (.int .u8 v6))))), (10, .e (.one (.pure (.val (.int .i64 v11.2))))), (11, .e (.one (.pure (.val (.bool v18.2.1))))), (15, .e (.one (.pure (.sl (p0.fTables.map eApiTable))))), (16, .e (.one (.pure (.val (.int .i64 ((p0.fTables.length : Int))))))), (17, .e (.one (.pure (.val (.int .i64 v1.2))))), (39, .e (.one (.pure (.val (.int .i64 ((v4.fOK.length : Int))))))), (40, .e (.one (.pure (.val (.int .i64 v11.2))))), (52, .e (.one (.pure (.sl (v17.map eB))))), (53, .e (.one (.pure (.val (.int .i64 ((v17.length : Int))))))), (54, .e (.one (.pure (.val (.int .i64 v18.2.2)))))] [(3, .box [.pure (.sl (p1.fBase.map eI64)), .pure (.sl (p1.fNext.map eI64)), .pure (.sl (p1.fHeld.map eU8))]), (7, .box [.pure (.val (.int .i64 v4.fKind)), .pure (.val (.int .i64 v4.fFrom)), .pure (.val (.int .i64 v4.fTo)), .pure (.val (.bool v4.fAware)), .pure (.sl (v4.fOK.map (eSl eB))), .pure (.sl (v4.fRewrite.map (eSl eB)))]), (2007, .vec 3 (v18.1.map eApiConflict))]) (fun v19 => mk [(3, .e (.one (.ptr 3 0))), (5, .e (.one (.own 2008))), (6, .e (.one (.pure (.val (.int .i64 v1.2))))), (7, .e (.one (.ptr 7 0))), (8, .e (.one (.pure (.val (.int .u8 v7))))), (9, .e (.one (.pure (.val (.int .u8 v6))))), (10, .e (.one (.pure (.val (.int .i64 v11.2))))), (11, .e (.one (.pure (.val (.bool v19.2))))), (15, .e (.one (.pure (.sl (p0.fTables.map eApiTable))))), (16, .e (.one (.pure (.val (.int .i64 ((p0.fTables.length : Int))))))), (17, .e (.one (.pure (.val (.int .i64 v1.2))))), (39, .e (.one (.pure (.val (.int .i64 ((v4.fOK.length : Int))))))), (40, .e (.one (.pure (.val (.int .i64 v11.2)))))] [(3, .box [.pure (.sl (p1.fBase.map eI64)), .pure (.sl (p1.fNext.map eI64)), .pure (.sl (p1.fHeld.map eU8))]), (7, .box [.pure (.val (.int .i64 v4.fKind)), .pure (.val (.int .i64 v4.fFrom)), .pure (.val (.int .i64 v4.fTo)), .pure (.val (.bool v4.fAware)), .pure (.sl (v4.fOK.map (eSl eB))), .pure (.sl (v4.fRewrite.map (eSl eB)))]), (2008, .vec 3 (v19.1.map eApiConflict))]) (fun _ _ => rfl) (sees_mkL (rn [(2007, 2004)]) _ _ ⟨rfl, rfl, rfl, rfl, rfl, rfl, rfl, rfl, rfl, rfl, rfl, rfl, rfl, rfl, rfl, rfl, trivial⟩ ⟨rfl, rfl, rfl, trivial⟩ rfl rfl) (fun j18 n18 v18 h => ?_) (fun v19 s h hs => ?_)
                · unfold Sh.mix_conflicts_L18 at h
                  refine W_seq (W_region mixed rfl (r_bin (.p rfl) rfl rfl (bin_lss _ _ _ _ _ _) rfl (r_end (W_seq ?_))))
                  refine W_cond rfl (fun c20 => ?_) (fun c20 => ?_)
                  · have h := cnd_t c20 h
                    refine W_skip ?_
                    refine W_join h (fun v21 => mk [(3, .e (.one (.ptr 3 0))), (5, .e (.one (.own 2009))), (6, .e (.one (.pure (.val (.int .i64 v1.2))))), (7, .e (.one (.ptr 7 0))), (8, .e (.one (.pure (.val (.int .u8 v7))))), (9, .e (.one (.pure (.val (.int .u8 v6))))), (10, .e (.one (.pure (.val (.int .i64 v11.2))))), (11, .e (.one (.pure (.val (.bool v21.2))))), (15, .e (.one (.pure (.sl (p0.fTables.map eApiTable))))), (16, .e (.one (.pure (.val (.int .i64 ((p0.fTables.length : Int))))))), (17, .e (.one (.pure (.val (.int .i64 v1.2))))), (39, .e (.one (.pure (.val (.int .i64 ((v4.fOK.length : Int))))))), (40, .e (.one (.pure (.val (.int .i64 v11.2))))), (52, .e (.one (.pure (.sl (v17.map eB))))), (53, .e (.one (.pure (.val (.int .i64 ((v17.length : Int))))))), (54, .e (.one (.pure (.val (.int .i64 v18.2.2)))))] [(3, .box [.pure (.sl (p1.fBase.map eI64)), .pure (.sl (p1.fNext.map eI64)), .pure (.sl (p1.fHeld.map eU8))]), (7, .box [.pure (.val (.int .i64 v4.fKind)), .pure (.val (.int .i64 v4.fFrom)), .pure (.val (.int .i64 v4.fTo)), .pure (.val (.bool v4.fAware)), .pure (.sl (v4.fOK.map (eSl eB))), .pure (.sl (v4.fRewrite.map (eSl eB)))]), (2009, .vec 3 (v21.1.map eApiConflict))]) (fun j21 h => ?_) (fun v21 h => ?_)
                    · refine W_block (W_seq (W_region mixed rfl (r_move (.p rfl) rfl ?_)))
                      obtain ⟨v22, a22, b22, h⟩ := idx_bind h
                      refine r_index (.p rfl) rfl rfl slc76 sz4 a22 (map_get b22) rfl (r_loadr1 (.p rfl) rfl ag4 rfl (r_assign (.p rfl) rfl (r_assign (.p rfl) rfl (r_end (W_seq (W_seq (W_region mixed rfl (r_move (.p rfl) rfl (r_move (.p rfl) rfl ?_)))))))))
                      obtain ⟨c23, h⟩ := chk_bind h
                      refine r_bin (.p rfl) rfl rfl (bin_shr _ _ _ _ _ _ _ c23) rfl (r_bin (.p rfl) rfl rfl (bin_and _ _ _ _ _ _) rfl (r_bin (.p rfl) rfl rfl (bin_eql _ _ _ _ _ _) rfl (r_end ?_)))
                      refine W_cond rfl (fun c24 => ?_) (fun c24 => ?_)
                      · have h := cnd_t c24 h
                        refine W_exit ?_
                        exact sink (v18.1, v18.2.1) h (sees_mkL (rn [(2009, 2007)]) _ _ ⟨rfl, rfl, rfl, rfl, rfl, rfl, rfl, rfl, rfl, rfl, rfl, rfl, rfl, rfl, rfl, rfl, trivial⟩ ⟨rfl, rfl, rfl, trivial⟩ rfl rfl)
                      · have h := cnd_f c24 h
                        refine W_skip ?_
                        refine W_join h (fun v25 => mk [(3, .e (.one (.ptr 3 0))), (5, .e (.one (.own 2010))), (6, .e (.one (.pure (.val (.int .i64 v1.2))))), (7, .e (.one (.ptr 7 0))), (8, .e (.one (.pure (.val (.int .u8 v7))))), (9, .e (.one (.pure (.val (.int .u8 v6))))), (10, .e (.one (.pure (.val (.int .i64 v11.2))))), (11, .e (.one (.pure (.val (.bool v25))))), (12, .e (.one (.pure (.val (.int .i64 v18.2.2))))), (13, .e (.one (.pure (.val (.bool v22))))), (15, .e (.one (.pure (.sl (p0.fTables.map eApiTable))))), (16, .e (.one (.pure (.val (.int .i64 ((p0.fTables.length : Int))))))), (17, .e (.one (.pure (.val (.int .i64 v1.2))))), (39, .e (.one (.pure (.val (.int .i64 ((v4.fOK.length : Int))))))), (40, .e (.one (.pure (.val (.int .i64 v11.2))))), (52, .e (.one (.pure (.sl (v17.map eB))))), (53, .e (.one (.pure (.val (.int .i64 ((v17.length : Int))))))), (54, .e (.one (.pure (.val (.int .i64 v18.2.2)))))] [(3, .box [.pure (.sl (p1.fBase.map eI64)), .pure (.sl (p1.fNext.map eI64)), .pure (.sl (p1.fHeld.map eU8))]), (7, .box [.pure (.val (.int .i64 v4.fKind)), .pure (.val (.int .i64 v4.fFrom)), .pure (.val (.int .i64 v4.fTo)), .pure (.val (.bool v4.fAware)), .pure (.sl (v4.fOK.map (eSl eB))), .pure (.sl (v4.fRewrite.map (eSl eB)))]), (2010, .vec 3 (v18.1.map eApiConflict))]) (fun j25 h => ?_) (fun v25 h => ?_)
                        · refine W_region mixed rfl (r_move (.p rfl) rfl (r_move (.p rfl) rfl ?_))
                          refine r_split (t := 65) rfl (fun c26 => ?_) (fun c26 => ?_)
                          · have h := cnd_t c26 h
                            refine r_notB rfl rfl (r_pick (.p rfl) rfl rfl rfl (r_assign (.p rfl) rfl (r_end ?_)))
                            exact sink true h (sees_mkL (rn [(2010, 2007)]) _ _ ⟨rfl, rfl, rfl, rfl, rfl, rfl, rfl, rfl, rfl, rfl, rfl, rfl, rfl, rfl, rfl, rfl, rfl, rfl, trivial⟩ ⟨rfl, rfl, rfl, trivial⟩ rfl rfl)
                          · have h := cnd_f c26 h
                            refine r_move (.g rfl rfl) rfl (r_pick (.p rfl) rfl rfl rfl (r_assign (.p rfl) rfl (r_end ?_)))
                            exact sink v22 h (sees_mkL (rn [(2010, 2007)]) _ _ ⟨rfl, rfl, rfl, rfl, rfl, rfl, rfl, rfl, rfl, rfl, rfl, rfl, rfl, rfl, rfl, rfl, rfl, rfl, trivial⟩ ⟨rfl, rfl, rfl, trivial⟩ rfl rfl)
                        · refine W_join h (fun v27 => mk [(3, .e (.one (.ptr 3 0))), (5, .e (.one (.own 2011))), (6, .e (.one (.pure (.val (.int .i64 v1.2))))), (7, .e (.one (.ptr 7 0))), (8, .e (.one (.pure (.val (.int .u8 v7))))), (9, .e (.one (.pure (.val (.int .u8 v6))))), (10, .e (.one (.pure (.val (.int .i64 v11.2))))), (11, .e (.one (.pure (.val (.bool v25))))), (12, .e (.one (.pure (.val (.int .i64 v18.2.2))))), (15, .e (.one (.pure (.sl (p0.fTables.map eApiTable))))), (16, .e (.one (.pure (.val (.int .i64 ((p0.fTables.length : Int))))))), (17, .e (.one (.pure (.val (.int .i64 v1.2))))), (39, .e (.one (.pure (.val (.int .i64 ((v4.fOK.length : Int))))))), (40, .e (.one (.pure (.val (.int .i64 v11.2))))), (52, .e (.one (.pure (.sl (v17.map eB))))), (53, .e (.one (.pure (.val (.int .i64 ((v17.length : Int))))))), (54, .e (.one (.pure (.val (.int .i64 v18.2.2))))), (74, .e (.one (.pure (.val (.bool v27)))))] [(3, .box [.pure (.sl (p1.fBase.map eI64)), .pure (.sl (p1.fNext.map eI64)), .pure (.sl (p1.fHeld.map eU8))]), (7, .box [.pure (.val (.int .i64 v4.fKind)), .pure (.val (.int .i64 v4.fFrom)), .pure (.val (.int .i64 v4.fTo)), .pure (.val (.bool v4.fAware)), .pure (.sl (v4.fOK.map (eSl eB))), .pure (.sl (v4.fRewrite.map (eSl eB)))]), (2011, .vec 3 (v18.1.map eApiConflict))]) (fun j27 h => ?_) (fun v27 h => ?_)
                          · refine W_region mixed rfl (r_move (.p rfl) rfl (r_un (.p rfl) rfl (un_not _) rfl (r_move (.p rfl) rfl ?_)))
                            refine r_split (t := 70) rfl (fun c28 => ?_) (fun c28 => ?_)
                            · have h := cnd_t c28 h
                              refine r_fieldAddr (.g rfl rfl) rfl fld75_3 (r_load1 (.g rfl rfl) rfl ag4 rfl rfl (r_un (.g rfl rfl) rfl (un_not _) rfl (r_pick (.p rfl) rfl rfl rfl (r_end ?_))))
                              exact sink (!v4.fAware) h (sees_mkL (rn [(2011, 2010)]) _ _ ⟨rfl, rfl, rfl, rfl, rfl, rfl, rfl, rfl, rfl, rfl, rfl, rfl, rfl, rfl, rfl, rfl, rfl, rfl, trivial⟩ ⟨rfl, rfl, rfl, trivial⟩ rfl rfl)
                            · have h := cnd_f c28 h
                              refine r_notB rfl rfl (r_notB rfl rfl (r_notB rfl rfl (r_pick (.p rfl) rfl rfl rfl (r_end ?_))))
                              exact sink false h (sees_mkL (rn [(2011, 2010)]) _ _ ⟨rfl, rfl, rfl, rfl, rfl, rfl, rfl, rfl, rfl, rfl, rfl, rfl, rfl, rfl, rfl, rfl, rfl, rfl, trivial⟩ ⟨rfl, rfl, rfl, trivial⟩ rfl rfl)
                          · refine W_cond rfl (fun c29 => ?_) (fun c29 => ?_)
                            · have h := cnd_t c29 h
                              refine W_region mixed rfl (r_move (.p rfl) rfl (r_move (.p rfl) rfl (r_move (.p rfl) rfl (r_move (.p rfl) rfl (r_build [(0, .tmp 76, _), (1, .tmp 77, _), (2, .tmp 78, _)] (.p rfl) rfl ⟨rfl, rfl, rfl, trivial⟩ zv45 rfl rfl pl45 rfl (r_buildSlice [(0, .tmp 79, _)] (.p rfl) rfl ⟨rfl, trivial⟩ rfl slc118 sz45 zv45 rfl rfl (leb rfl) rfl rfl ?_))))))
                              obtain ⟨c30, h⟩ := chk_bind h
                              refine r_append (.p rfl) rfl (.own _ _ _) ⟨rfl, trivial⟩ rfl (.own _ _ _) ⟨rfl, trivial⟩ rfl slc118 slc118 sz45 byt45 (leb rfl) zv45 rfl (len_lim (f := eApiConflict) (g := eApiConflict) (xs := v18.1) (ys := (([(ApiConflict.mk v1.2 v11.2 v18.2.2)] : List ApiConflict))) c30) (map_app eApiConflict v18.1 (([(ApiConflict.mk v1.2 v11.2 v18.2.2)] : List ApiConflict))) rfl (r_assign (.p rfl) rfl (r_end ?_))
                              exact sink (v18.1 ++ (([(ApiConflict.mk v1.2 v11.2 v18.2.2)] : List ApiConflict)), v25) h (sees_mkL (rn [(2009, 81)]) _ _ ⟨rfl, rfl, rfl, rfl, rfl, rfl, rfl, rfl, rfl, rfl, rfl, rfl, rfl, rfl, rfl, rfl, trivial⟩ ⟨rfl, rfl, rfl, trivial⟩ rfl rfl)
                            · have h := cnd_f c29 h
                              refine W_skip ?_
                              exact sink (v18.1, v25) h (sees_mkL (rn [(2009, 2011)]) _ _ ⟨rfl, rfl, rfl, rfl, rfl, rfl, rfl, rfl, rfl, rfl, rfl, rfl, rfl, rfl, rfl, rfl, trivial⟩ ⟨rfl, rfl, rfl, trivial⟩ rfl rfl)
                    · refine W_region mixed rfl (r_bin (.p rfl) rfl rfl (bin_add _ _ _ _ _ _) rfl (r_move (.p rfl) rfl (r_end ?_)))
                      exact sink (v21.1, v21.2, (IntKind.wrap .i64 (v18.2.2 + 1))) h (sees_mkL (rn [(2007, 2009)]) _ _ ⟨rfl, rfl, rfl, rfl, rfl, rfl, rfl, rfl, rfl, rfl, rfl, rfl, rfl, rfl, rfl, rfl, trivial⟩ ⟨rfl, rfl, rfl, trivial⟩ rfl rfl)
                  · have h := cnd_f c20 h
                    refine W_exit ?_
                    exact sink (v18.1, v18.2.1) h (sees_mkL (rn [(2008, 2007)]) _ _ ⟨rfl, rfl, rfl, rfl, rfl, rfl, rfl, rfl, rfl, rfl, rfl, rfl, rfl, trivial⟩ ⟨rfl, rfl, rfl, trivial⟩ rfl rfl)
                · refine W_sees hs ?_
                  refine W_join h (fun v31 => mk [(3, .e (.one (.ptr 3 0))), (5, .e (.one (.own 2012))), (6, .e (.one (.pure (.val (.int .i64 v1.2))))), (7, .e (.one (.ptr 7 0))), (8, .e (.one (.pure (.val (.int .u8 v7))))), (9, .e (.one (.pure (.val (.int .u8 v6))))), (10, .e (.one (.pure (.val (.int .i64 v11.2))))), (15, .e (.one (.pure (.sl (p0.fTables.map eApiTable))))), (16, .e (.one (.pure (.val (.int .i64 ((p0.fTables.length : Int))))))), (17, .e (.one (.pure (.val (.int .i64 v1.2))))), (39, .e (.one (.pure (.val (.int .i64 ((v4.fOK.length : Int))))))), (40, .e (.one (.pure (.val (.int .i64 v11.2))))), (88, .e (.one (.pure (.val (.bool v31)))))] [(3, .box [.pure (.sl (p1.fBase.map eI64)), .pure (.sl (p1.fNext.map eI64)), .pure (.sl (p1.fHeld.map eU8))]), (7, .box [.pure (.val (.int .i64 v4.fKind)), .pure (.val (.int .i64 v4.fFrom)), .pure (.val (.int .i64 v4.fTo)), .pure (.val (.bool v4.fAware)), .pure (.sl (v4.fOK.map (eSl eB))), .pure (.sl (v4.fRewrite.map (eSl eB)))]), (2012, .vec 3 (v19.1.map eApiConflict))]) (fun j31 h => ?_) (fun v31 h => ?_)
                  · refine W_region mixed rfl (r_fieldAddr (.p rfl) rfl fld75_3 (r_load1 (.p rfl) rfl ag4 rfl rfl (r_move (.p rfl) rfl ?_)))
                    refine r_split (t := 85) rfl (fun c32 => ?_) (fun c32 => ?_)
                    · have h := cnd_t c32 h
                      refine r_move (.g rfl rfl) rfl (r_un (.g rfl rfl) rfl (un_not _) rfl (r_pick (.p rfl) rfl rfl rfl (r_end ?_)))
                      exact sink (!v19.2) h (sees_mkL (rn [(2012, 2008)]) _ _ ⟨rfl, rfl, rfl, rfl, rfl, rfl, rfl, rfl, rfl, rfl, rfl, rfl, rfl, trivial⟩ ⟨rfl, rfl, rfl, trivial⟩ rfl rfl)
                    · have h := cnd_f c32 h
                      refine r_notB rfl rfl (r_notB rfl rfl (r_pick (.p rfl) rfl rfl rfl (r_end ?_)))
                      exact sink false h (sees_mkL (rn [(2012, 2008)]) _ _ ⟨rfl, rfl, rfl, rfl, rfl, rfl, rfl, rfl, rfl, rfl, rfl, rfl, rfl, trivial⟩ ⟨rfl, rfl, rfl, trivial⟩ rfl rfl)
                  · refine W_cond rfl (fun c33 => ?_) (fun c33 => ?_)
                    · have h := cnd_t c33 h
                      refine W_region mixed rfl (r_move (.p rfl) rfl (r_move (.p rfl) rfl (r_move (.p rfl) rfl (r_build [(0, .tmp 90, _), (1, .tmp 91, _), (2, .const (.int .i64 (-1)), _)] (.p rfl) rfl ⟨rfl, rfl, rfl, trivial⟩ zv45 rfl rfl pl45 rfl (r_buildSlice [(0, .tmp 92, _)] (.p rfl) rfl ⟨rfl, trivial⟩ rfl slc118 sz45 zv45 rfl rfl (leb rfl) rfl rfl ?_)))))
                      obtain ⟨c34, h⟩ := chk_bind h
                      refine r_append (.p rfl) rfl (.own _ _ _) ⟨rfl, trivial⟩ rfl (.own _ _ _) ⟨rfl, trivial⟩ rfl slc118 slc118 sz45 byt45 (leb rfl) zv45 rfl (len_lim (f := eApiConflict) (g := eApiConflict) (xs := v19.1) (ys := (([(ApiConflict.mk v1.2 v11.2 ((-1)))] : List ApiConflict))) c34) (map_app eApiConflict v19.1 (([(ApiConflict.mk v1.2 v11.2 ((-1)))] : List ApiConflict))) rfl (r_assign (.p rfl) rfl (r_end ?_))
                      exact sink (v19.1 ++ (([(ApiConflict.mk v1.2 v11.2 ((-1)))] : List ApiConflict))) h (sees_mkL (rn [(2006, 94)]) _ _ ⟨rfl, rfl, rfl, rfl, rfl, rfl, rfl, rfl, rfl, rfl, rfl, trivial⟩ ⟨rfl, rfl, rfl, trivial⟩ rfl rfl)
                    · have h := cnd_f c33 h
                      refine W_skip ?_
                      exact sink v19.1 h (sees_mkL (rn [(2006, 2012)]) _ _ ⟨rfl, rfl, rfl, rfl, rfl, rfl, rfl, rfl, rfl, rfl, rfl, trivial⟩ ⟨rfl, rfl, rfl, trivial⟩ rfl rfl)
            · refine W_region mixed rfl (r_bin (.p rfl) rfl rfl (bin_add _ _ _ _ _ _) rfl (r_move (.p rfl) rfl (r_end ?_)))
              exact sink (v14, (IntKind.wrap .i64 (v11.2 + 1))) h (sees_mkL (rn [(2004, 2006)]) _ _ ⟨rfl, rfl, rfl, rfl, rfl, rfl, rfl, rfl, rfl, rfl, rfl, trivial⟩ ⟨rfl, rfl, rfl, trivial⟩ rfl rfl)
          · have h := cnd_f c13 h
            refine W_exit ?_
            exact sink v11.1 h (sees_mkL (rn [(2005, 2004)]) _ _ ⟨rfl, rfl, rfl, rfl, rfl, trivial⟩ ⟨rfl, rfl, trivial⟩ rfl rfl)
        · refine W_sees hs (W_region mixed rfl (r_bin (.p rfl) rfl rfl (bin_add _ _ _ _ _ _) rfl (r_move (.p rfl) rfl (r_end ?_))))
          exact sink (v12, (IntKind.wrap .i64 (v1.2 + 1))) h (sees_mkL (rn [(2001, 2005)]) _ _ ⟨rfl, rfl, rfl, rfl, rfl, trivial⟩ ⟨rfl, rfl, trivial⟩ rfl rfl)
    · have h := cnd_f c3 h
      refine W_exit ?_
      exact sink v1.1 h (sees_mkL (rn [(2002, 2001)]) _ _ ⟨rfl, trivial⟩ ⟨rfl, trivial⟩ rfl rfl)
  · refine W_sees hs (W_seq (W_region mixed rfl (r_move (.p rfl) rfl (r_assign (.p rfl) rfl (r_end ?_)))))
    obtain rfl := Option.some.inj h
    refine W_sees (sees_mkL (rn [(1000, 2002)]) [(4, .e (.one (.own 1000)))] [(1000, .vec 3 (v2.map eApiConflict))] ⟨rfl, trivial⟩ ⟨rfl, trivial⟩ rfl rfl) (W_ret ?_)
    exact ⟨⟨[_], ⟨.tmp _ _ rfl, trivial⟩, rfl⟩, ⟨rfl, trivial⟩⟩
set_option maxRecDepth 10000 in
theorem mix_Blame_c (N : Nat) (p0 : ApiProblem) (p1 : ApiMix) (r : ApiMix × ApiConflict × Int) (h : Sh.mix_Blame N p0 p1 = some r) : Contract Try.prog 38 [.e (.agg [.pure (.sl (p0.fVersions.map eI64)), .pure (.sl (p0.fNow.map eI64)), .pure (.sl (p0.fTarget.map eI64)), .pure (.sl (p0.fTables.map eApiTable))]), .e (.agg [.pure (.sl (p1.fBase.map eI64)), .pure (.sl (p1.fNext.map eI64)), .pure (.sl (p1.fHeld.map eU8))])] [] (.tup [.agg [.pure (.sl (r.1.fBase.map eI64)), .pure (.sl (r.1.fNext.map eI64)), .pure (.sl (r.1.fHeld.map eU8))], .agg [.pure (.val (.int .i64 r.2.1.fTable)), .pure (.val (.int .i64 r.2.1.fWriter)), .pure (.val (.int .i64 r.2.1.fReader))], .one (.pure (.val (.int .i64 r.2.2)))]) := by
  unfold Sh.mix_Blame at h
  refine contract_of_W (n := 42) (rs := [.cell 4 43, .cell 5 45, .tmp 6]) Try.func38 rfl rfl rfl (leb rfl) (leb rfl) rfl fun w0 S0 => ?_
  refine W_seq (W_region mixed rfl (r_box (.p rfl) rfl rfl (r_box (.p rfl) rfl rfl (r_alloc (.p rfl) zv43 rfl rfl rfl (r_alloc (.p rfl) zv45 rfl rfl rfl (r_assign (.p rfl) rfl (r_end (W_seq (W_region mixed rfl (r_loadN (.p rfl) rfl ag30 sz30 rfl rfl rfl (r_loadN (.p rfl) rfl ag43 sz43 rfl rfl rfl ?_)))))))))))
  obtain ⟨v1, a1, h⟩ := bind_some h
  refine r_call (ds0 := [_, _]) [2001] (mix_Aborts_c N p0 p1 v1 a1) (.p rfl) gd75 rfl ⟨rfl, rfl, trivial⟩ rfl rfl rfl (nodupL_spec rfl) ⟨rfl, trivial⟩ rfl (r_move (.p rfl) rfl (r_extract (.p rfl) rfl rfl (r_extract (.p rfl) rfl rfl (r_assign (.p rfl) rfl (r_assign (.p rfl) rfl (r_end (W_seq (W_seq (W_region mixed rfl (r_move (.p rfl) rfl (r_bin (.p rfl) rfl rfl (bin_neq _ _ _ _ _ _) rfl (r_end ?_))))))))))))
  refine W_cond rfl (fun c2 => ?_) (fun c2 => ?_)
  · have h := cnd_t c2 h
    refine W_seq (W_region mixed rfl (r_build [] (.p rfl) rfl trivial zv43 rfl rfl pl43 rfl (r_build [] (.p rfl) rfl trivial zv45 rfl rfl pl45 rfl (r_move (.p rfl) rfl (r_store rfl rfl rfl rfl sz43 rfl (leb rfl) rfl (r_store rfl rfl rfl rfl sz45 rfl (leb rfl) rfl (r_assign (.p rfl) rfl (r_end ?_))))))))
    obtain rfl := Option.some.inj h
    refine W_sees ((sees_nrmB 4 _ rfl).trans (sees_mkL (rn []) [(4, .e (.one (.ptr 4 0))), (5, .e (.one (.ptr 5 0))), (6, .e (.one (.pure (.val (.int .i64 v1.2)))))] [(4, .box [.pure (.sl ((([] : List Int)).map eI64)), .pure (.sl ((([] : List Int)).map eI64)), .pure (.sl ((([] : List Int)).map eU8))]), (5, .box [.pure (.val (.int .i64 0)), .pure (.val (.int .i64 0)), .pure (.val (.int .i64 0))])] ⟨rfl, rfl, rfl, trivial⟩ ⟨rfl, rfl, trivial⟩ rfl rfl)) (W_ret ?_)
    exact ⟨⟨[_, _, _], ⟨.cellN _ _ _ _ _ _ _ rfl rfl ag43 sz43 rfl rfl (ltb rfl), ⟨.cellN _ _ _ _ _ _ _ rfl rfl ag45 sz45 rfl rfl (ltb rfl), ⟨.tmp _ _ rfl, trivial⟩⟩⟩, rfl⟩, trivial⟩
  · have h := cnd_f c2 h
    refine W_skip (W_seq (W_seq (W_region mixed rfl (r_move (.p rfl) rfl (r_len (.p rfl) rfl (.own _ _ _) ⟨rfl, trivial⟩ (List.length_map _) slc89 (r_move (.p rfl) rfl (r_end ?_)))))))
    refine W_whileE (L := Sh.mix_Blame_L3 N p0 v1) h (fun v3 => mk [(2, .e (.one (.ptr 2 0))), (4, .e (.one (.ptr 4 0))), (5, .e (.one (.ptr 5 0))), (23, .e (.one (.own 2002))), (24, .e (.one (.pure (.val (.int .i64 ((v1.1.length : Int))))))), (25, .e (.one (.pure (.val (.int .i64 v3)))))] [(2, .box [.pure (.sl (p0.fVersions.map eI64)), .pure (.sl (p0.fNow.map eI64)), .pure (.sl (p0.fTarget.map eI64)), .pure (.sl (p0.fTables.map eApiTable))]), (4, .box [.pure (.nil0), .pure (.nil0), .pure (.nil0)]), (5, .box [.pure (.val (.int .i64 0)), .pure (.val (.int .i64 0)), .pure (.val (.int .i64 0))]), (2002, .vec 3 (v1.1.map eApiMix))]) (fun v4 => mk [(4, .e (.one (.ptr 4 0))), (5, .e (.one (.ptr 5 0)))] [(4, .box [.pure (.nil0), .pure (.nil0), .pure (.nil0)]), (5, .box [.pure (.val (.int .i64 0)), .pure (.val (.int .i64 0)), .pure (.val (.int .i64 0))])]) (fun _ _ => rfl) (sees_mkL (rn [(2002, 2001)]) _ _ ⟨rfl, rfl, rfl, rfl, rfl, rfl, trivial⟩ ⟨rfl, rfl, rfl, rfl, trivial⟩ rfl rfl) (fun j3 n3 v3 h => ?_) (fun v4 s h hs => ?_)
    · unfold Sh.mix_Blame_L3 at h
      refine W_seq (W_region mixed rfl (r_bin (.p rfl) rfl rfl (bin_lss _ _ _ _ _ _) rfl (r_end (W_seq ?_))))
      refine W_cond rfl (fun c5 => ?_) (fun c5 => ?_)
      · have h := cnd_t c5 h
        refine W_skip (W_seq (W_block (W_seq (W_region mixed rfl ?_))))
        obtain ⟨v6, a6, b6, h⟩ := idx_bind h
        refine r_indexo (.p rfl) rfl rfl rfl slc89 sz43 a6 (map_get b6) (r_loadeN (.p rfl) rfl ag43 sz43 rfl (map_get b6) (r_alloc (.p rfl) zv43 rfl rfl rfl (r_store rfl rfl rfl rfl sz43 rfl (leb rfl) rfl (r_end (W_seq (W_region mixed rfl (r_loadN (.p rfl) rfl ag30 sz30 rfl rfl rfl (r_loadN (.p rfl) rfl ag43 sz43 rfl rfl rfl ?_))))))))
        obtain ⟨v7, a7, h⟩ := bind_some h
        refine r_call (ds0 := [_, _]) [2003] (mix_conflicts_c N p0 v6 v7 a7) (.p rfl) gd76 rfl ⟨rfl, rfl, trivial⟩ rfl rfl rfl (nodupL_spec rfl) ⟨rfl, trivial⟩ rfl (r_assign (.p rfl) rfl (r_end (W_seq (W_region mixed rfl (r_move (.p rfl) rfl (r_len (.p rfl) rfl (.own _ _ _) ⟨rfl, trivial⟩ (List.length_map _) slc118 (r_bin (.p rfl) rfl rfl (bin_gtr _ _ _ _ _ _) rfl (r_end ?_))))))))
        refine W_cond rfl (fun c8 => ?_) (fun c8 => ?_)
        · have h := cnd_t c8 h
          refine W_seq (W_region mixed rfl (r_loadN (.p rfl) rfl ag43 sz43 rfl rfl rfl (r_move (.p rfl) rfl ?_)))
          obtain ⟨v9, a9, b9, h⟩ := idx_bind h
          refine r_indexo (.p rfl) rfl rfl rfl slc118 sz45 a9 (map_get b9) (r_loadeN (.p rfl) rfl ag45 sz45 rfl (map_get b9) (r_store rfl rfl rfl rfl sz43 rfl (leb rfl) rfl (r_store rfl rfl rfl rfl sz45 rfl (leb rfl) rfl (r_assign (.p rfl) rfl ?_))))
          refine r_endD (by kernel_rfl) ?_
          obtain rfl := Option.some.inj h
          refine W_sees (sees_mkL (rn []) [(4, .e (.one (.ptr 4 0))), (5, .e (.one (.ptr 5 0))), (6, .e (.one (.pure (.val (.int .i64 0)))))] [(4, .box [.pure (.sl (v6.fBase.map eI64)), .pure (.sl (v6.fNext.map eI64)), .pure (.sl (v6.fHeld.map eU8))]), (5, .box [.pure (.val (.int .i64 v9.fTable)), .pure (.val (.int .i64 v9.fWriter)), .pure (.val (.int .i64 v9.fReader))])] ⟨rfl, rfl, rfl, trivial⟩ ⟨rfl, rfl, trivial⟩ rfl rfl) (W_ret ?_)
          exact ⟨⟨[_, _, _], ⟨.cellN _ _ _ _ _ _ _ rfl rfl ag43 sz43 rfl rfl (ltb rfl), ⟨.cellN _ _ _ _ _ _ _ rfl rfl ag45 sz45 rfl rfl (ltb rfl), ⟨.tmp _ _ rfl, trivial⟩⟩⟩, rfl⟩, trivial⟩
        · have h := cnd_f c8 h
          refine W_skip (W_region mixed rfl (r_bin (.p rfl) rfl rfl (bin_add _ _ _ _ _ _) rfl (r_move (.p rfl) rfl (r_end ?_))))
          exact sink (IntKind.wrap .i64 (v3 + 1)) h (sees_mkL (rn []) _ _ ⟨rfl, rfl, rfl, rfl, rfl, rfl, trivial⟩ ⟨rfl, rfl, rfl, rfl, trivial⟩ rfl rfl)
      · have h := cnd_f c5 h
        refine W_exit ?_
        exact sink () h (sees_mkL (rn []) _ _ ⟨rfl, rfl, trivial⟩ ⟨rfl, rfl, trivial⟩ rfl rfl)
    · refine W_sees hs (W_seq (W_region mixed rfl (r_build [] (.p rfl) rfl trivial zv43 rfl rfl pl43 rfl (r_build [] (.p rfl) rfl trivial zv45 rfl rfl pl45 rfl (r_store rfl rfl rfl rfl sz43 rfl (leb rfl) rfl (r_store rfl rfl rfl rfl sz45 rfl (leb rfl) rfl (r_assign (.p rfl) rfl (r_end ?_))))))))
      obtain rfl := Option.some.inj h
      refine W_sees ((sees_nrmB 4 _ rfl).trans (sees_mkL (rn []) [(4, .e (.one (.ptr 4 0))), (5, .e (.one (.ptr 5 0))), (6, .e (.one (.pure (.val (.int .i64 15)))))] [(4, .box [.pure (.sl ((([] : List Int)).map eI64)), .pure (.sl ((([] : List Int)).map eI64)), .pure (.sl ((([] : List Int)).map eU8))]), (5, .box [.pure (.val (.int .i64 0)), .pure (.val (.int .i64 0)), .pure (.val (.int .i64 0))])] ⟨rfl, rfl, rfl, trivial⟩ ⟨rfl, rfl, trivial⟩ rfl rfl)) (W_ret ?_)
      exact ⟨⟨[_, _, _], ⟨.cellN _ _ _ _ _ _ _ rfl rfl ag43 sz43 rfl rfl (ltb rfl), ⟨.cellN _ _ _ _ _ _ _ rfl rfl ag45 sz45 rfl rfl (ltb rfl), ⟨.tmp _ _ rfl, trivial⟩⟩⟩, rfl⟩, trivial⟩
set_option maxRecDepth 10000 in
theorem mix_Robust_c (N : Nat) (p0 : ApiProblem) (p1 : ApiMix) (r : Bool × Int) (h : Sh.mix_Robust N p0 p1 = some r) : Contract Try.prog 54 [.e (.agg [.pure (.sl (p0.fVersions.map eI64)), .pure (.sl (p0.fNow.map eI64)), .pure (.sl (p0.fTarget.map eI64)), .pure (.sl (p0.fTables.map eApiTable))]), .e (.agg [.pure (.sl (p1.fBase.map eI64)), .pure (.sl (p1.fNext.map eI64)), .pure (.sl (p1.fHeld.map eU8))])] [] (.tup [.one (.pure (.val (.bool r.1))), .one (.pure (.val (.int .i64 r.2)))]) := by
  unfold Sh.mix_Robust at h
  refine contract_of_W (n := 22) (rs := [.tmp 4, .tmp 5]) Try.func54 rfl rfl rfl (leb rfl) (leb rfl) rfl fun w0 S0 => ?_
  refine W_seq (W_region mixed rfl (r_box (.p rfl) rfl rfl (r_box (.p rfl) rfl rfl (r_assign (.p rfl) rfl (r_assign (.p rfl) rfl (r_end (W_seq (W_region mixed rfl (r_loadN (.p rfl) rfl ag30 sz30 rfl rfl rfl (r_loadN (.p rfl) rfl ag43 sz43 rfl rfl rfl ?_))))))))))
  obtain ⟨v1, a1, h⟩ := bind_some h
  refine r_call (ds0 := [_, _]) [] (mix_Blame_c N p0 p1 v1 a1) (.p rfl) gd38 rfl ⟨rfl, rfl, trivial⟩ rfl rfl rfl (nodupL_spec rfl) trivial rfl (r_move (.p rfl) rfl (r_extract (.p rfl) rfl rfl (r_extract (.p rfl) rfl rfl (r_extract (.p rfl) rfl rfl (r_alloc (.p rfl) zv43 rfl rfl rfl (r_alloc (.p rfl) zv45 rfl rfl rfl (r_store rfl rfl rfl rfl sz43 rfl (leb rfl) rfl (r_store rfl rfl rfl rfl sz45 rfl (leb rfl) rfl (r_assign (.p rfl) rfl (r_end (W_seq (W_region mixed rfl (r_move (.p rfl) rfl (r_end (W_block (W_seq (W_region mixed rfl (r_bin (.p rfl) rfl rfl (bin_eql _ _ _ _ _ _) rfl (r_assign (.p rfl) rfl (r_end ?_))))))))))))))))))))
  refine W_cond rfl (fun c2 => ?_) (fun c2 => ?_)
  · have h := cnd_t c2 h
    refine W_seq (W_region mixed rfl (r_assign (.p rfl) rfl (r_assign (.p rfl) rfl (r_end ?_))))
    obtain rfl := Option.some.inj h
    refine W_sees (sees_mkL (rn []) [(4, .e (.one (.pure (.val (.bool false))))), (5, .e (.one (.pure (.val (.int .i64 0)))))] [] ⟨rfl, rfl, trivial⟩ trivial rfl rfl) (W_ret ?_)
    exact ⟨⟨[_, _], ⟨.tmp _ _ rfl, ⟨.tmp _ _ rfl, trivial⟩⟩, rfl⟩, trivial⟩
  · have h := cnd_f c2 h
    refine W_seq (W_region mixed rfl (r_bin (.p rfl) rfl rfl (bin_eql _ _ _ _ _ _) rfl (r_assign (.p rfl) rfl (r_end ?_))))
    refine W_cond rfl (fun c3 => ?_) (fun c3 => ?_)
    · have h := cnd_t c3 h
      refine W_seq (W_region mixed rfl (r_assign (.p rfl) rfl (r_assign (.p rfl) rfl (r_end ?_))))
      obtain rfl := Option.some.inj h
      refine W_sees (sees_mkL (rn []) [(4, .e (.one (.pure (.val (.bool true))))), (5, .e (.one (.pure (.val (.int .i64 0)))))] [] ⟨rfl, rfl, trivial⟩ trivial rfl rfl) (W_ret ?_)
      exact ⟨⟨[_, _], ⟨.tmp _ _ rfl, ⟨.tmp _ _ rfl, trivial⟩⟩, rfl⟩, trivial⟩
    · have h := cnd_f c3 h
      refine W_seq (W_region mixed rfl (r_move (.p rfl) rfl (r_assign (.p rfl) rfl (r_assign (.p rfl) rfl (r_end ?_)))))
      obtain rfl := Option.some.inj h
      refine W_sees (sees_mkL (rn []) [(4, .e (.one (.pure (.val (.bool false))))), (5, .e (.one (.pure (.val (.int .i64 v1.2.2)))))] [] ⟨rfl, rfl, trivial⟩ trivial rfl rfl) (W_ret ?_)
      exact ⟨⟨[_, _], ⟨.tmp _ _ rfl, ⟨.tmp _ _ rfl, trivial⟩⟩, rfl⟩, trivial⟩
set_option maxRecDepth 10000 in
theorem plan_key_c (N : Nat) (p0 : ApiMix) (r : ByteArray) (h : Sh.plan_key N p0 = some r) : Contract Try.prog 86 [.e (.agg [.pure (.sl (p0.fBase.map eI64)), .pure (.sl (p0.fNext.map eI64)), .pure (.sl (p0.fHeld.map eU8))])] [] (.e (.one (.pure (.val (.string r))))) := by
  unfold Sh.plan_key at h
  refine contract_of_W (n := 53) (rs := [.tmp 2]) Try.func86 rfl rfl rfl (leb rfl) (leb rfl) rfl fun w0 S0 => ?_
  refine W_seq (W_region mixed rfl (r_box (.p rfl) rfl rfl (r_assign (.p rfl) rfl (r_end (W_seq (W_region mixed rfl (r_fieldAddr (.p rfl) rfl fld43_0 (r_load1 (.p rfl) rfl ag27 rfl rfl (r_len (.p rfl) rfl (.sl _) trivial (List.length_map _) slc27 (r_bin (.p rfl) rfl rfl (bin_mul _ _ _ _ _ _) rfl (r_fieldAddr (.p rfl) rfl fld43_2 (r_load1 (.p rfl) rfl ag41 rfl rfl (r_len (.p rfl) rfl (.sl _) trivial (List.length_map _) slc41 (r_bin (.p rfl) rfl rfl (bin_add _ _ _ _ _ _) rfl ?_))))))))))))))
  obtain ⟨c1, h⟩ := chk_bind h
  refine r_makeSlice (.p rfl) rfl rfl rfl slc22 sz5 byt5 (leb rfl) zv5 rfl rfl rfl c1.1 c1.2.1 c1.2.2 (map_rep eU8 _ ((0 : Int))) (r_assign (.p rfl) rfl (r_end (W_seq (W_seq (W_region mixed rfl (r_fieldAddr (.p rfl) rfl fld43_0 (r_load1 (.p rfl) rfl ag27 rfl rfl (r_len (.p rfl) rfl (.sl _) trivial (List.length_map _) slc27 (r_move (.p rfl) rfl (r_end ?_))))))))))
  refine W_whileE (L := Sh.plan_key_L2 N p0) h (fun v2 => mk [(1, .e (.one (.ptr 1 0))), (3, .e (.one (.own 2001))), (18, .e (.one (.pure (.val (.int .i64 ((p0.fBase.length : Int))))))), (19, .e (.one (.pure (.val (.int .i64 v2.2)))))] [(1, .box [.pure (.sl (p0.fBase.map eI64)), .pure (.sl (p0.fNext.map eI64)), .pure (.sl (p0.fHeld.map eU8))]), (2001, .vec 1 (v2.1.map eU8))]) (fun v3 => mk [(1, .e (.one (.ptr 1 0))), (3, .e (.one (.own 2002)))] [(1, .box [.pure (.sl (p0.fBase.map eI64)), .pure (.sl (p0.fNext.map eI64)), .pure (.sl (p0.fHeld.map eU8))]), (2002, .vec 1 (v3.map eU8))]) (fun _ _ => rfl) (sees_mkL (rn [(2001, 15)]) _ _ ⟨rfl, rfl, rfl, rfl, trivial⟩ ⟨rfl, rfl, trivial⟩ rfl rfl) (fun j2 n2 v2 h => ?_) (fun v3 s h hs => ?_)
  · unfold Sh.plan_key_L2 at h
    refine W_seq (W_region mixed rfl (r_bin (.p rfl) rfl rfl (bin_lss _ _ _ _ _ _) rfl (r_end (W_seq ?_))))
    refine W_cond rfl (fun c4 => ?_) (fun c4 => ?_)
    · have h := cnd_t c4 h
      refine W_skip (W_seq (W_block (W_seq (W_region mixed rfl (r_move (.p rfl) rfl (r_assign (.p rfl) rfl (r_end (W_region mixed rfl (r_move (.p rfl) rfl (r_fieldAddr (.p rfl) rfl fld43_0 (r_load1 (.p rfl) rfl ag27 rfl rfl (r_move (.p rfl) rfl ?_))))))))))))
      obtain ⟨v5, a5, b5, h⟩ := idx_bind h
      refine r_index (.p rfl) rfl rfl slc27 sz3 a5 (map_get b5) rfl (r_loadr1 (.p rfl) rfl ag3 rfl (r_conv (.p rfl) rfl (conv_int so3 in5 _ _) rfl (r_fieldAddr (.p rfl) rfl fld43_1 (r_load1 (.p rfl) rfl ag27 rfl rfl (r_move (.p rfl) rfl ?_)))))
      obtain ⟨v6, a6, b6, h⟩ := idx_bind h
      refine r_index (.p rfl) rfl rfl slc27 sz3 a6 (map_get b6) rfl (r_loadr1 (.p rfl) rfl ag3 rfl (r_bin (.p rfl) rfl rfl (bin_add _ _ _ _ _ _) rfl (r_conv (.p rfl) rfl (conv_int so3 in5 _ _) rfl (r_buildSlice [(0, .tmp 28, _), (1, .tmp 35, _)] (.p rfl) rfl ⟨rfl, rfl, trivial⟩ rfl slc22 sz5 zv5 rfl rfl (leb rfl) rfl rfl ?_))))
      obtain ⟨c7, h⟩ := chk_bind h
      refine r_append (.p rfl) rfl (.own _ _ _) ⟨rfl, trivial⟩ rfl (.own _ _ _) ⟨rfl, trivial⟩ rfl slc22 slc22 sz5 byt5 (leb rfl) zv5 rfl (len_lim (f := eU8) (g := eU8) (xs := v2.1) (ys := (([(IntKind.wrap .u8 v5), (IntKind.wrap .u8 ((IntKind.wrap .i64 (v6 + 1))))] : List Int))) c7) (map_app eU8 v2.1 (([(IntKind.wrap .u8 v5), (IntKind.wrap .u8 ((IntKind.wrap .i64 (v6 + 1))))] : List Int))) rfl (r_assign (.p rfl) rfl ?_)
      refine r_endD (by kernel_rfl) ?_
      refine W_region mixed rfl (r_bin (.p rfl) rfl rfl (bin_add _ _ _ _ _ _) rfl (r_move (.p rfl) rfl (r_end ?_)))
      exact sink (v2.1 ++ (([(IntKind.wrap .u8 v5), (IntKind.wrap .u8 ((IntKind.wrap .i64 (v6 + 1))))] : List Int)), (IntKind.wrap .i64 (v2.2 + 1))) h (sees_mkL (rn [(2001, 37)]) _ _ ⟨rfl, rfl, rfl, rfl, trivial⟩ ⟨rfl, rfl, trivial⟩ rfl rfl)
    · have h := cnd_f c4 h
      refine W_exit ?_
      exact sink v2.1 h (sees_mkL (rn [(2002, 2001)]) _ _ ⟨rfl, rfl, trivial⟩ ⟨rfl, rfl, trivial⟩ rfl rfl)
  · refine W_sees hs (W_seq (W_seq (W_region mixed rfl (r_fieldAddr (.p rfl) rfl fld43_2 (r_load1 (.p rfl) rfl ag41 rfl rfl (r_len (.p rfl) rfl (.sl _) trivial (List.length_map _) slc41 (r_move (.p rfl) rfl (r_end ?_))))))))
    refine W_whileE (L := Sh.plan_key_L8 N p0) h (fun v8 => mk [(3, .e (.one (.own 2003))), (40, .e (.one (.pure (.sl (p0.fHeld.map eU8))))), (41, .e (.one (.pure (.val (.int .i64 ((p0.fHeld.length : Int))))))), (42, .e (.one (.pure (.val (.int .i64 v8.2)))))] [(2003, .vec 1 (v8.1.map eU8))]) (fun v9 => mk [(3, .e (.one (.own 2004)))] [(2004, .vec 1 (v9.map eU8))]) (fun _ _ => rfl) (sees_mkL (rn [(2003, 2002)]) _ _ ⟨rfl, rfl, rfl, rfl, trivial⟩ ⟨rfl, trivial⟩ rfl rfl) (fun j8 n8 v8 h => ?_) (fun v9 s h hs => ?_)
    · unfold Sh.plan_key_L8 at h
      refine W_seq (W_region mixed rfl (r_bin (.p rfl) rfl rfl (bin_lss _ _ _ _ _ _) rfl (r_end (W_seq ?_))))
      refine W_cond rfl (fun c10 => ?_) (fun c10 => ?_)
      · have h := cnd_t c10 h
        refine W_skip (W_seq (W_block (W_seq (W_region mixed rfl ?_))))
        obtain ⟨v11, a11, b11, h⟩ := idx_bind h
        refine r_index (.p rfl) rfl rfl slc41 sz87 a11 (map_get b11) rfl (r_loadr1 (.p rfl) rfl ag87 rfl (r_assign (.p rfl) rfl (r_end (W_region mixed rfl (r_move (.p rfl) rfl (r_move (.p rfl) rfl (r_buildSlice [(0, .tmp 47, _)] (.p rfl) rfl ⟨rfl, trivial⟩ rfl slc22 sz5 zv5 rfl rfl (leb rfl) rfl rfl ?_)))))))
        obtain ⟨c12, h⟩ := chk_bind h
        refine r_append (.p rfl) rfl (.own _ _ _) ⟨rfl, trivial⟩ rfl (.own _ _ _) ⟨rfl, trivial⟩ rfl slc22 slc22 sz5 byt5 (leb rfl) zv5 rfl (len_lim (f := eU8) (g := eU8) (xs := v8.1) (ys := (([v11] : List Int))) c12) (map_app eU8 v8.1 (([v11] : List Int))) rfl (r_assign (.p rfl) rfl (r_end (W_region mixed rfl (r_bin (.p rfl) rfl rfl (bin_add _ _ _ _ _ _) rfl (r_move (.p rfl) rfl (r_end ?_))))))
        exact sink (v8.1 ++ (([v11] : List Int)), (IntKind.wrap .i64 (v8.2 + 1))) h (sees_mkL (rn [(2003, 49)]) _ _ ⟨rfl, rfl, rfl, rfl, trivial⟩ ⟨rfl, trivial⟩ rfl rfl)
      · have h := cnd_f c10 h
        refine W_exit ?_
        exact sink v8.1 h (sees_mkL (rn [(2004, 2003)]) _ _ ⟨rfl, trivial⟩ ⟨rfl, trivial⟩ rfl rfl)
    · refine W_sees hs (W_seq (W_region mixed rfl (r_move (.p rfl) rfl ?_)))
      refine r_convBS v9 (.p rfl) rfl (srcW_own eU8 _ _ _) ⟨rfl, trivial⟩ rfl bsl22 str9 ?_
      refine r_assign (.p rfl) rfl (r_end ?_)
      obtain rfl := Option.some.inj h
      refine W_sees (sees_mkL (rn []) [(2, .e (.one (.pure (.val (.string ((bytesOf v9)))))))] [] ⟨rfl, trivial⟩ trivial rfl rfl) (W_ret ?_)
      exact ⟨⟨[_], ⟨.tmp _ _ rfl, trivial⟩, rfl⟩, trivial⟩
end Go.Lift

