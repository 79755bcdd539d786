/- Lemmas for MixValidSaid, which YtmmkocokfdheiaaFin7 proves. -/
/- The shallow programs. Written by a program (gen.py) out of the code. -/
import Derived.Test.YtmmkocokfdheiaaTypes
namespace Go.Lift
def Sh.sheaveref35_code (N : Nat) (p0 : List Int) (p1 : Int) : Option Int :=
  cnd ((decide (p1 < (p0.length : Int))))
    ((idx p0 p1).bind fun v2 =>
    some ((IntKind.wrap .i64 v2)))
    (some 0)

def Sh.sheaveref35_Stored (N : Nat) (p0 : ApiTable) : Option Bool :=
  join (fun (v1 : Bool) =>
    some v1)
  fun j1 =>
  cnd ((p0.fKind == 3))
    (j1 true)
    (j1 (p0.fKind == 4))

def Sh.sheaveref35_bits_L4 (N : Nat) (p1 : Int) (p2 : Int) (p3 : Bool) (v1 : (List (List Bool)) × Int) (j4 : ((List Bool)) → Option ((List (List Bool)))) : Nat → ((List Bool) × Int) → Option ((List (List Bool)))
  | 0, _ => none
  | n4 + 1, v4 =>
    cnd ((decide (v4.2 < p1)))
      (join (fun (v7 : (List Bool)) =>
        Sh.sheaveref35_bits_L4 N p1 p2 p3 v1 j4 n4 (v7, (IntKind.wrap .i64 (v4.2 + 1))))
      fun j7 =>
      cnd p3
        (cnd ((v1.2 == v4.2))
          ((chk (v4.1.length + (([true] : List Bool)).length ≤ lim)).bind fun _ =>
          j7 (v4.1 ++ (([true] : List Bool))))
          ((chk (0 ≤ (IntKind.wrap .i64 ((IntKind.wrap .i64 (3 * v1.2)) + v4.2)))).bind fun _ =>
          (chk (v4.1.length + (([((Int.tmod ((shrI .u16 p2 ((IntKind.wrap .i64 ((IntKind.wrap .i64 (3 * v1.2)) + v4.2))))) 2) == 0)] : List Bool)).length ≤ lim)).bind fun _ =>
          j7 (v4.1 ++ (([((Int.tmod ((shrI .u16 p2 ((IntKind.wrap .i64 ((IntKind.wrap .i64 (3 * v1.2)) + v4.2))))) 2) == 0)] : List Bool)))))
        ((chk (0 ≤ (IntKind.wrap .i64 ((IntKind.wrap .i64 (3 * v1.2)) + v4.2)))).bind fun _ =>
        (chk (v4.1.length + (([((Int.tmod ((shrI .u16 p2 ((IntKind.wrap .i64 ((IntKind.wrap .i64 (3 * v1.2)) + v4.2))))) 2) == 0)] : List Bool)).length ≤ lim)).bind fun _ =>
        j7 (v4.1 ++ (([((Int.tmod ((shrI .u16 p2 ((IntKind.wrap .i64 ((IntKind.wrap .i64 (3 * v1.2)) + v4.2))))) 2) == 0)] : List Bool)))))
      (j4 v4.1)
def Sh.sheaveref35_bits_L1 (N : Nat) (p0 : Int) (p1 : Int) (p2 : Int) (p3 : Bool) (j1 : ((List (List Bool))) → Option ((List (List Bool)))) : Nat → ((List (List Bool)) × Int) → Option ((List (List Bool)))
  | 0, _ => none
  | n1 + 1, v1 =>
    cnd ((decide (v1.2 < p0)))
      (Sh.sheaveref35_bits_L4 N p1 p2 p3 v1 (fun (v5 : (List Bool)) =>
        (chk (v1.1.length + (([v5] : List (List Bool))).length ≤ lim)).bind fun _ =>
        Sh.sheaveref35_bits_L1 N p0 p1 p2 p3 j1 n1 (v1.1 ++ (([v5] : List (List Bool))), (IntKind.wrap .i64 (v1.2 + 1)))) N (([] : List Bool), 0))
      (j1 v1.1)
def Sh.sheaveref35_bits (N : Nat) (p0 : Int) (p1 : Int) (p2 : Int) (p3 : Bool) : Option ((List (List Bool))) :=
  Sh.sheaveref35_bits_L1 N p0 p1 p2 p3 (fun (v2 : (List (List Bool))) =>
    some v2) N (([] : List (List Bool)), 0)

def Sh.sheaveref35_Of_L4 (N : Nat) (p0 : Sheaveref35Draft) (j4 : ((List Int) × (List Int) × (List Int)) → Option (ApiProblem × Bool)) : Nat → ((List Int) × (List Int) × (List Int) × Int) → Option (ApiProblem × Bool)
  | 0, _ => none
  | n4 + 1, v4 =>
    cnd ((decide (v4.2.2.2 < (p0.fVersions.length : Int))))
      ((idx p0.fVersions v4.2.2.2).bind fun v7 =>
      (chk (v4.1.length + (([(IntKind.wrap .i64 (1 + (IntKind.wrap .i64 ((Int.tmod v7 3)))))] : List Int)).length ≤ lim)).bind fun _ =>
      (Sh.sheaveref35_code N p0.fNow v4.2.2.2).bind fun v9 =>
      (chk ((IntKind.wrap .i64 (1 + (IntKind.wrap .i64 ((Int.tmod v7 3))))) ≠ 0)).bind fun _ =>
      (chk (v4.2.1.length + (([(Int.tmod v9 ((IntKind.wrap .i64 (1 + (IntKind.wrap .i64 ((Int.tmod v7 3)))))))] : List Int)).length ≤ lim)).bind fun _ =>
      (Sh.sheaveref35_code N p0.fTarget v4.2.2.2).bind fun v12 =>
      (chk ((IntKind.wrap .i64 (1 + (IntKind.wrap .i64 ((Int.tmod v7 3))))) ≠ 0)).bind fun _ =>
      (chk (v4.2.2.1.length + (([(Int.tmod v12 ((IntKind.wrap .i64 (1 + (IntKind.wrap .i64 ((Int.tmod v7 3)))))))] : List Int)).length ≤ lim)).bind fun _ =>
      Sh.sheaveref35_Of_L4 N p0 j4 n4 (v4.1 ++ (([(IntKind.wrap .i64 (1 + (IntKind.wrap .i64 ((Int.tmod v7 3)))))] : List Int)), v4.2.1 ++ (([(Int.tmod v9 ((IntKind.wrap .i64 (1 + (IntKind.wrap .i64 ((Int.tmod v7 3)))))))] : List Int)), v4.2.2.1 ++ (([(Int.tmod v12 ((IntKind.wrap .i64 (1 + (IntKind.wrap .i64 ((Int.tmod v7 3)))))))] : List Int)), (IntKind.wrap .i64 (v4.2.2.2 + 1))))
      (j4 (v4.1, v4.2.1, v4.2.2.1))
def Sh.sheaveref35_Of_L15 (N : Nat) (p0 : Sheaveref35Draft) (v5 : (List Int) × (List Int) × (List Int)) (j15 : ((List ApiTable)) → Option (ApiProblem × Bool)) : Nat → ((List ApiTable) × Int) → Option (ApiProblem × Bool)
  | 0, _ => none
  | n15 + 1, v15 =>
    join (fun (v17 : Bool) =>
      cnd v17
        ((idx p0.fLinks v15.2).bind fun v20 =>
        (chk ((v5.1.length : Int) ≠ 0)).bind fun _ =>
        (chk ((v5.1.length : Int) ≠ 0)).bind fun _ =>
        join (fun (v23 : Bool) =>
          (idx v5.1 ((Int.tmod ((IntKind.wrap .i64 v20.fFrom)) ((v5.1.length : Int))))).bind fun v26 =>
          (idx v5.1 ((Int.tmod ((IntKind.wrap .i64 v20.fTo)) ((v5.1.length : Int))))).bind fun v27 =>
          (Sh.sheaveref35_bits N v26 v27 v20.fBad false).bind fun v28 =>
          join (fun (v29 : (List (List Bool))) =>
            (chk (v15.1.length + (([(ApiTable.mk ((IntKind.wrap .i64 (1 + (IntKind.wrap .i64 ((Int.tmod v20.fKind 4)))))) ((Int.tmod ((IntKind.wrap .i64 v20.fFrom)) ((v5.1.length : Int)))) ((Int.tmod ((IntKind.wrap .i64 v20.fTo)) ((v5.1.length : Int)))) v23 v28 v29)] : List ApiTable)).length ≤ lim)).bind fun _ =>
            Sh.sheaveref35_Of_L15 N p0 v5 j15 n15 (v15.1 ++ (([(ApiTable.mk ((IntKind.wrap .i64 (1 + (IntKind.wrap .i64 ((Int.tmod v20.fKind 4)))))) ((Int.tmod ((IntKind.wrap .i64 v20.fFrom)) ((v5.1.length : Int)))) ((Int.tmod ((IntKind.wrap .i64 v20.fTo)) ((v5.1.length : Int)))) v23 v28 v29)] : List ApiTable)), (IntKind.wrap .i64 (v15.2 + 1))))
          fun j29 =>
          cnd (((IntKind.wrap .i64 (1 + (IntKind.wrap .i64 ((Int.tmod v20.fKind 4))))) == 4))
            ((idx v5.1 ((Int.tmod ((IntKind.wrap .i64 v20.fFrom)) ((v5.1.length : Int))))).bind fun v31 =>
            (idx v5.1 ((Int.tmod ((IntKind.wrap .i64 v20.fFrom)) ((v5.1.length : Int))))).bind fun v32 =>
            (Sh.sheaveref35_bits N v31 v32 v20.fLost true).bind fun v33 =>
            j29 v33)
            (j29 ([] : List (List Bool))))
        fun j23 =>
        cnd v20.fAware
          ((Sh.sheaveref35_Stored N ((ApiTable.mk ((IntKind.wrap .i64 (1 + (IntKind.wrap .i64 ((Int.tmod v20.fKind 4)))))) ((Int.tmod ((IntKind.wrap .i64 v20.fFrom)) ((v5.1.length : Int)))) ((Int.tmod ((IntKind.wrap .i64 v20.fTo)) ((v5.1.length : Int)))) false (([] : List (List Bool))) (([] : List (List Bool)))))).bind fun v25 =>
          j23 (!v25))
          (j23 false))
        (j15 v15.1))
    fun j17 =>
    cnd ((decide (v15.2 < (p0.fLinks.length : Int))))
      (j17 (decide (0 < (v5.1.length : Int))))
      (j17 false)
def Sh.sheaveref35_Of (N : Nat) (p0 : Sheaveref35Draft) : Option (ApiProblem × Bool) :=
  join (fun (v1 : Bool) =>
    cnd v1
      (some ((ApiProblem.mk (([] : List Int)) (([] : List Int)) (([] : List Int)) (([] : List ApiTable))), false))
      (Sh.sheaveref35_Of_L4 N p0 (fun (v5 : (List Int) × (List Int) × (List Int)) =>
        Sh.sheaveref35_Of_L15 N p0 v5 (fun (v16 : (List ApiTable)) =>
          some ((ApiProblem.mk v5.1 v5.2.1 v5.2.2 v16), true)) N (([] : List ApiTable), 0)) N (([] : List Int), ([] : List Int), ([] : List Int), 0)))
  fun j1 =>
  cnd ((decide (3 < (p0.fVersions.length : Int))))
    (j1 true)
    (j1 (decide (4 < (p0.fLinks.length : Int))))

def Sh.sheavelaw36_example (N : Nat) (p0 : Bool) : Option ApiProblem :=
  some ((ApiProblem.mk (([2, 2] : List Int)) (([0, 0] : List Int)) (([1, 1] : List Int)) (([(ApiTable.mk 1 0 1 p0 (([([true, true] : List Bool), ([false, true] : List Bool)] : List (List Bool))) (([] : List (List Bool))))] : List ApiTable))))

def Sh.fleet_within (N : Nat) (p0 : Int) (p1 : Int) : Option Bool :=
  join (fun (v1 : Bool) =>
    some v1)
  fun j1 =>
  cnd ((decide (0 ≤ p0)))
    (j1 (decide (p0 < p1)))
    (j1 false)

def Sh.fleet_kind (N : Nat) (p0 : Int) (p1 : Bool) : Option Bool :=
  join (fun (v1 : Bool) =>
    some v1)
  fun j1 =>
  cnd ((p0 == 1))
    (j1 true)
    (cnd ((p0 == 2))
      (j1 true)
      (cnd ((p0 == 3))
        (j1 (!p1))
        (cnd ((p0 == 4))
          (j1 (!p1))
          (j1 false))))

def Sh.fleet_matrix_1 (N : Nat) (p0 : List Bool) (p1 : Int) : Option Bool :=
  some (((p0.length : Int) != p1))

def Sh.slices_IndexFunc_bool_bool_L1 (N : Nat) (p0 : List (List Bool)) (p1 : (List Bool) → Option Bool) (j1 : Unit → Option Int) : Nat → Int → Option Int
  | 0, _ => none
  | n1 + 1, v1 =>
    cnd ((decide (v1 < (p0.length : Int))))
      ((idx p0 v1).bind fun v4 =>
      (p1 v4).bind fun v5 =>
      cnd v5
        (some v1)
        (Sh.slices_IndexFunc_bool_bool_L1 N p0 p1 j1 n1 (IntKind.wrap .i64 (v1 + 1))))
      (j1 ())
def Sh.slices_IndexFunc_bool_bool (N : Nat) (p0 : List (List Bool)) (p1 : (List Bool) → Option Bool) : Option Int :=
  Sh.slices_IndexFunc_bool_bool_L1 N p0 p1 (fun (v2 : Unit) =>
    some ((-1))) N 0

def Sh.slices_ContainsFunc_bool_bool (N : Nat) (p0 : List (List Bool)) (p1 : (List Bool) → Option Bool) : Option Bool :=
  (Sh.slices_IndexFunc_bool_bool N p0 p1).bind fun v1 =>
  some ((decide (0 ≤ v1)))

def Sh.fleet_matrix (N : Nat) (p0 : List (List Bool)) (p1 : Int) (p2 : Int) : Option Bool :=
  join (fun (v1 : Bool) =>
    some v1)
  fun j1 =>
  cnd (((p0.length : Int) == p1))
    ((Sh.slices_ContainsFunc_bool_bool N p0 ((fun (x : List Bool) => Sh.fleet_matrix_1 N x p2))).bind fun v3 =>
    j1 (!v3))
    (j1 false)

def Sh.fleet_table_L19 (N : Nat) (p1 : ApiTable) (j19 : Unit → Option Int) : Nat → Int → Option Int
  | 0, _ => none
  | n19 + 1, v19 =>
    cnd ((decide (v19 < (p1.fRewrite.length : Int))))
      ((idx p1.fRewrite v19).bind fun v22 =>
      (idx v22 v19).bind fun v23 =>
      cnd ((!v23))
        (some 1)
        (Sh.fleet_table_L19 N p1 j19 n19 (IntKind.wrap .i64 (v19 + 1))))
      (j19 ())
def Sh.fleet_table (N : Nat) (p0 : ApiProblem) (p1 : ApiTable) : Option Int :=
  (Sh.fleet_kind N p1.fKind p1.fAware).bind fun v1 =>
  cnd ((!v1))
    (some 1)
    (join (fun (v3 : Bool) =>
      cnd v3
        (some 4)
        ((idx p0.fVersions p1.fFrom).bind fun v8 =>
        join (fun (v9 : Bool) =>
          cnd v9
            (some 6)
            (Sh.fleet_table_L19 N p1 (fun (v20 : Unit) =>
              some 0) N 0))
        fun j9 =>
        (idx p0.fVersions p1.fTo).bind fun v10 =>
        (Sh.fleet_matrix N p1.fOK v8 v10).bind fun v11 =>
        cnd ((!v11))
          (j9 true)
          (cnd ((p1.fKind == 4))
            ((Sh.fleet_matrix N p1.fRewrite v8 v8).bind fun v14 =>
            cnd ((!v14))
              (j9 true)
              (cnd ((!((p1.fKind == 4))))
                (j9 (decide (0 < (p1.fRewrite.length : Int))))
                (j9 false)))
            (cnd ((!((p1.fKind == 4))))
              (j9 (decide (0 < (p1.fRewrite.length : Int))))
              (j9 false)))))
    fun j3 =>
    (Sh.fleet_within N p1.fFrom ((p0.fVersions.length : Int))).bind fun v4 =>
    cnd ((!v4))
      (j3 true)
      ((Sh.fleet_within N p1.fTo ((p0.fVersions.length : Int))).bind fun v6 =>
      j3 (!v6)))

def Sh.fleet_ValidProblem_L7 (N : Nat) (p0 : ApiProblem) (j7 : Unit → Option Int) : Nat → Int → Option Int
  | 0, _ => none
  | n7 + 1, v7 =>
    cnd ((decide (v7 < (p0.fVersions.length : Int))))
      ((idx p0.fVersions v7).bind fun v10 =>
      join (fun (v11 : Bool) =>
        cnd v11
          (some 7)
          (Sh.fleet_ValidProblem_L7 N p0 j7 n7 (IntKind.wrap .i64 (v7 + 1))))
      fun j11 =>
      cnd ((decide (v10 < 1)))
        (j11 true)
        (cnd ((decide (6 < v10)))
          (j11 true)
          ((idx p0.fNow v7).bind fun v14 =>
          (Sh.fleet_within N v14 v10).bind fun v15 =>
          cnd ((!v15))
            (j11 true)
            ((idx p0.fTarget v7).bind fun v17 =>
            (Sh.fleet_within N v17 v10).bind fun v18 =>
            j11 (!v18)))))
      (j7 ())
def Sh.fleet_ValidProblem_L20 (N : Nat) (p0 : ApiProblem) (j20 : Unit → Option Int) : Nat → Int → Option Int
  | 0, _ => none
  | n20 + 1, v20 =>
    cnd ((decide (v20 < (p0.fTables.length : Int))))
      ((idx p0.fTables v20).bind fun v23 =>
      (Sh.fleet_table N p0 v23).bind fun v24 =>
      cnd ((v24 != 0))
        (some v24)
        (Sh.fleet_ValidProblem_L20 N p0 j20 n20 (IntKind.wrap .i64 (v20 + 1))))
      (j20 ())
def Sh.fleet_ValidProblem (N : Nat) (p0 : ApiProblem) : Option Int :=
  join (fun (v1 : Bool) =>
    cnd v1
      (some 3)
      (join (fun (v4 : Bool) =>
        cnd v4
          (some 6)
          (Sh.fleet_ValidProblem_L7 N p0 (fun (v8 : Unit) =>
            Sh.fleet_ValidProblem_L20 N p0 (fun (v21 : Unit) =>
              some 0) N 0) N 0))
      fun j4 =>
      cnd (((p0.fNow.length : Int) != (p0.fVersions.length : Int)))
        (j4 true)
        (j4 ((p0.fTarget.length : Int) != (p0.fVersions.length : Int)))))
  fun j1 =>
  cnd ((decide (6 < (p0.fVersions.length : Int))))
    (j1 true)
    (j1 (decide (12 < (p0.fTables.length : Int))))

def Sh.mix_stored (N : Nat) (p0 : ApiTable) : Option Bool :=
  join (fun (v1 : Bool) =>
    some v1)
  fun j1 =>
  cnd ((p0.fKind == 3))
    (j1 true)
    (j1 (p0.fKind == 4))

def Sh.mix_running (N : Nat) (p0 : ApiMix) (p1 : Int) : Option Int :=
  (idx p0.fBase p1).bind fun v1 =>
  (chk (0 ≤ v1)).bind fun _ =>
  join (fun (v3 : Int) =>
    some v3)
  fun j3 =>
  (idx p0.fNext p1).bind fun v4 =>
  cnd ((decide (0 ≤ v4)))
    ((idx p0.fNext p1).bind fun v6 =>
    (chk (0 ≤ v6)).bind fun _ =>
    j3 (orI .u8 ((shlI .u8 1 v1)) ((shlI .u8 1 v6))))
    (j3 (shlI .u8 1 v1))

def Sh.mix_Valid_L7 (N : Nat) (p0 : ApiProblem) (p1 : ApiMix) (j7 : Unit → Option Int) : Nat → Int → Option Int
  | 0, _ => none
  | n7 + 1, v7 =>
    cnd ((decide (v7 < (p0.fVersions.length : Int))))
      ((idx p0.fVersions v7).bind fun v10 =>
      join (fun (v11 : Bool) =>
        cnd v11
          (some 7)
          ((idx p1.fBase v7).bind fun v20 =>
          (idx p1.fNext v7).bind fun v21 =>
          cnd ((v20 == v21))
            (some 1)
            (Sh.mix_Valid_L7 N p0 p1 j7 n7 (IntKind.wrap .i64 (v7 + 1)))))
      fun j11 =>
      (idx p1.fBase v7).bind fun v12 =>
      cnd ((decide (v12 < 0)))
        (j11 true)
        ((idx p1.fBase v7).bind fun v14 =>
        cnd ((decide (v10 ≤ v14)))
          (j11 true)
          ((idx p1.fNext v7).bind fun v16 =>
          cnd ((decide (v16 < (-1))))
            (j11 true)
            ((idx p1.fNext v7).bind fun v18 =>
            j11 (decide (v10 ≤ v18))))))
      (j7 ())
def Sh.mix_Valid_L23 (N : Nat) (p0 : ApiProblem) (p1 : ApiMix) (j23 : Unit → Option Int) : Nat → Int → Option Int
  | 0, _ => none
  | n23 + 1, v23 =>
    cnd ((decide (v23 < (p0.fTables.length : Int))))
      ((idx p0.fTables v23).bind fun v26 =>
      join (fun (v27 : Int × Int) =>
        join (fun (v33 : Bool) =>
          cnd v33
            (some 1)
            (Sh.mix_Valid_L23 N p0 p1 j23 n23 (IntKind.wrap .i64 (v23 + 1))))
        fun j33 =>
        (idx p1.fHeld v23).bind fun v34 =>
        cnd (((andNotI .u8 v27.1 v34) != 0))
          (j33 true)
          ((idx p1.fHeld v23).bind fun v36 =>
          j33 ((andNotI .u8 v36 v27.2) != 0)))
      fun j27 =>
      (Sh.mix_stored N v26).bind fun v28 =>
      cnd v28
        ((Sh.mix_running N p1 v26.fFrom).bind fun v30 =>
        (idx p0.fVersions v26.fFrom).bind fun v31 =>
        (chk (0 ≤ v31)).bind fun _ =>
        j27 (v30, (IntKind.wrap .u8 ((shlI .u8 1 v31) - 1))))
        (j27 (0, 0)))
      (j23 ())
def Sh.mix_Valid (N : Nat) (p0 : ApiProblem) (p1 : ApiMix) : Option Int :=
  (Sh.fleet_ValidProblem N p0).bind fun v1 =>
  cnd ((v1 != 0))
    (some v1)
    (join (fun (v3 : Bool) =>
      cnd v3
        (some 6)
        (Sh.mix_Valid_L7 N p0 p1 (fun (v8 : Unit) =>
          Sh.mix_Valid_L23 N p0 p1 (fun (v24 : Unit) =>
            some 0) N 0) N 0))
    fun j3 =>
    cnd (((p1.fBase.length : Int) != (p0.fVersions.length : Int)))
      (j3 true)
      (cnd (((p1.fNext.length : Int) != (p0.fVersions.length : Int)))
        (j3 true)
        (j3 ((p1.fHeld.length : Int) != (p0.fTables.length : Int)))))

def Sh.mix_conflicts_L18 (N : Nat) (v1 : (List ApiConflict) × Int) (v4 : ApiTable) (v6 : Int) (v11 : (List ApiConflict) × Int) (v17 : List Bool) (j18 : ((List ApiConflict) × Bool) → Option ((List ApiConflict))) : Nat → ((List ApiConflict) × Bool × Int) → Option ((List ApiConflict))
  | 0, _ => none
  | n18 + 1, v18 =>
    cnd ((decide (v18.2.2 < (v17.length : Int))))
      (join (fun (v21 : (List ApiConflict) × Bool) =>
        Sh.mix_conflicts_L18 N v1 v4 v6 v11 v17 j18 n18 (v21.1, v21.2, (IntKind.wrap .i64 (v18.2.2 + 1))))
      fun j21 =>
      (idx v17 v18.2.2).bind fun v22 =>
      (chk (0 ≤ v18.2.2)).bind fun _ =>
      cnd (((andI .u8 ((shrI .u8 v6 v18.2.2)) 1) == 0))
        (j21 (v18.1, v18.2.1))
        (join (fun (v25 : Bool) =>
          join (fun (v27 : Bool) =>
            cnd v27
              ((chk (v18.1.length + (([(ApiConflict.mk v1.2 v11.2 v18.2.2)] : List ApiConflict)).length ≤ lim)).bind fun _ =>
              j21 (v18.1 ++ (([(ApiConflict.mk v1.2 v11.2 v18.2.2)] : List ApiConflict)), v25))
              (j21 (v18.1, v25)))
          fun j27 =>
          cnd ((!v22))
            (j27 (!v4.fAware))
            (j27 false))
        fun j25 =>
        cnd v18.2.1
          (j25 true)
          (j25 v22)))
      (j18 (v18.1, v18.2.1))
def Sh.mix_conflicts_L11 (N : Nat) (v1 : (List ApiConflict) × Int) (v4 : ApiTable) (v6 : Int) (v7 : Int) (j11 : ((List ApiConflict)) → Option ((List ApiConflict))) : Nat → ((List ApiConflict) × Int) → Option ((List ApiConflict))
  | 0, _ => none
  | n11 + 1, v11 =>
    cnd ((decide (v11.2 < (v4.fOK.length : Int))))
      (join (fun (v14 : (List ApiConflict)) =>
        Sh.mix_conflicts_L11 N v1 v4 v6 v7 j11 n11 (v14, (IntKind.wrap .i64 (v11.2 + 1))))
      fun j14 =>
      (chk (0 ≤ v11.2)).bind fun _ =>
      cnd (((andI .u8 ((shrI .u8 v7 v11.2)) 1) == 0))
        (j14 v11.1)
        ((idx v4.fOK v11.2).bind fun v17 =>
        Sh.mix_conflicts_L18 N v1 v4 v6 v11 v17 (fun (v19 : (List ApiConflict) × Bool) =>
          join (fun (v31 : Bool) =>
            cnd v31
              ((chk (v19.1.length + (([(ApiConflict.mk v1.2 v11.2 ((-1)))] : List ApiConflict)).length ≤ lim)).bind fun _ =>
              j14 (v19.1 ++ (([(ApiConflict.mk v1.2 v11.2 ((-1)))] : List ApiConflict))))
              (j14 v19.1))
          fun j31 =>
          cnd v4.fAware
            (j31 (!v19.2))
            (j31 false)) N (v11.1, false, 0)))
      (j11 v11.1)
def Sh.mix_conflicts_L1 (N : Nat) (p0 : ApiProblem) (p1 : ApiMix) (j1 : ((List ApiConflict)) → Option ((List ApiConflict))) : Nat → ((List ApiConflict) × Int) → Option ((List ApiConflict))
  | 0, _ => none
  | n1 + 1, v1 =>
    cnd ((decide (v1.2 < (p0.fTables.length : Int))))
      ((idx p0.fTables v1.2).bind fun v4 =>
      (Sh.mix_running N p1 v4.fFrom).bind fun v5 =>
      (Sh.mix_running N p1 v4.fTo).bind fun v6 =>
      join (fun (v7 : Int) =>
        Sh.mix_conflicts_L11 N v1 v4 v6 v7 (fun (v12 : (List ApiConflict)) =>
          Sh.mix_conflicts_L1 N p0 p1 j1 n1 (v12, (IntKind.wrap .i64 (v1.2 + 1)))) N (v1.1, 0))
      fun j7 =>
      (Sh.mix_stored N v4).bind fun v8 =>
      cnd v8
        ((idx p1.fHeld v1.2).bind fun v10 =>
        j7 v10)
        (j7 v5))
      (j1 v1.1)
def Sh.mix_conflicts (N : Nat) (p0 : ApiProblem) (p1 : ApiMix) : Option ((List ApiConflict)) :=
  Sh.mix_conflicts_L1 N p0 p1 (fun (v2 : (List ApiConflict)) =>
    some v2) N (([] : List ApiConflict), 0)

def Sh.mix_Conflicts (N : Nat) (p0 : ApiProblem) (p1 : ApiMix) : Option ((List ApiConflict) × Int) :=
  (Sh.mix_Valid N p0 p1).bind fun v1 =>
  cnd ((v1 != 0))
    (some (([] : List ApiConflict), v1))
    ((Sh.mix_conflicts N p0 p1).bind fun v3 =>
    some (v3, 0))

def Sh.mix_Safe (N : Nat) (p0 : ApiProblem) (p1 : ApiMix) : Option (Bool × Int) :=
  (Sh.mix_Conflicts N p0 p1).bind fun v1 =>
  join (fun (v2 : Bool) =>
    some (v2, v1.2))
  fun j2 =>
  cnd ((v1.2 == 0))
    (j2 ((v1.1.length : Int) == 0))
    (j2 false)

def Sh.slices_Clone_int_int (N : Nat) (p0 : List Int) : Option ((List Int)) :=
  (chk ((([] : List Int)).length + p0.length ≤ lim)).bind fun _ =>
  some ((([] : List Int)) ++ p0)

def Sh.slices_Clone_api_Set_api_Set (N : Nat) (p0 : List Int) : Option ((List Int)) :=
  (chk ((([] : List Int)).length + p0.length ≤ lim)).bind fun _ =>
  some ((([] : List Int)) ++ p0)

def Sh.mix_Aborts_L3 (N : Nat) (p1 : ApiMix) (j3 : ((List Int)) → Option ((List ApiMix) × Int)) : Nat → ((List Int) × Int) → Option ((List ApiMix) × Int)
  | 0, _ => none
  | n3 + 1, v3 =>
    cnd ((decide (v3.2 < (p1.fNext.length : Int))))
      (join (fun (v6 : (List Int)) =>
        Sh.mix_Aborts_L3 N p1 j3 n3 (v6, (IntKind.wrap .i64 (v3.2 + 1))))
      fun j6 =>
      (idx p1.fNext v3.2).bind fun v7 =>
      cnd ((decide (0 ≤ v7)))
        ((chk (v3.1.length + (([v3.2] : List Int)).length ≤ lim)).bind fun _ =>
        j6 (v3.1 ++ (([v3.2] : List Int))))
        (j6 v3.1))
      (j3 v3.1)
def Sh.mix_Aborts_L17 (N : Nat) (v4 : (List Int)) (v11 : (List ApiMix) × Int) (j17 : ((List Int)) → Option ((List ApiMix) × Int)) : Nat → ((List Int) × Int) → Option ((List ApiMix) × Int)
  | 0, _ => none
  | n17 + 1, v17 =>
    cnd ((decide (v17.2 < (v4.length : Int))))
      (join (fun (v20 : (List Int)) =>
        Sh.mix_Aborts_L17 N v4 v11 j17 n17 (v20, (IntKind.wrap .i64 (v17.2 + 1))))
      fun j20 =>
      (idx v4 v17.2).bind fun v21 =>
      (chk (0 ≤ v17.2)).bind fun _ =>
      cnd (((andI .i64 ((shrI .i64 v11.2 v17.2)) 1) == 1))
        ((idx v17.1 v21).bind fun v24 =>
        j20 (v17.1.set (v21).toNat ((-1))))
        (j20 v17.1))
      (j17 v17.1)
def Sh.mix_Aborts_L11 (N : Nat) (p1 : ApiMix) (v4 : (List Int)) (j11 : ((List ApiMix)) → Option ((List ApiMix) × Int)) : Nat → ((List ApiMix) × Int) → Option ((List ApiMix) × Int)
  | 0, _ => none
  | n11 + 1, v11 =>
    cnd ((decide (v11.2 < (shlI .i64 1 ((v4.length : Int))))))
      ((Sh.slices_Clone_int_int N p1.fBase).bind fun v14 =>
      (Sh.slices_Clone_int_int N p1.fNext).bind fun v15 =>
      (Sh.slices_Clone_api_Set_api_Set N p1.fHeld).bind fun v16 =>
      Sh.mix_Aborts_L17 N v4 v11 (fun (v18 : (List Int)) =>
        (chk (v11.1.length + (([(ApiMix.mk v14 v18 v16)] : List ApiMix)).length ≤ lim)).bind fun _ =>
        Sh.mix_Aborts_L11 N p1 v4 j11 n11 (v11.1 ++ (([(ApiMix.mk v14 v18 v16)] : List ApiMix)), (IntKind.wrap .i64 (v11.2 + 1)))) N (v15, 0))
      (j11 v11.1)
def Sh.mix_Aborts (N : Nat) (p0 : ApiProblem) (p1 : ApiMix) : Option ((List ApiMix) × Int) :=
  (Sh.mix_Valid N p0 p1).bind fun v1 =>
  cnd ((v1 != 0))
    (some (([] : List ApiMix), v1))
    (Sh.mix_Aborts_L3 N p1 (fun (v4 : (List Int)) =>
      (chk (0 ≤ (v4.length : Int))).bind fun _ =>
      Sh.mix_Aborts_L11 N p1 v4 (fun (v12 : (List ApiMix)) =>
        some (v12, 0)) N (([] : List ApiMix), 0)) N (([] : List Int), 0))

def Sh.mix_Blame_L3 (N : Nat) (p0 : ApiProblem) (v1 : (List ApiMix) × Int) (j3 : Unit → Option (ApiMix × ApiConflict × Int)) : Nat → Int → Option (ApiMix × ApiConflict × Int)
  | 0, _ => none
  | n3 + 1, v3 =>
    cnd ((decide (v3 < (v1.1.length : Int))))
      ((idx v1.1 v3).bind fun v6 =>
      (Sh.mix_conflicts N p0 v6).bind fun v7 =>
      cnd ((decide (0 < (v7.length : Int))))
        ((idx v7 0).bind fun v9 =>
        some (v6, v9, 0))
        (Sh.mix_Blame_L3 N p0 v1 j3 n3 (IntKind.wrap .i64 (v3 + 1))))
      (j3 ())
def Sh.mix_Blame (N : Nat) (p0 : ApiProblem) (p1 : ApiMix) : Option (ApiMix × ApiConflict × Int) :=
  (Sh.mix_Aborts N p0 p1).bind fun v1 =>
  cnd ((v1.2 != 0))
    (some ((ApiMix.mk (([] : List Int)) (([] : List Int)) (([] : List Int))), (ApiConflict.mk 0 0 0), v1.2))
    (Sh.mix_Blame_L3 N p0 v1 (fun (v4 : Unit) =>
      some ((ApiMix.mk (([] : List Int)) (([] : List Int)) (([] : List Int))), (ApiConflict.mk 0 0 0), 15)) N 0)

def Sh.mix_Robust (N : Nat) (p0 : ApiProblem) (p1 : ApiMix) : Option (Bool × Int) :=
  (Sh.mix_Blame N p0 p1).bind fun v1 =>
  cnd ((v1.2.2 == 0))
    (some (false, 0))
    (cnd ((v1.2.2 == 15))
      (some (true, 0))
      (some (false, v1.2.2)))

def Sh.sheaveref36_Conflicted_L2 (N : Nat) (p0 : List ApiConflict) (p1 : List ApiConflict) (j2 : Unit → Option Bool) : Nat → Int → Option Bool
  | 0, _ => none
  | n2 + 1, v2 =>
    cnd ((decide (v2 < (p0.length : Int))))
      ((idx p0 v2).bind fun v5 =>
      (idx p1 v2).bind fun v6 =>
      cnd ((!((v5.fTable == v6.fTable) && ((v5.fWriter == v6.fWriter) && ((v5.fReader == v6.fReader) && true)))))
        (some false)
        (Sh.sheaveref36_Conflicted_L2 N p0 p1 j2 n2 (IntKind.wrap .i64 (v2 + 1))))
      (j2 ())
def Sh.sheaveref36_Conflicted (N : Nat) (p0 : List ApiConflict) (p1 : List ApiConflict) : Option Bool :=
  cnd (((p0.length : Int) != (p1.length : Int)))
    (some false)
    (Sh.sheaveref36_Conflicted_L2 N p0 p1 (fun (v3 : Unit) =>
      some true) N 0)

def Sh.sheaveref36_ints_L1 (N : Nat) (p0 : List Int) (p1 : List Int) (j1 : Unit → Option Int) : Nat → Int → Option Int
  | 0, _ => none
  | n1 + 1, v1 =>
    join (fun (v3 : Bool) =>
      cnd v3
        ((idx p0 v1).bind fun v6 =>
        (idx p1 v1).bind fun v7 =>
        cnd ((decide (v6 < v7)))
          (some ((-1)))
          ((idx p0 v1).bind fun v9 =>
          (idx p1 v1).bind fun v10 =>
          cnd ((decide (v10 < v9)))
            (some 1)
            (Sh.sheaveref36_ints_L1 N p0 p1 j1 n1 (IntKind.wrap .i64 (v1 + 1)))))
        (j1 ()))
    fun j3 =>
    cnd ((decide (v1 < (p0.length : Int))))
      (j3 (decide (v1 < (p1.length : Int))))
      (j3 false)
def Sh.sheaveref36_ints (N : Nat) (p0 : List Int) (p1 : List Int) : Option Int :=
  Sh.sheaveref36_ints_L1 N p0 p1 (fun (v2 : Unit) =>
    cnd ((decide ((p0.length : Int) < (p1.length : Int))))
      (some ((-1)))
      (cnd ((decide ((p1.length : Int) < (p0.length : Int))))
        (some 1)
        (some 0))) N 0

def Sh.sheaveref36_numbers_L1 (N : Nat) (p0 : List Int) (j1 : ((List Int)) → Option ((List Int))) : Nat → ((List Int) × Int) → Option ((List Int))
  | 0, _ => none
  | n1 + 1, v1 =>
    cnd ((decide (v1.2 < (p0.length : Int))))
      ((idx p0 v1.2).bind fun v4 =>
      (chk (v1.1.length + (([(IntKind.wrap .i64 v4)] : List Int)).length ≤ lim)).bind fun _ =>
      Sh.sheaveref36_numbers_L1 N p0 j1 n1 (v1.1 ++ (([(IntKind.wrap .i64 v4)] : List Int)), (IntKind.wrap .i64 (v1.2 + 1))))
      (j1 v1.1)
def Sh.sheaveref36_numbers (N : Nat) (p0 : List Int) : Option ((List Int)) :=
  Sh.sheaveref36_numbers_L1 N p0 (fun (v2 : (List Int)) =>
    some v2) N (([] : List Int), 0)

def Sh.sheaveref36_Compare (N : Nat) (p0 : ApiMix) (p1 : ApiMix) : Option Int :=
  (Sh.sheaveref36_ints N p0.fBase p1.fBase).bind fun v1 =>
  cnd ((v1 != 0))
    (some v1)
    ((Sh.sheaveref36_ints N p0.fNext p1.fNext).bind fun v3 =>
    cnd ((v3 != 0))
      (some v3)
      ((Sh.sheaveref36_numbers N p0.fHeld).bind fun v5 =>
      (Sh.sheaveref36_numbers N p1.fHeld).bind fun v6 =>
      (Sh.sheaveref36_ints N v5 v6).bind fun v7 =>
      some v7))

def Sh.sheaveref36_Equal (N : Nat) (p0 : ApiMix) (p1 : ApiMix) : Option Bool :=
  (Sh.sheaveref36_Compare N p0 p1).bind fun v1 =>
  some ((v1 == 0))

def Sh.sheavelaw36_awake (N : Nat) : Option Bool :=
  (Sh.sheavelaw36_example N false).bind fun v1 =>
  (Sh.mix_Conflicts N v1 ((ApiMix.mk (([0, 0] : List Int)) (([1, (-1)] : List Int)) (([0] : List Int))))).bind fun v2 =>
  (Sh.sheavelaw36_example N false).bind fun v3 =>
  (Sh.mix_Conflicts N v3 ((ApiMix.mk (([0, 0] : List Int)) (([1, 1] : List Int)) (([0] : List Int))))).bind fun v4 =>
  (Sh.sheavelaw36_example N true).bind fun v5 =>
  (Sh.mix_Safe N v5 ((ApiMix.mk (([0, 0] : List Int)) (([1, 1] : List Int)) (([0] : List Int))))).bind fun v6 =>
  (Sh.sheavelaw36_example N true).bind fun v7 =>
  (Sh.mix_Robust N v7 ((ApiMix.mk (([0, 0] : List Int)) (([1, 1] : List Int)) (([0] : List Int))))).bind fun v8 =>
  (Sh.sheavelaw36_example N true).bind fun v9 =>
  (Sh.mix_Blame N v9 ((ApiMix.mk (([0, 0] : List Int)) (([1, 1] : List Int)) (([0] : List Int))))).bind fun v10 =>
  join (fun (v11 : Bool) =>
    some v11)
  fun j11 =>
  cnd ((v2.2 == 0))
    (cnd ((v4.2 == 0))
      (cnd ((v6.2 == 0))
        (cnd ((v8.2 == 0))
          (cnd ((v10.2.2 == 0))
            ((Sh.sheaveref36_Conflicted N v2.1 (([(ApiConflict.mk 0 1 0)] : List ApiConflict))).bind fun v17 =>
            cnd v17
              ((Sh.sheaveref36_Conflicted N v4.1 (([(ApiConflict.mk 0 1 0)] : List ApiConflict))).bind fun v19 =>
              cnd v19
                (cnd v6.1
                  (cnd ((!v8.1))
                    ((Sh.sheaveref36_Equal N v10.1 ((ApiMix.mk (([0, 0] : List Int)) (([1, (-1)] : List Int)) (([0] : List Int))))).bind fun v23 =>
                    cnd v23
                      (j11 ((v10.2.1.fTable == 0) && ((v10.2.1.fWriter == 1) && ((v10.2.1.fReader == (-1)) && true))))
                      (j11 false))
                    (j11 false))
                  (j11 false))
                (j11 false))
              (j11 false))
            (j11 false))
          (j11 false))
        (j11 false))
      (j11 false))
    (j11 false)

def Sh.sheaveref36_code (N : Nat) (p0 : List Int) (p1 : Int) : Option Int :=
  cnd ((decide (p1 < (p0.length : Int))))
    ((idx p0 p1).bind fun v2 =>
    some ((IntKind.wrap .i64 v2)))
    (some 0)

def Sh.sheaveref36_Running (N : Nat) (p0 : ApiMix) (p1 : Int) : Option Int :=
  (idx p0.fBase p1).bind fun v1 =>
  (chk (0 ≤ v1)).bind fun _ =>
  join (fun (v3 : Int) =>
    some v3)
  fun j3 =>
  (idx p0.fNext p1).bind fun v4 =>
  cnd ((decide (0 ≤ v4)))
    ((idx p0.fNext p1).bind fun v6 =>
    (chk (0 ≤ v6)).bind fun _ =>
    j3 (orI .u8 ((shlI .u8 1 v1)) ((shlI .u8 1 v6))))
    (j3 (shlI .u8 1 v1))

def Sh.sheaveref36_Of_L1 (N : Nat) (p0 : ApiProblem) (p1 : Sheaveref36Draft) (j1 : ((List Int) × (List Int)) → Option ApiMix) : Nat → ((List Int) × (List Int) × Int) → Option ApiMix
  | 0, _ => none
  | n1 + 1, v1 =>
    cnd ((decide (v1.2.2 < (p0.fVersions.length : Int))))
      ((idx p0.fVersions v1.2.2).bind fun v4 =>
      (Sh.sheaveref36_code N p1.fBase v1.2.2).bind fun v5 =>
      (chk (v4 ≠ 0)).bind fun _ =>
      join (fun (v7 : Int) =>
        (chk (v1.1.length + (([(Int.tmod v5 v4)] : List Int)).length ≤ lim)).bind fun _ =>
        (chk (v1.2.1.length + (([v7] : List Int)).length ≤ lim)).bind fun _ =>
        Sh.sheaveref36_Of_L1 N p0 p1 j1 n1 (v1.1 ++ (([(Int.tmod v5 v4)] : List Int)), v1.2.1 ++ (([v7] : List Int)), (IntKind.wrap .i64 (v1.2.2 + 1))))
      fun j7 =>
      (Sh.sheaveref36_code N p1.fNext v1.2.2).bind fun v8 =>
      (chk (v4 ≠ 0)).bind fun _ =>
      cnd ((decide (0 < (Int.tmod v8 v4))))
        ((chk (v4 ≠ 0)).bind fun _ =>
        j7 (Int.tmod ((IntKind.wrap .i64 ((Int.tmod v5 v4) + (Int.tmod v8 v4)))) v4))
        (j7 (-1)))
      (j1 (v1.1, v1.2.1))
def Sh.sheaveref36_Of_L14 (N : Nat) (p0 : ApiProblem) (p1 : Sheaveref36Draft) (v2 : (List Int) × (List Int)) (j14 : ((List Int)) → Option ApiMix) : Nat → ((List Int) × Int) → Option ApiMix
  | 0, _ => none
  | n14 + 1, v14 =>
    cnd ((decide (v14.2 < (p0.fTables.length : Int))))
      ((idx p0.fTables v14.2).bind fun v17 =>
      join (fun (v18 : Int) =>
        (chk (v14.1.length + (([v18] : List Int)).length ≤ lim)).bind fun _ =>
        Sh.sheaveref36_Of_L14 N p0 p1 v2 j14 n14 (v14.1 ++ (([v18] : List Int)), (IntKind.wrap .i64 (v14.2 + 1))))
      fun j18 =>
      (Sh.sheaveref35_Stored N v17).bind fun v19 =>
      cnd v19
        ((idx p0.fVersions v17.fFrom).bind fun v21 =>
        (chk (0 ≤ v21)).bind fun _ =>
        (Sh.sheaveref36_Running N ((ApiMix.mk v2.1 v2.2 v14.1)) v17.fFrom).bind fun v23 =>
        (Sh.sheaveref36_code N p1.fHeld v14.2).bind fun v24 =>
        j18 (orI .u8 v23 ((andI .u8 ((IntKind.wrap .u8 v24)) ((IntKind.wrap .u8 ((shlI .u8 1 v21) - 1)))))))
        (j18 0))
      (j14 v14.1)
def Sh.sheaveref36_Of (N : Nat) (p0 : ApiProblem) (p1 : Sheaveref36Draft) : Option ApiMix :=
  Sh.sheaveref36_Of_L1 N p0 p1 (fun (v2 : (List Int) × (List Int)) =>
    Sh.sheaveref36_Of_L14 N p0 p1 v2 (fun (v15 : (List Int)) =>
      some ((ApiMix.mk v2.1 v2.2 v15))) N (([] : List Int), 0)) N (([] : List Int), ([] : List Int), 0)

def Sh.sheaveref36_Has (N : Nat) (p0 : Int) (p1 : Int) : Option Bool :=
  (chk (0 ≤ p1)).bind fun _ =>
  some (((andI .u8 ((shrI .u8 p0 p1)) 1) == 1))

def Sh.sheaveref36_Found_L17 (N : Nat) (p0 : ApiProblem) (p1 : ApiMix) (v1 : (List ApiConflict) × Int) (v4 : ApiTable) (v10 : (List ApiConflict) × Int) (j17 : ((List ApiConflict) × Bool) → Option ((List ApiConflict))) : Nat → ((List ApiConflict) × Bool × Int) → Option ((List ApiConflict))
  | 0, _ => none
  | n17 + 1, v17 =>
    (idx p0.fVersions v4.fTo).bind fun v19 =>
    cnd ((decide (v17.2.2 < v19)))
      (join (fun (v21 : (List ApiConflict) × Bool) =>
        Sh.sheaveref36_Found_L17 N p0 p1 v1 v4 v10 j17 n17 (v21.1, v21.2, (IntKind.wrap .i64 (v17.2.2 + 1))))
      fun j21 =>
      (Sh.sheaveref36_Running N p1 v4.fTo).bind fun v22 =>
      (Sh.sheaveref36_Has N v22 v17.2.2).bind fun v23 =>
      cnd ((!v23))
        (j21 (v17.1, v17.2.1))
        (join (fun (v25 : Bool) =>
          join (fun (v29 : Bool) =>
            cnd v29
              ((chk (v17.1.length + (([(ApiConflict.mk v1.2 v10.2 v17.2.2)] : List ApiConflict)).length ≤ lim)).bind fun _ =>
              j21 (v17.1 ++ (([(ApiConflict.mk v1.2 v10.2 v17.2.2)] : List ApiConflict)), v25))
              (j21 (v17.1, v25)))
          fun j29 =>
          cnd ((!v4.fAware))
            ((idx v4.fOK v10.2).bind fun v31 =>
            (idx v31 v17.2.2).bind fun v32 =>
            j29 (!v32))
            (j29 false))
        fun j25 =>
        cnd v17.2.1
          (j25 true)
          ((idx v4.fOK v10.2).bind fun v27 =>
          (idx v27 v17.2.2).bind fun v28 =>
          j25 v28)))
      (j17 (v17.1, v17.2.1))
def Sh.sheaveref36_Found_L10 (N : Nat) (p0 : ApiProblem) (p1 : ApiMix) (v1 : (List ApiConflict) × Int) (v4 : ApiTable) (v6 : Int) (j10 : ((List ApiConflict)) → Option ((List ApiConflict))) : Nat → ((List ApiConflict) × Int) → Option ((List ApiConflict))
  | 0, _ => none
  | n10 + 1, v10 =>
    (idx p0.fVersions v4.fFrom).bind fun v12 =>
    cnd ((decide (v10.2 < v12)))
      (join (fun (v14 : (List ApiConflict)) =>
        Sh.sheaveref36_Found_L10 N p0 p1 v1 v4 v6 j10 n10 (v14, (IntKind.wrap .i64 (v10.2 + 1))))
      fun j14 =>
      (Sh.sheaveref36_Has N v6 v10.2).bind fun v15 =>
      cnd ((!v15))
        (j14 v10.1)
        (Sh.sheaveref36_Found_L17 N p0 p1 v1 v4 v10 (fun (v18 : (List ApiConflict) × Bool) =>
          join (fun (v35 : Bool) =>
            cnd v35
              ((chk (v18.1.length + (([(ApiConflict.mk v1.2 v10.2 ((-1)))] : List ApiConflict)).length ≤ lim)).bind fun _ =>
              j14 (v18.1 ++ (([(ApiConflict.mk v1.2 v10.2 ((-1)))] : List ApiConflict))))
              (j14 v18.1))
          fun j35 =>
          cnd v4.fAware
            (j35 (!v18.2))
            (j35 false)) N (v10.1, false, 0)))
      (j10 v10.1)
def Sh.sheaveref36_Found_L1 (N : Nat) (p0 : ApiProblem) (p1 : ApiMix) (j1 : ((List ApiConflict)) → Option ((List ApiConflict))) : Nat → ((List ApiConflict) × Int) → Option ((List ApiConflict))
  | 0, _ => none
  | n1 + 1, v1 =>
    cnd ((decide (v1.2 < (p0.fTables.length : Int))))
      ((idx p0.fTables v1.2).bind fun v4 =>
      (Sh.sheaveref36_Running N p1 v4.fFrom).bind fun v5 =>
      join (fun (v6 : Int) =>
        Sh.sheaveref36_Found_L10 N p0 p1 v1 v4 v6 (fun (v11 : (List ApiConflict)) =>
          Sh.sheaveref36_Found_L1 N p0 p1 j1 n1 (v11, (IntKind.wrap .i64 (v1.2 + 1)))) N (v1.1, 0))
      fun j6 =>
      (Sh.sheaveref35_Stored N v4).bind fun v7 =>
      cnd v7
        ((idx p1.fHeld v1.2).bind fun v9 =>
        j6 v9)
        (j6 v5))
      (j1 v1.1)
def Sh.sheaveref36_Found (N : Nat) (p0 : ApiProblem) (p1 : ApiMix) : Option ((List ApiConflict)) :=
  Sh.sheaveref36_Found_L1 N p0 p1 (fun (v2 : (List ApiConflict)) =>
    some v2) N (([] : List ApiConflict), 0)

def Sh.sheavelaw36_MixConflicts (N : Nat) (p0 : Sheaveref35Draft) (p1 : Sheaveref36Draft) : Option Bool :=
  (Sh.sheaveref35_Of N p0).bind fun v1 =>
  join (fun (v2 : Bool) =>
    cnd v2
      ((Sh.sheavelaw36_awake N).bind fun v6 =>
      some v6)
      ((Sh.sheaveref36_Of N v1.1 p1).bind fun v7 =>
      (Sh.mix_Conflicts N v1.1 v7).bind fun v8 =>
      (Sh.mix_Safe N v1.1 v7).bind fun v9 =>
      (Sh.sheaveref36_Found N v1.1 v7).bind fun v10 =>
      join (fun (v11 : Bool) =>
        some v11)
      fun j11 =>
      cnd ((v8.2 == 0))
        (cnd ((v9.2 == 0))
          ((Sh.sheaveref36_Conflicted N v8.1 v10).bind fun v14 =>
          cnd v14
            (j11 (v9.1 == ((v10.length : Int) == 0)))
            (j11 false))
          (j11 false))
        (j11 false)))
  fun j2 =>
  (Sh.sheavelaw36_awake N).bind fun v3 =>
  cnd ((!v3))
    (j2 true)
    (j2 (!v1.2))

def Sh.sheaveref35_square_L2 (N : Nat) (p0 : List (List Bool)) (p1 : Int) (p2 : Int) (j2 : Unit → Option Bool) : Nat → Int → Option Bool
  | 0, _ => none
  | n2 + 1, v2 =>
    cnd ((decide (v2 < p1)))
      ((idx p0 v2).bind fun v5 =>
      cnd (((v5.length : Int) != p2))
        (some false)
        (Sh.sheaveref35_square_L2 N p0 p1 p2 j2 n2 (IntKind.wrap .i64 (v2 + 1))))
      (j2 ())
def Sh.sheaveref35_square (N : Nat) (p0 : List (List Bool)) (p1 : Int) (p2 : Int) : Option Bool :=
  cnd (((p0.length : Int) != p1))
    (some false)
    (Sh.sheaveref35_square_L2 N p0 p1 p2 (fun (v3 : Unit) =>
      some true) N 0)

def Sh.sheaveref35_table_L22 (N : Nat) (p1 : ApiTable) (j22 : Unit → Option Int) : Nat → Int → Option Int
  | 0, _ => none
  | n22 + 1, v22 =>
    cnd ((decide (v22 < (p1.fRewrite.length : Int))))
      ((idx p1.fRewrite v22).bind fun v25 =>
      (idx v25 v22).bind fun v26 =>
      cnd ((!v26))
        (some 1)
        (Sh.sheaveref35_table_L22 N p1 j22 n22 (IntKind.wrap .i64 (v22 + 1))))
      (j22 ())
def Sh.sheaveref35_table (N : Nat) (p0 : ApiProblem) (p1 : ApiTable) : Option Int :=
  join (fun (v1 : Bool) =>
    cnd v1
      (some 1)
      (join (fun (v7 : Bool) =>
        cnd v7
          (some 4)
          ((idx p0.fVersions p1.fFrom).bind fun v12 =>
          (idx p0.fVersions p1.fTo).bind fun v13 =>
          (Sh.sheaveref35_square N p1.fOK v12 v13).bind fun v14 =>
          cnd ((!v14))
            (some 6)
            (cnd ((p1.fKind != 4))
              (cnd (((p1.fRewrite.length : Int) != 0))
                (some 6)
                (some 0))
              ((idx p0.fVersions p1.fFrom).bind fun v18 =>
              (idx p0.fVersions p1.fFrom).bind fun v19 =>
              (Sh.sheaveref35_square N p1.fRewrite v18 v19).bind fun v20 =>
              cnd ((!v20))
                (some 6)
                (Sh.sheaveref35_table_L22 N p1 (fun (v23 : Unit) =>
                  some 0) N 0)))))
      fun j7 =>
      cnd ((decide (p1.fFrom < 0)))
        (j7 true)
        (cnd ((decide ((p0.fVersions.length : Int) ≤ p1.fFrom)))
          (j7 true)
          (cnd ((decide (p1.fTo < 0)))
            (j7 true)
            (j7 (decide ((p0.fVersions.length : Int) ≤ p1.fTo)))))))
  fun j1 =>
  cnd ((decide (p1.fKind < 1)))
    (j1 true)
    (cnd ((decide (4 < p1.fKind)))
      (j1 true)
      (cnd p1.fAware
        ((Sh.sheaveref35_Stored N p1).bind fun v5 =>
        j1 v5)
        (j1 false)))

def Sh.sheaveref35_ValidProblem_L7 (N : Nat) (p0 : ApiProblem) (j7 : Unit → Option Int) : Nat → Int → Option Int
  | 0, _ => none
  | n7 + 1, v7 =>
    cnd ((decide (v7 < (p0.fVersions.length : Int))))
      ((idx p0.fVersions v7).bind fun v10 =>
      join (fun (v11 : Bool) =>
        cnd v11
          (some 7)
          (Sh.sheaveref35_ValidProblem_L7 N p0 j7 n7 (IntKind.wrap .i64 (v7 + 1))))
      fun j11 =>
      cnd ((decide (v10 < 1)))
        (j11 true)
        (cnd ((decide (6 < v10)))
          (j11 true)
          ((idx p0.fNow v7).bind fun v14 =>
          cnd ((decide (v14 < 0)))
            (j11 true)
            ((idx p0.fNow v7).bind fun v16 =>
            cnd ((decide (v10 ≤ v16)))
              (j11 true)
              ((idx p0.fTarget v7).bind fun v18 =>
              cnd ((decide (v18 < 0)))
                (j11 true)
                ((idx p0.fTarget v7).bind fun v20 =>
                j11 (decide (v10 ≤ v20))))))))
      (j7 ())
def Sh.sheaveref35_ValidProblem_L22 (N : Nat) (p0 : ApiProblem) (j22 : Unit → Option Int) : Nat → Int → Option Int
  | 0, _ => none
  | n22 + 1, v22 =>
    cnd ((decide (v22 < (p0.fTables.length : Int))))
      ((idx p0.fTables v22).bind fun v25 =>
      (Sh.sheaveref35_table N p0 v25).bind fun v26 =>
      cnd ((v26 != 0))
        (some v26)
        (Sh.sheaveref35_ValidProblem_L22 N p0 j22 n22 (IntKind.wrap .i64 (v22 + 1))))
      (j22 ())
def Sh.sheaveref35_ValidProblem (N : Nat) (p0 : ApiProblem) : Option Int :=
  join (fun (v1 : Bool) =>
    cnd v1
      (some 3)
      (join (fun (v4 : Bool) =>
        cnd v4
          (some 6)
          (Sh.sheaveref35_ValidProblem_L7 N p0 (fun (v8 : Unit) =>
            Sh.sheaveref35_ValidProblem_L22 N p0 (fun (v23 : Unit) =>
              some 0) N 0) N 0))
      fun j4 =>
      cnd (((p0.fNow.length : Int) != (p0.fVersions.length : Int)))
        (j4 true)
        (j4 ((p0.fTarget.length : Int) != (p0.fVersions.length : Int)))))
  fun j1 =>
  cnd ((decide (6 < (p0.fVersions.length : Int))))
    (j1 true)
    (j1 (decide (12 < (p0.fTables.length : Int))))

def Sh.sheaveref36_Valid_L7 (N : Nat) (p0 : ApiProblem) (p1 : ApiMix) (j7 : Unit → Option Int) : Nat → Int → Option Int
  | 0, _ => none
  | n7 + 1, v7 =>
    cnd ((decide (v7 < (p0.fVersions.length : Int))))
      (join (fun (v10 : Bool) =>
        cnd v10
          (some 7)
          ((idx p1.fBase v7).bind fun v21 =>
          (idx p1.fNext v7).bind fun v22 =>
          cnd ((v21 == v22))
            (some 1)
            (Sh.sheaveref36_Valid_L7 N p0 p1 j7 n7 (IntKind.wrap .i64 (v7 + 1)))))
      fun j10 =>
      (idx p1.fBase v7).bind fun v11 =>
      cnd ((decide (v11 < 0)))
        (j10 true)
        ((idx p1.fBase v7).bind fun v13 =>
        (idx p0.fVersions v7).bind fun v14 =>
        cnd ((decide (v14 ≤ v13)))
          (j10 true)
          ((idx p1.fNext v7).bind fun v16 =>
          cnd ((decide (v16 < (-1))))
            (j10 true)
            ((idx p1.fNext v7).bind fun v18 =>
            (idx p0.fVersions v7).bind fun v19 =>
            j10 (decide (v19 ≤ v18))))))
      (j7 ())
def Sh.sheaveref36_Valid_L24 (N : Nat) (p0 : ApiProblem) (p1 : ApiMix) (j24 : Unit → Option Int) : Nat → Int → Option Int
  | 0, _ => none
  | n24 + 1, v24 =>
    cnd ((decide (v24 < (p0.fTables.length : Int))))
      ((idx p0.fTables v24).bind fun v27 =>
      (idx p0.fVersions v27.fFrom).bind fun v28 =>
      (chk (0 ≤ v28)).bind fun _ =>
      join (fun (v30 : Bool) =>
        cnd v30
          (some 1)
          (Sh.sheaveref36_Valid_L24 N p0 p1 j24 n24 (IntKind.wrap .i64 (v24 + 1))))
      fun j30 =>
      (Sh.sheaveref35_Stored N v27).bind fun v31 =>
      cnd ((!v31))
        ((idx p1.fHeld v24).bind fun v33 =>
        cnd ((v33 != 0))
          (j30 true)
          ((Sh.sheaveref35_Stored N v27).bind fun v35 =>
          cnd v35
            ((idx p1.fHeld v24).bind fun v37 =>
            cnd (((andNotI .u8 v37 ((IntKind.wrap .u8 ((shlI .u8 1 v28) - 1)))) != 0))
              (j30 true)
              ((Sh.sheaveref36_Running N p1 v27.fFrom).bind fun v39 =>
              (idx p1.fHeld v24).bind fun v40 =>
              j30 ((andNotI .u8 v39 v40) != 0)))
            (j30 false)))
        ((Sh.sheaveref35_Stored N v27).bind fun v41 =>
        cnd v41
          ((idx p1.fHeld v24).bind fun v43 =>
          cnd (((andNotI .u8 v43 ((IntKind.wrap .u8 ((shlI .u8 1 v28) - 1)))) != 0))
            (j30 true)
            ((Sh.sheaveref36_Running N p1 v27.fFrom).bind fun v45 =>
            (idx p1.fHeld v24).bind fun v46 =>
            j30 ((andNotI .u8 v45 v46) != 0)))
          (j30 false)))
      (j24 ())
def Sh.sheaveref36_Valid (N : Nat) (p0 : ApiProblem) (p1 : ApiMix) : Option Int :=
  (Sh.sheaveref35_ValidProblem N p0).bind fun v1 =>
  cnd ((v1 != 0))
    (some v1)
    (join (fun (v3 : Bool) =>
      cnd v3
        (some 6)
        (Sh.sheaveref36_Valid_L7 N p0 p1 (fun (v8 : Unit) =>
          Sh.sheaveref36_Valid_L24 N p0 p1 (fun (v25 : Unit) =>
            some 0) N 0) N 0))
    fun j3 =>
    cnd (((p1.fBase.length : Int) != (p0.fVersions.length : Int)))
      (j3 true)
      (cnd (((p1.fNext.length : Int) != (p0.fVersions.length : Int)))
        (j3 true)
        (j3 ((p1.fHeld.length : Int) != (p0.fTables.length : Int)))))

def Sh.sheaveref36_copied (N : Nat) (p0 : ApiMix) : Option ApiMix :=
  (chk ((([] : List Int)).length + p0.fBase.length ≤ lim)).bind fun _ =>
  (chk ((([] : List Int)).length + p0.fNext.length ≤ lim)).bind fun _ =>
  (chk ((([] : List Int)).length + p0.fHeld.length ≤ lim)).bind fun _ =>
  some ((ApiMix.mk ((([] : List Int)) ++ p0.fBase) ((([] : List Int)) ++ p0.fNext) ((([] : List Int)) ++ p0.fHeld)))

def Sh.sheaveref36_All_L1 (N : Nat) (p0 : ApiMix) (j1 : Int → Option ((List ApiMix))) : Nat → (Int × Int) → Option ((List ApiMix))
  | 0, _ => none
  | n1 + 1, v1 =>
    cnd ((decide (v1.2 < (p0.fNext.length : Int))))
      (join (fun (v4 : Int) =>
        Sh.sheaveref36_All_L1 N p0 j1 n1 (v4, (IntKind.wrap .i64 (v1.2 + 1))))
      fun j4 =>
      (idx p0.fNext v1.2).bind fun v5 =>
      cnd ((decide (0 ≤ v5)))
        (j4 (IntKind.wrap .i64 (v1.1 + 1)))
        (j4 v1.1))
      (j1 v1.1)
def Sh.sheaveref36_All_L12 (N : Nat) (p0 : ApiMix) (v7 : (List ApiMix) × Int) (j12 : ((List Int)) → Option ((List ApiMix))) : Nat → ((List Int) × Int × Int) → Option ((List ApiMix))
  | 0, _ => none
  | n12 + 1, v12 =>
    cnd ((decide (v12.2.2 < (p0.fNext.length : Int))))
      (join (fun (v15 : (List Int) × Int) =>
        Sh.sheaveref36_All_L12 N p0 v7 j12 n12 (v15.1, v15.2, (IntKind.wrap .i64 (v12.2.2 + 1))))
      fun j15 =>
      (idx p0.fNext v12.2.2).bind fun v16 =>
      cnd ((decide (v16 < 0)))
        (j15 (v12.1, v12.2.1))
        (join (fun (v18 : (List Int)) =>
          j15 (v18, (IntKind.wrap .i64 (v12.2.1 + 1))))
        fun j18 =>
        (chk (0 ≤ v12.2.1)).bind fun _ =>
        cnd (((Int.tmod ((shrI .i64 v7.2 v12.2.1)) 2) == 1))
          ((idx v12.1 v12.2.2).bind fun v21 =>
          j18 (v12.1.set (v12.2.2).toNat ((-1))))
          (j18 v12.1)))
      (j12 v12.1)
def Sh.sheaveref36_All_L7 (N : Nat) (p0 : ApiMix) (v2 : Int) (j7 : ((List ApiMix)) → Option ((List ApiMix))) : Nat → ((List ApiMix) × Int) → Option ((List ApiMix))
  | 0, _ => none
  | n7 + 1, v7 =>
    (chk (0 ≤ v2)).bind fun _ =>
    cnd ((decide (v7.2 < (shlI .i64 1 v2))))
      ((Sh.sheaveref36_copied N p0).bind fun v11 =>
      Sh.sheaveref36_All_L12 N p0 v7 (fun (v13 : (List Int)) =>
        (chk (v7.1.length + (([(ApiMix.mk v11.fBase v13 v11.fHeld)] : List ApiMix)).length ≤ lim)).bind fun _ =>
        Sh.sheaveref36_All_L7 N p0 v2 j7 n7 (v7.1 ++ (([(ApiMix.mk v11.fBase v13 v11.fHeld)] : List ApiMix)), (IntKind.wrap .i64 (v7.2 + 1)))) N (v11.fNext, 0, 0))
      (j7 v7.1)
def Sh.sheaveref36_All (N : Nat) (p0 : ApiMix) : Option ((List ApiMix)) :=
  Sh.sheaveref36_All_L1 N p0 (fun (v2 : Int) =>
    Sh.sheaveref36_All_L7 N p0 v2 (fun (v8 : (List ApiMix)) =>
      some v8) N (([] : List ApiMix), 0)) N (0, 0)

def Sh.sheaveref36_Aborts (N : Nat) (p0 : ApiProblem) (p1 : ApiMix) : Option ((List ApiMix) × Int) :=
  (Sh.sheaveref36_Valid N p0 p1).bind fun v1 =>
  cnd ((v1 != 0))
    (some (([] : List ApiMix), v1))
    ((Sh.sheaveref36_All N p1).bind fun v3 =>
    some (v3, 0))

def Sh.sheaveref36_Blame_L3 (N : Nat) (p0 : ApiProblem) (v1 : (List ApiMix) × Int) (j3 : Unit → Option (ApiMix × ApiConflict × Int)) : Nat → Int → Option (ApiMix × ApiConflict × Int)
  | 0, _ => none
  | n3 + 1, v3 =>
    cnd ((decide (v3 < (v1.1.length : Int))))
      ((idx v1.1 v3).bind fun v6 =>
      (Sh.sheaveref36_Found N p0 v6).bind fun v7 =>
      cnd ((decide (0 < (v7.length : Int))))
        ((idx v1.1 v3).bind fun v9 =>
        (idx v7 0).bind fun v10 =>
        some (v9, v10, 0))
        (Sh.sheaveref36_Blame_L3 N p0 v1 j3 n3 (IntKind.wrap .i64 (v3 + 1))))
      (j3 ())
def Sh.sheaveref36_Blame (N : Nat) (p0 : ApiProblem) (p1 : ApiMix) : Option (ApiMix × ApiConflict × Int) :=
  (Sh.sheaveref36_Aborts N p0 p1).bind fun v1 =>
  cnd ((v1.2 != 0))
    (some ((ApiMix.mk (([] : List Int)) (([] : List Int)) (([] : List Int))), (ApiConflict.mk 0 0 0), v1.2))
    (Sh.sheaveref36_Blame_L3 N p0 v1 (fun (v4 : Unit) =>
      some ((ApiMix.mk (([] : List Int)) (([] : List Int)) (([] : List Int))), (ApiConflict.mk 0 0 0), 15)) N 0)

def Sh.sheaveref36_Same_L2 (N : Nat) (p0 : List ApiMix) (p1 : List ApiMix) (j2 : Unit → Option Bool) : Nat → Int → Option Bool
  | 0, _ => none
  | n2 + 1, v2 =>
    cnd ((decide (v2 < (p0.length : Int))))
      ((idx p0 v2).bind fun v5 =>
      (idx p1 v2).bind fun v6 =>
      (Sh.sheaveref36_Equal N v5 v6).bind fun v7 =>
      cnd ((!v7))
        (some false)
        (Sh.sheaveref36_Same_L2 N p0 p1 j2 n2 (IntKind.wrap .i64 (v2 + 1))))
      (j2 ())
def Sh.sheaveref36_Same (N : Nat) (p0 : List ApiMix) (p1 : List ApiMix) : Option Bool :=
  cnd (((p0.length : Int) != (p1.length : Int)))
    (some false)
    (Sh.sheaveref36_Same_L2 N p0 p1 (fun (v3 : Unit) =>
      some true) N 0)

def Sh.sheaveref36_IsSafe (N : Nat) (p0 : ApiProblem) (p1 : ApiMix) : Option Bool :=
  (Sh.sheaveref36_Found N p0 p1).bind fun v1 =>
  some (((v1.length : Int) == 0))

def Sh.sheaveref36_IsRobust_L2 (N : Nat) (p0 : ApiProblem) (v1 : (List ApiMix)) (j2 : Unit → Option Bool) : Nat → Int → Option Bool
  | 0, _ => none
  | n2 + 1, v2 =>
    cnd ((decide (v2 < (v1.length : Int))))
      ((idx v1 v2).bind fun v5 =>
      (Sh.sheaveref36_IsSafe N p0 v5).bind fun v6 =>
      cnd ((!v6))
        (some false)
        (Sh.sheaveref36_IsRobust_L2 N p0 v1 j2 n2 (IntKind.wrap .i64 (v2 + 1))))
      (j2 ())
def Sh.sheaveref36_IsRobust (N : Nat) (p0 : ApiProblem) (p1 : ApiMix) : Option Bool :=
  (Sh.sheaveref36_All N p1).bind fun v1 =>
  Sh.sheaveref36_IsRobust_L2 N p0 v1 (fun (v3 : Unit) =>
    some true) N 0

def Sh.sheavelaw36_MixAborts (N : Nat) (p0 : Sheaveref35Draft) (p1 : Sheaveref36Draft) : Option Bool :=
  (Sh.sheaveref35_Of N p0).bind fun v1 =>
  join (fun (v2 : Bool) =>
    cnd v2
      ((Sh.sheavelaw36_awake N).bind fun v6 =>
      some v6)
      ((Sh.sheaveref36_Of N v1.1 p1).bind fun v7 =>
      (Sh.mix_Aborts N v1.1 v7).bind fun v8 =>
      (Sh.mix_Robust N v1.1 v7).bind fun v9 =>
      (Sh.mix_Blame N v1.1 v7).bind fun v10 =>
      (Sh.sheaveref36_Blame N v1.1 v7).bind fun v11 =>
      join (fun (v12 : Bool) =>
        some v12)
      fun j12 =>
      cnd ((v8.2 == 0))
        (cnd ((v9.2 == 0))
          ((Sh.sheaveref36_All N v7).bind fun v15 =>
          (Sh.sheaveref36_Same N v8.1 v15).bind fun v16 =>
          cnd v16
            ((Sh.sheaveref36_IsRobust N v1.1 v7).bind fun v18 =>
            cnd ((v9.1 == v18))
              ((Sh.sheaveref36_Equal N v10.1 v11.1).bind fun v20 =>
              cnd v20
                (cnd (((v10.2.1.fTable == v11.2.1.fTable) && ((v10.2.1.fWriter == v11.2.1.fWriter) && ((v10.2.1.fReader == v11.2.1.fReader) && true))))
                  (j12 (v10.2.2 == v11.2.2))
                  (j12 false))
                (j12 false))
              (j12 false))
            (j12 false))
          (j12 false))
        (j12 false)))
  fun j2 =>
  (Sh.sheavelaw36_awake N).bind fun v3 =>
  cnd ((!v3))
    (j2 true)
    (j2 (!v1.2))

def Sh.sheavelaw36_MixAborted_L17 (N : Nat) (v1 : ApiProblem × Bool) (v9 : Bool × Int) (v10 : (List ApiMix) × Int) (j17 : Unit → Option Bool) : Nat → Int → Option Bool
  | 0, _ => none
  | n17 + 1, v17 =>
    cnd ((decide (v17 < (v10.1.length : Int))))
      ((idx v10.1 v17).bind fun v20 =>
      (Sh.mix_Robust N v1.1 v20).bind fun v21 =>
      join (fun (v22 : Bool) =>
        cnd v22
          (some false)
          (Sh.sheavelaw36_MixAborted_L17 N v1 v9 v10 j17 n17 (IntKind.wrap .i64 (v17 + 1))))
      fun j22 =>
      cnd ((v21.2 != 0))
        (j22 true)
        (cnd v9.1
          (j22 (!v21.1))
          (j22 false)))
      (j17 ())
def Sh.sheavelaw36_MixAborted_L26 (N : Nat) (v1 : ApiProblem × Bool) (j26 : Unit → Option Bool) : Nat → Int → Option Bool
  | 0, _ => none
  | n26 + 1, v26 =>
    cnd ((decide (v26 < (v1.1.fTables.length : Int))))
      ((idx v1.1.fTables v26).bind fun v29 =>
      cnd v29.fAware
        (some true)
        (Sh.sheavelaw36_MixAborted_L26 N v1 j26 n26 (IntKind.wrap .i64 (v26 + 1))))
      (j26 ())
def Sh.sheavelaw36_MixAborted (N : Nat) (p0 : Sheaveref35Draft) (p1 : Sheaveref36Draft) : Option Bool :=
  (Sh.sheaveref35_Of N p0).bind fun v1 =>
  join (fun (v2 : Bool) =>
    cnd v2
      ((Sh.sheavelaw36_awake N).bind fun v6 =>
      some v6)
      ((Sh.sheaveref36_Of N v1.1 p1).bind fun v7 =>
      (Sh.mix_Safe N v1.1 v7).bind fun v8 =>
      (Sh.mix_Robust N v1.1 v7).bind fun v9 =>
      (Sh.mix_Aborts N v1.1 v7).bind fun v10 =>
      join (fun (v11 : Bool) =>
        cnd v11
          (some false)
          (Sh.sheavelaw36_MixAborted_L17 N v1 v9 v10 (fun (v18 : Unit) =>
            Sh.sheavelaw36_MixAborted_L26 N v1 (fun (v27 : Unit) =>
              some ((v9.1 == v8.1))) N 0) N 0))
      fun j11 =>
      cnd ((v8.2 != 0))
        (j11 true)
        (cnd ((v9.2 != 0))
          (j11 true)
          (cnd ((v10.2 != 0))
            (j11 true)
            (cnd v9.1
              (j11 (!v8.1))
              (j11 false))))))
  fun j2 =>
  (Sh.sheavelaw36_awake N).bind fun v3 =>
  cnd ((!v3))
    (j2 true)
    (j2 (!v1.2))

def Sh.sheaveref35_Few_L14 (N : Nat) (p0 : ApiProblem) (v6 : Int) (j14 : Unit → Option Bool) : Nat → Int → Option Bool
  | 0, _ => none
  | n14 + 1, v14 =>
    (idx p0.fTables v6).bind fun v16 =>
    cnd ((decide (v14 < (v16.fOK.length : Int))))
      ((idx p0.fTables v6).bind fun v18 =>
      (idx v18.fOK v14).bind fun v19 =>
      cnd ((decide (8 < (v19.length : Int))))
        (some false)
        (Sh.sheaveref35_Few_L14 N p0 v6 j14 n14 (IntKind.wrap .i64 (v14 + 1))))
      (j14 ())
def Sh.sheaveref35_Few_L21 (N : Nat) (p0 : ApiProblem) (v6 : Int) (j21 : Unit → Option Bool) : Nat → Int → Option Bool
  | 0, _ => none
  | n21 + 1, v21 =>
    (idx p0.fTables v6).bind fun v23 =>
    cnd ((decide (v21 < (v23.fRewrite.length : Int))))
      ((idx p0.fTables v6).bind fun v25 =>
      (idx v25.fRewrite v21).bind fun v26 =>
      cnd ((decide (8 < (v26.length : Int))))
        (some false)
        (Sh.sheaveref35_Few_L21 N p0 v6 j21 n21 (IntKind.wrap .i64 (v21 + 1))))
      (j21 ())
def Sh.sheaveref35_Few_L6 (N : Nat) (p0 : ApiProblem) (j6 : Unit → Option Bool) : Nat → Int → Option Bool
  | 0, _ => none
  | n6 + 1, v6 =>
    cnd ((decide (v6 < (p0.fTables.length : Int))))
      (join (fun (v9 : Bool) =>
        cnd v9
          (some false)
          (Sh.sheaveref35_Few_L14 N p0 v6 (fun (v15 : Unit) =>
            Sh.sheaveref35_Few_L21 N p0 v6 (fun (v22 : Unit) =>
              Sh.sheaveref35_Few_L6 N p0 j6 n6 (IntKind.wrap .i64 (v6 + 1))) N 0) N 0))
      fun j9 =>
      (idx p0.fTables v6).bind fun v10 =>
      cnd ((decide (8 < (v10.fOK.length : Int))))
        (j9 true)
        ((idx p0.fTables v6).bind fun v12 =>
        j9 (decide (8 < (v12.fRewrite.length : Int)))))
      (j6 ())
def Sh.sheaveref35_Few (N : Nat) (p0 : ApiProblem) : Option Bool :=
  join (fun (v1 : Bool) =>
    cnd v1
      (some false)
      (Sh.sheaveref35_Few_L6 N p0 (fun (v7 : Unit) =>
        some true) N 0))
  fun j1 =>
  cnd ((decide (8 < (p0.fVersions.length : Int))))
    (j1 true)
    (cnd ((decide (8 < (p0.fNow.length : Int))))
      (j1 true)
      (cnd ((decide (8 < (p0.fTarget.length : Int))))
        (j1 true)
        (j1 (decide (14 < (p0.fTables.length : Int))))))

def Sh.sheaveref36_Few (N : Nat) (p0 : ApiMix) : Option Bool :=
  join (fun (v1 : Bool) =>
    some v1)
  fun j1 =>
  cnd ((decide ((p0.fBase.length : Int) ≤ 8)))
    (cnd ((decide ((p0.fNext.length : Int) ≤ 8)))
      (j1 (decide ((p0.fHeld.length : Int) ≤ 14)))
      (j1 false))
    (j1 false)

def Sh.slices_Equal_int_int_L2 (N : Nat) (p0 : List Int) (p1 : List Int) (j2 : Unit → Option Bool) : Nat → Int → Option Bool
  | 0, _ => none
  | n2 + 1, v2 =>
    cnd ((decide (v2 < (p0.length : Int))))
      ((idx p0 v2).bind fun v5 =>
      (idx p1 v2).bind fun v6 =>
      cnd ((v5 != v6))
        (some false)
        (Sh.slices_Equal_int_int_L2 N p0 p1 j2 n2 (IntKind.wrap .i64 (v2 + 1))))
      (j2 ())
def Sh.slices_Equal_int_int (N : Nat) (p0 : List Int) (p1 : List Int) : Option Bool :=
  cnd (((p0.length : Int) != (p1.length : Int)))
    (some false)
    (Sh.slices_Equal_int_int_L2 N p0 p1 (fun (v3 : Unit) =>
      some true) N 0)

def Sh.slices_IndexFunc_int_int_L1 (N : Nat) (p0 : List Int) (p1 : Int → Option Bool) (j1 : Unit → Option Int) : Nat → Int → Option Int
  | 0, _ => none
  | n1 + 1, v1 =>
    cnd ((decide (v1 < (p0.length : Int))))
      ((idx p0 v1).bind fun v4 =>
      (p1 v4).bind fun v5 =>
      cnd v5
        (some v1)
        (Sh.slices_IndexFunc_int_int_L1 N p0 p1 j1 n1 (IntKind.wrap .i64 (v1 + 1))))
      (j1 ())
def Sh.slices_IndexFunc_int_int (N : Nat) (p0 : List Int) (p1 : Int → Option Bool) : Option Int :=
  Sh.slices_IndexFunc_int_int_L1 N p0 p1 (fun (v2 : Unit) =>
    some ((-1))) N 0

def Sh.slices_ContainsFunc_int_int (N : Nat) (p0 : List Int) (p1 : Int → Option Bool) : Option Bool :=
  (Sh.slices_IndexFunc_int_int N p0 p1).bind fun v1 =>
  some ((decide (0 ≤ v1)))

def Sh.mix_Goal_1 (N : Nat) (p0 : Int) : Option Bool :=
  some ((decide (0 ≤ p0)))

def Sh.mix_Goal (N : Nat) (p0 : ApiProblem) (p1 : ApiMix) : Option Bool :=
  join (fun (v1 : Bool) =>
    some v1)
  fun j1 =>
  (Sh.mix_Valid N p0 p1).bind fun v2 =>
  cnd ((v2 == 0))
    ((Sh.slices_Equal_int_int N p1.fBase p0.fTarget).bind fun v4 =>
    cnd v4
      ((Sh.slices_ContainsFunc_int_int N p1.fNext ((fun (x : Int) => Sh.mix_Goal_1 N x))).bind fun v6 =>
      j1 (!v6))
      (j1 false))
    (j1 false)

def Sh.sheavelaw36_MixValid (N : Nat) (p0 : ApiProblem) (p1 : ApiMix) : Option Bool :=
  join (fun (v1 : Bool) =>
    cnd v1
      ((Sh.sheavelaw36_awake N).bind fun v8 =>
      some v8)
      ((Sh.sheaveref36_Valid N p0 p1).bind fun v9 =>
      (Sh.mix_Valid N p0 p1).bind fun v10 =>
      join (fun (v11 : Bool) =>
        cnd v11
          (some ((v10 == v9)))
          ((Sh.mix_Conflicts N p0 p1).bind fun v14 =>
          (Sh.mix_Safe N p0 p1).bind fun v15 =>
          (Sh.mix_Aborts N p0 p1).bind fun v16 =>
          (Sh.mix_Robust N p0 p1).bind fun v17 =>
          (Sh.mix_Blame N p0 p1).bind fun v18 =>
          join (fun (v19 : Bool) =>
            some v19)
          fun j19 =>
          cnd ((v14.2 == v9))
            (cnd ((v15.2 == v9))
              (cnd ((v16.2 == v9))
                (cnd ((v17.2 == v9))
                  (cnd ((v18.2.2 == v9))
                    (cnd (((IntKind.wrap .i64 ((v14.1.length : Int) + (v16.1.length : Int))) == 0))
                      (cnd ((!v15.1))
                        (cnd ((!v17.1))
                          ((Sh.sheaveref36_Equal N v18.1 ((ApiMix.mk (([] : List Int)) (([] : List Int)) (([] : List Int))))).bind fun v28 =>
                          cnd v28
                            (cnd (((v18.2.1.fTable == 0) && ((v18.2.1.fWriter == 0) && ((v18.2.1.fReader == 0) && true))))
                              ((Sh.mix_Goal N p0 p1).bind fun v31 =>
                              j19 (!v31))
                              (j19 false))
                            (j19 false))
                          (j19 false))
                        (j19 false))
                      (j19 false))
                    (j19 false))
                  (j19 false))
                (j19 false))
              (j19 false))
            (j19 false)))
      fun j11 =>
      cnd ((v10 != v9))
        (j11 true)
        (j11 (v10 == 0))))
  fun j1 =>
  (Sh.sheavelaw36_awake N).bind fun v2 =>
  cnd ((!v2))
    (j1 true)
    ((Sh.sheaveref35_Few N p0).bind fun v4 =>
    cnd ((!v4))
      (j1 true)
      ((Sh.sheaveref36_Few N p1).bind fun v6 =>
      j1 (!v6)))

def Sh.sheaveref36_Goal_L3 (N : Nat) (p0 : ApiProblem) (p1 : ApiMix) (j3 : Unit → Option Bool) : Nat → Int → Option Bool
  | 0, _ => none
  | n3 + 1, v3 =>
    cnd ((decide (v3 < (p1.fBase.length : Int))))
      (join (fun (v6 : Bool) =>
        cnd v6
          (some false)
          (Sh.sheaveref36_Goal_L3 N p0 p1 j3 n3 (IntKind.wrap .i64 (v3 + 1))))
      fun j6 =>
      (idx p1.fNext v3).bind fun v7 =>
      cnd ((decide (0 ≤ v7)))
        (j6 true)
        ((idx p1.fBase v3).bind fun v9 =>
        (idx p0.fTarget v3).bind fun v10 =>
        j6 (v9 != v10)))
      (j3 ())
def Sh.sheaveref36_Goal (N : Nat) (p0 : ApiProblem) (p1 : ApiMix) : Option Bool :=
  (Sh.sheaveref36_Valid N p0 p1).bind fun v1 =>
  cnd ((v1 != 0))
    (some false)
    (Sh.sheaveref36_Goal_L3 N p0 p1 (fun (v4 : Unit) =>
      some true) N 0)

def Sh.sheavelaw36_MixGoal_L9 (N : Nat) (v1 : ApiProblem × Bool) (j9 : ((List Int)) → Option Bool) : Nat → ((List Int) × Int) → Option Bool
  | 0, _ => none
  | n9 + 1, v9 =>
    cnd ((decide (v9.2 < (v1.1.fTarget.length : Int))))
      ((idx v1.1.fTarget v9.2).bind fun v12 =>
      (idx v9.1 v9.2).bind fun v13 =>
      Sh.sheavelaw36_MixGoal_L9 N v1 j9 n9 (v9.1.set (v9.2).toNat v12, (IntKind.wrap .i64 (v9.2 + 1))))
      (j9 v9.1)
def Sh.sheavelaw36_MixGoal (N : Nat) (p0 : Sheaveref35Draft) (p1 : Sheaveref36Draft) : Option Bool :=
  (Sh.sheaveref35_Of N p0).bind fun v1 =>
  join (fun (v2 : Bool) =>
    cnd v2
      ((Sh.sheavelaw36_awake N).bind fun v6 =>
      some v6)
      ((Sh.sheaveref36_Of N v1.1 p1).bind fun v7 =>
      (Sh.sheaveref36_Of N v1.1 ((Sheaveref36Draft.mk p0.fTarget (([] : List Int)) p1.fHeld))).bind fun v8 =>
      Sh.sheavelaw36_MixGoal_L9 N v1 (fun (v10 : (List Int)) =>
        join (fun (v14 : Bool) =>
          some v14)
        fun j14 =>
        (Sh.mix_Goal N v1.1 v7).bind fun v15 =>
        (Sh.sheaveref36_Goal N v1.1 v7).bind fun v16 =>
        cnd ((v15 == v16))
          ((Sh.mix_Goal N v1.1 ((ApiMix.mk v10 v8.fNext v8.fHeld))).bind fun v18 =>
          (Sh.sheaveref36_Goal N v1.1 ((ApiMix.mk v10 v8.fNext v8.fHeld))).bind fun v19 =>
          j14 (v18 == v19))
          (j14 false)) N (v8.fBase, 0)))
  fun j2 =>
  (Sh.sheavelaw36_awake N).bind fun v3 =>
  cnd ((!v3))
    (j2 true)
    (j2 (!v1.2))

def Sh.cmp_isNaN_int (N : Nat) (p0 : Int) : Option Bool :=
  some ((p0 != p0))

def Sh.cmp_Compare_int (N : Nat) (p0 : Int) (p1 : Int) : Option Int :=
  (Sh.cmp_isNaN_int N p0).bind fun v1 =>
  (Sh.cmp_isNaN_int N p1).bind fun v2 =>
  cnd v1
    (cnd v2
      (some 0)
      (some ((-1))))
    (cnd v2
      (some 1)
      (cnd ((decide (p0 < p1)))
        (some ((-1)))
        (cnd ((decide (p1 < p0)))
          (some 1)
          (some 0))))

def Sh.slices_Compare_int_int_L1 (N : Nat) (p0 : List Int) (p1 : List Int) (j1 : Unit → Option Int) : Nat → Int → Option Int
  | 0, _ => none
  | n1 + 1, v1 =>
    cnd ((decide (v1 < (p0.length : Int))))
      ((idx p0 v1).bind fun v4 =>
      cnd ((decide ((p1.length : Int) ≤ v1)))
        (some 1)
        ((idx p1 v1).bind fun v6 =>
        (Sh.cmp_Compare_int N v4 v6).bind fun v7 =>
        cnd ((v7 != 0))
          (some v7)
          (Sh.slices_Compare_int_int_L1 N p0 p1 j1 n1 (IntKind.wrap .i64 (v1 + 1)))))
      (j1 ())
def Sh.slices_Compare_int_int (N : Nat) (p0 : List Int) (p1 : List Int) : Option Int :=
  Sh.slices_Compare_int_int_L1 N p0 p1 (fun (v2 : Unit) =>
    cnd ((decide ((p0.length : Int) < (p1.length : Int))))
      (some ((-1)))
      (some 0)) N 0

def Sh.cmp_isNaN_api_Set (N : Nat) (p0 : Int) : Option Bool :=
  some ((p0 != p0))

def Sh.cmp_Compare_api_Set (N : Nat) (p0 : Int) (p1 : Int) : Option Int :=
  (Sh.cmp_isNaN_api_Set N p0).bind fun v1 =>
  (Sh.cmp_isNaN_api_Set N p1).bind fun v2 =>
  cnd v1
    (cnd v2
      (some 0)
      (some ((-1))))
    (cnd v2
      (some 1)
      (cnd ((decide (p0 < p1)))
        (some ((-1)))
        (cnd ((decide (p1 < p0)))
          (some 1)
          (some 0))))

def Sh.slices_Compare_api_Set_api_Set_L1 (N : Nat) (p0 : List Int) (p1 : List Int) (j1 : Unit → Option Int) : Nat → Int → Option Int
  | 0, _ => none
  | n1 + 1, v1 =>
    cnd ((decide (v1 < (p0.length : Int))))
      ((idx p0 v1).bind fun v4 =>
      cnd ((decide ((p1.length : Int) ≤ v1)))
        (some 1)
        ((idx p1 v1).bind fun v6 =>
        (Sh.cmp_Compare_api_Set N v4 v6).bind fun v7 =>
        cnd ((v7 != 0))
          (some v7)
          (Sh.slices_Compare_api_Set_api_Set_L1 N p0 p1 j1 n1 (IntKind.wrap .i64 (v1 + 1)))))
      (j1 ())
def Sh.slices_Compare_api_Set_api_Set (N : Nat) (p0 : List Int) (p1 : List Int) : Option Int :=
  Sh.slices_Compare_api_Set_api_Set_L1 N p0 p1 (fun (v2 : Unit) =>
    cnd ((decide ((p0.length : Int) < (p1.length : Int))))
      (some ((-1)))
      (some 0)) N 0

def Sh.cmp_Or_int_L1 (N : Nat) (p0 : List Int) (j1 : Unit → Option Int) : Nat → Int → Option Int
  | 0, _ => none
  | n1 + 1, v1 =>
    cnd ((decide (v1 < (p0.length : Int))))
      ((idx p0 v1).bind fun v4 =>
      cnd ((v4 != 0))
        (some v4)
        (Sh.cmp_Or_int_L1 N p0 j1 n1 (IntKind.wrap .i64 (v1 + 1))))
      (j1 ())
def Sh.cmp_Or_int (N : Nat) (p0 : List Int) : Option Int :=
  Sh.cmp_Or_int_L1 N p0 (fun (v2 : Unit) =>
    some 0) N 0

def Sh.mix_Compare (N : Nat) (p0 : ApiMix) (p1 : ApiMix) : Option Int :=
  (Sh.slices_Compare_int_int N p0.fBase p1.fBase).bind fun v1 =>
  (Sh.slices_Compare_int_int N p0.fNext p1.fNext).bind fun v2 =>
  (Sh.slices_Compare_api_Set_api_Set N p0.fHeld p1.fHeld).bind fun v3 =>
  (Sh.cmp_Or_int N (([v1, v2, v3] : List Int))).bind fun v4 =>
  some v4

def Sh.sheavelaw36_MixCompare (N : Nat) (p0 : ApiMix) (p1 : ApiMix) (p2 : ApiMix) : Option Bool :=
  join (fun (v1 : Bool) =>
    cnd v1
      ((Sh.sheavelaw36_awake N).bind fun v10 =>
      some v10)
      ((Sh.mix_Compare N p0 p1).bind fun v11 =>
      (Sh.mix_Compare N p1 p2).bind fun v12 =>
      (Sh.mix_Compare N p0 p2).bind fun v13 =>
      join (fun (v14 : Bool) =>
        some v14)
      fun j14 =>
      (Sh.sheaveref36_Compare N p0 p1).bind fun v15 =>
      cnd ((v11 == v15))
        ((Sh.mix_Compare N p1 p0).bind fun v17 =>
        cnd ((v17 == (IntKind.wrap .i64 (0 - v11))))
          ((Sh.mix_Compare N p0 p0).bind fun v19 =>
          cnd ((v19 == 0))
            (cnd ((decide (0 < v11)))
              (j14 true)
              (cnd ((decide (0 < v12)))
                (j14 true)
                (j14 (decide (v13 ≤ 0)))))
            (j14 false))
          (j14 false))
        (j14 false)))
  fun j1 =>
  (Sh.sheavelaw36_awake N).bind fun v2 =>
  cnd ((!v2))
    (j1 true)
    ((Sh.sheaveref36_Few N p0).bind fun v4 =>
    cnd ((!v4))
      (j1 true)
      ((Sh.sheaveref36_Few N p1).bind fun v6 =>
      cnd ((!v6))
        (j1 true)
        ((Sh.sheaveref36_Few N p2).bind fun v8 =>
        j1 (!v8))))

def wSl {α : Type} (w : α → Prop) (xs : List α) : Prop := ∀ x, x ∈ xs → w x
def wI64 (n : Int) : Prop := (Lit.int .i64 n).wf = true
def wU8 (n : Int) : Prop := (Lit.int .u8 n).wf = true
def wU16 (n : Int) : Prop := (Lit.int .u16 n).wf = true
def wI32 (n : Int) : Prop := (Lit.int .i32 n).wf = true
def wU32 (n : Int) : Prop := (Lit.int .u32 n).wf = true
def wU64 (n : Int) : Prop := (Lit.int .u64 n).wf = true
def wSheaveref35Link (x : Sheaveref35Link) : Prop := wU8 x.fKind ∧ wU8 x.fFrom ∧ wU8 x.fTo ∧ (fun _ => True) x.fAware ∧ wU16 x.fBad ∧ wU16 x.fLost ∧ True
def wSheaveref35Draft (x : Sheaveref35Draft) : Prop := (wSl wU8) x.fVersions ∧ (wSl wU8) x.fNow ∧ (wSl wU8) x.fTarget ∧ (wSl wSheaveref35Link) x.fLinks ∧ True
def wSheaveref36Draft (x : Sheaveref36Draft) : Prop := (wSl wU8) x.fBase ∧ (wSl wU8) x.fNext ∧ (wSl wU8) x.fHeld ∧ True
def wApiTable (x : ApiTable) : Prop := wI64 x.fKind ∧ wI64 x.fFrom ∧ wI64 x.fTo ∧ (fun _ => True) x.fAware ∧ (wSl (wSl (fun _ => True))) x.fOK ∧ (wSl (wSl (fun _ => True))) x.fRewrite ∧ True
def wApiProblem (x : ApiProblem) : Prop := (wSl wI64) x.fVersions ∧ (wSl wI64) x.fNow ∧ (wSl wI64) x.fTarget ∧ (wSl wApiTable) x.fTables ∧ True
def wApiMix (x : ApiMix) : Prop := (wSl wI64) x.fBase ∧ (wSl wI64) x.fNext ∧ (wSl wU8) x.fHeld ∧ True
def wApiConflict (x : ApiConflict) : Prop := wI64 x.fTable ∧ wI64 x.fWriter ∧ wI64 x.fReader ∧ True
end Go.Lift
