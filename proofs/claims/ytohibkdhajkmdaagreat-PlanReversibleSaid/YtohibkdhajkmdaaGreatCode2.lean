/- Lemmas for PlanReversibleSaid, which YtohibkdhajkmdaaGreatFinP11 proves. -/
import Derived.Test.YtohibkdhajkmdaaGreatLift49
import Derived.Test.YtohibkdhajkmdaaGreatProg
import Derived.KernelRfl
open Int renaming tmod → zB5
open List renaming replicate → zA5
open Nat renaming min → zE5, zero_add → zA4
open Go.Proofs.Tryz renaming prog → zA0
namespace Go.Lift
def An (n : Int) : List T := [.val (.int .i64 n)]
def C3 (n : Int) : List T := [.val (.int .u8 n)]
def aj (n : Int) : List T := [.val (.int .u16 n)]
abbrev Po (n : Int) : T := .val (.int .i64 n)
abbrev tB (b : Bool) : T := .val (.bool b)
def eB (b : Bool) : List T := [.val (.bool b)]
def JG {α : Type} (f : α → List T) (xs : List α) : List T := [.sl (xs.map f)]
theorem QQ : Xl An := ⟨by intro x y h; simpa [An] using h⟩
theorem Zo : Xl C3 := ⟨by intro x y h; simpa [C3] using h⟩
theorem ZZ : Xl eB := ⟨by intro x y h; simpa [eB] using h⟩
theorem ZI {α : Type} {f : α → List T} (h : Xl f) : Xl (JG f) := ⟨by intro x y hx; simp only [JG, List.cons.injEq, T.sl.injEq, and_true] at hx; exact Lf h.inj _ _ hx⟩
structure Hb where
 ff : Int
 fg : Int
 fo : Int
 fq : Bool
 fw : Int
 fy : Int
def GC (x : Hb) : List T := [.val (.int .u8 x.ff), .val (.int .u8 x.fg), .val (.int .u8 x.fo), .val (.bool x.fq), .val (.int .u16 x.fw), .val (.int .u16 x.fy)]
structure BA where
 fb : List Int
 fj : List Int
 fm : List Int
 fv : List Hb
def M5 (x : BA) : List T := [.sl (x.fb.map C3), .sl (x.fj.map C3), .sl (x.fm.map C3), .sl (x.fv.map GC)]
structure Ad where
 ff : Int
 fi : Int
 fk : Int
def Aq (x : Ad) : List T := [.val (.int .i64 x.ff), .val (.int .i64 x.fi), .val (.int .i64 x.fk)]
theorem OQ : Xl Aq := ⟨by
 rintro ⟨a1, a2, a3⟩ ⟨b1, b2, b3⟩ h
 simp only [Aq, List.cons.injEq, T.val.injEq, Value.int.injEq, and_true, true_and] at h
 obtain ⟨h1, h2, h3⟩ := h
 subst h1
 subst h2
 subst h3
 rfl⟩
structure Av where
 ff : Int
 fg : Int
 fo : Int
 fq : Bool
 fr : List (List Bool)
 fp : List (List Bool)
def AV (x : Av) : List T := [.val (.int .i64 x.ff), .val (.int .i64 x.fg), .val (.int .i64 x.fo), .val (.bool x.fq), .sl (x.fr.map (JG eB)), .sl (x.fp.map (JG eB))]
structure Aa where
 fb : List Int
 fj : List Int
 fm : List Int
 fe : List Av
structure Ab where
 fc : List Int
 fa : List Int
 fd : List Int
def CI (x : Ab) : List T := [.sl (x.fc.map An), .sl (x.fa.map An), .sl (x.fd.map C3)]
structure Ai where
 fA : Int
 fB : Int
 fC : Int
def AZ (x : Ai) : List T := [.val (.int .i64 x.fA), .val (.int .i64 x.fB), .val (.int .i64 x.fC)]
structure Ar where
 fh : Ab
 fg : Int
 ft : Ad
 fa : List Int
def AR (x : Ar) : List T := [.sl (x.fh.fc.map An), .sl (x.fh.fa.map An), .sl (x.fh.fd.map C3), .val (.int .i64 x.fg), .val (.int .i64 x.ft.ff), .val (.int .i64 x.ft.fi), .val (.int .i64 x.ft.fk), .sl (x.fa.map An)]
theorem RW : Xl AR := ⟨by
 rintro ⟨⟨a1, a2, a3⟩, a4, ⟨a5, a6, a7⟩, a8⟩ ⟨⟨b1, b2, b3⟩, b4, ⟨b5, b6, b7⟩, b8⟩ h
 simp only [AR, List.cons.injEq, T.val.injEq, T.sl.injEq, Value.int.injEq, and_true, true_and] at h
 obtain ⟨h1, h2, h3, h4, h5, h6, h7, h8⟩ := h
 have h1 := Lf QQ.inj _ _ h1
 subst h1
 have h2 := Lf QQ.inj _ _ h2
 subst h2
 have h3 := Lf Zo.inj _ _ h3
 subst h3
 subst h4
 subst h5
 subst h6
 subst h7
 have h8 := Lf QQ.inj _ _ h8
 subst h8
 rfl⟩
structure AC where
 fu : Ab
 fD : Int
 ft : Ad
def Br (x : AC) : List T := [.sl (x.fu.fc.map An), .sl (x.fu.fa.map An), .sl (x.fu.fd.map C3), .val (.int .i64 x.fD), .val (.int .i64 x.ft.ff), .val (.int .i64 x.ft.fi), .val (.int .i64 x.ft.fk)]
open IntKind renaming wrap → wI
def CY (_ : Nat) (p0 : Bool) (p1 : Bool) : Option Aa :=
 some ((Aa.mk (([2, 2] : List Int)) (([0, 0] : List Int)) (([1, 1] : List Int)) (([(Av.mk 1 0 1 p1 (([([true, (!p0)] : List Bool), ([false, true] : List Bool)] : List (List Bool))) (([] : List (List Bool))))] : List Av))))
def Ef (_ : Nat) (p0 : Int) (p1 : Int) : Option Bool :=
 Bi (fun (v1 : Bool) =>
  some v1)
 fun j1 =>
 AN ((decide (0 ≤ p0)))
  (j1 (decide (p0 < p1)))
  (j1 false)
def GZ (_ : Nat) (p0 : Int) (p1 : Bool) : Option Bool :=
 Bi (fun (v1 : Bool) =>
  some v1)
 fun j1 =>
 AN ((p0 == 1))
  (j1 true)
  (AN ((p0 == 2))
   (j1 true)
   (AN ((p0 == 3))
    (j1 (!p1))
    (AN ((p0 == 4))
     (j1 (!p1))
     (j1 false))))
def D8 (_ : Nat) (p0 : List Bool) (p1 : Int) : Option Bool :=
 some (((p0.length : Int) != p1))
def Bo (N : Nat) (p0 : List (List Bool)) (p1 : (List Bool) → Option Bool) (j1 : Unit → Option Int) : Nat → Int → Option Int
 | 0, _ => none
 | n1 + 1, v1 =>
  AN ((decide (v1 < (p0.length : Int))))
   ((BC p0 v1).bind fun v4 =>
   (p1 v4).bind fun v5 =>
   AN v5
    (some v1)
    (Bo N p0 p1 j1 n1 (wI .i64 (v1 + 1))))
   (j1 ())
def DE (N : Nat) (p0 : List (List Bool)) (p1 : (List Bool) → Option Bool) : Option Int :=
 Bo N p0 p1 (fun (_ : Unit) =>
  some ((-1))) N 0
def C9 (N : Nat) (p0 : List (List Bool)) (p1 : (List Bool) → Option Bool) : Option Bool :=
 (DE N p0 p1).bind fun v1 =>
 some ((decide (0 ≤ v1)))
def Fm (N : Nat) (p0 : List (List Bool)) (p1 : Int) (p2 : Int) : Option Bool :=
 Bi (fun (v1 : Bool) =>
  some v1)
 fun j1 =>
 AN (((p0.length : Int) == p1))
  ((C9 N p0 ((fun (x : List Bool) => D8 N x p2))).bind fun v3 =>
  j1 (!v3))
  (j1 false)
def Df (N : Nat) (p1 : Av) (j19 : Unit → Option Int) : Nat → Int → Option Int
 | 0, _ => none
 | n19 + 1, v19 =>
  AN ((decide (v19 < (p1.fp.length : Int))))
   ((BC p1.fp v19).bind fun v22 =>
   (BC v22 v19).bind fun v23 =>
   AN ((!v23))
    (some 1)
    (Df N p1 j19 n19 (wI .i64 (v19 + 1))))
   (j19 ())
def Gy (N : Nat) (p0 : Aa) (p1 : Av) : Option Int :=
 (GZ N p1.ff p1.fq).bind fun v1 =>
 AN ((!v1))
  (some 1)
  (Bi (fun (v3 : Bool) =>
   AN v3
    (some 4)
    ((BC p0.fb p1.fg).bind fun v8 =>
    Bi (fun (v9 : Bool) =>
     AN v9
      (some 6)
      (Df N p1 (fun (_ : Unit) =>
       some 0) N 0))
    fun j9 =>
    (BC p0.fb p1.fo).bind fun v10 =>
    (Fm N p1.fr v8 v10).bind fun v11 =>
    AN ((!v11))
     (j9 true)
     (AN ((p1.ff == 4))
      ((Fm N p1.fp v8 v8).bind fun v14 =>
      AN ((!v14))
       (j9 true)
       (AN ((!((p1.ff == 4))))
        (j9 (decide (0 < (p1.fp.length : Int))))
        (j9 false)))
      (AN ((!((p1.ff == 4))))
       (j9 (decide (0 < (p1.fp.length : Int))))
       (j9 false)))))
  fun j3 =>
  (Ef N p1.fg ((p0.fb.length : Int))).bind fun v4 =>
  AN ((!v4))
   (j3 true)
   ((Ef N p1.fo ((p0.fb.length : Int))).bind fun v6 =>
   j3 (!v6)))
def BX (N : Nat) (p0 : Aa) (j7 : Unit → Option Int) : Nat → Int → Option Int
 | 0, _ => none
 | n7 + 1, v7 =>
  AN ((decide (v7 < (p0.fb.length : Int))))
   ((BC p0.fb v7).bind fun v10 =>
   Bi (fun (v11 : Bool) =>
    AN v11
     (some 7)
     (BX N p0 j7 n7 (wI .i64 (v7 + 1))))
   fun j11 =>
   AN ((decide (v10 < 1)))
    (j11 true)
    (AN ((decide (6 < v10)))
     (j11 true)
     ((BC p0.fj v7).bind fun v14 =>
     (Ef N v14 v10).bind fun v15 =>
     AN ((!v15))
      (j11 true)
      ((BC p0.fm v7).bind fun v17 =>
      (Ef N v17 v10).bind fun v18 =>
      j11 (!v18)))))
   (j7 ())
def BQ (N : Nat) (p0 : Aa) (j20 : Unit → Option Int) : Nat → Int → Option Int
 | 0, _ => none
 | n20 + 1, v20 =>
  AN ((decide (v20 < (p0.fe.length : Int))))
   ((BC p0.fe v20).bind fun v23 =>
   (Gy N p0 v23).bind fun v24 =>
   AN ((v24 != 0))
    (some v24)
    (BQ N p0 j20 n20 (wI .i64 (v20 + 1))))
   (j20 ())
def DG (N : Nat) (p0 : Aa) : Option Int :=
 Bi (fun (v1 : Bool) =>
  AN v1
   (some 3)
   (Bi (fun (v4 : Bool) =>
    AN v4
     (some 6)
     (BX N p0 (fun (_ : Unit) =>
      BQ N p0 (fun (_ : Unit) =>
       some 0) N 0) N 0))
   fun j4 =>
   AN (((p0.fj.length : Int) != (p0.fb.length : Int)))
    (j4 true)
    (j4 ((p0.fm.length : Int) != (p0.fb.length : Int)))))
 fun j1 =>
 AN ((decide (6 < (p0.fb.length : Int))))
  (j1 true)
  (j1 (decide (12 < (p0.fe.length : Int))))
def BM (_ : Nat) (p0 : List Int) : Option ((List Int)) :=
 (Es ((([] : List Int)).length + p0.length ≤ Dv)).bind fun _ =>
 some ((([] : List Int)) ++ p0)
def Hc (_ : Nat) (p0 : Int) (p1 : Int) : Option (Int × Int) :=
 some ((wI .u32 ((FQ .u64 ((wI .u64 ((wI .u64 p0) * (wI .u64 p1)))) 32))), (wI .u32 ((wI .u64 ((wI .u64 p0) * (wI .u64 p1))))))
def He (_ : Nat) (p0 : Int) (p1 : Int) : Option (Int × Int) :=
 some ((wI .u64 ((wI .u64 ((wI .u64 ((FQ .u64 p0 32) * (FQ .u64 p1 32))) + (FQ .u64 ((wI .u64 ((wI .u64 ((FQ .u64 p0 32) * (GE .u64 p1 4294967295))) + (FQ .u64 ((wI .u64 ((GE .u64 p0 4294967295) * (GE .u64 p1 4294967295)))) 32)))) 32))) + (FQ .u64 ((wI .u64 ((GE .u64 ((wI .u64 ((wI .u64 ((FQ .u64 p0 32) * (GE .u64 p1 4294967295))) + (FQ .u64 ((wI .u64 ((GE .u64 p0 4294967295) * (GE .u64 p1 4294967295)))) 32)))) 4294967295) + (wI .u64 ((GE .u64 p0 4294967295) * (FQ .u64 p1 32)))))) 32))), (wI .u64 (p0 * p1)))
def HZ (N : Nat) (p0 : Int) (p1 : Int) : Option (Int × Int) :=
 AN false
  ((Hc N ((wI .u32 p0)) ((wI .u32 p1))).bind fun v2 =>
  some ((wI .u64 v2.1), (wI .u64 v2.2)))
  ((He N p0 p1).bind fun v3 =>
  some (v3.1, v3.2))
def D1 (N : Nat) (j9 : ((List Int)) → Option ((List Int))) : Nat → ((List Int) × Int) → Option ((List Int))
 | 0, _ => none
 | n9 + 1, v9 =>
  AN ((decide (v9.2 < (v9.1.length : Int))))
   ((Es ((0 : Int) ≤ v9.2 ∧ (v9.2).toNat ≤ v9.1.length ∧ v9.1.length ≤ v9.1.length)).bind fun _ =>
   (Es ((0 : Int) ≤ v9.2 ∧ 0 ≤ (v9.2).toNat ∧ (v9.2).toNat ≤ v9.1.length)).bind fun _ =>
   D1 N j9 n9 (JC v9.1 ((v9.2).toNat) ((((v9.1.drop 0).take ((v9.2).toNat))).take (zE5 (((v9.1.drop 0).take ((v9.2).toNat))).length ((v9.1.length - (v9.2).toNat)))), (wI .i64 (v9.2 + (((zE5 (((v9.1.drop 0).take ((v9.2).toNat))).length ((v9.1.length - (v9.2).toNat))) : Nat) : Int)))))
   (j9 v9.1)
def Ex (N : Nat) (p0 : List Int) (p1 : Int) : Option ((List Int)) :=
 Bi (fun (_ : Unit) =>
  (HZ N ((wI .u64 ((p0.length : Int)))) ((wI .u64 p1))).bind fun v3 =>
  Bi (fun (_ : Unit) =>
   (Es ((0 : Int) ≤ (wI .i64 v3.2) ∧ (wI .i64 v3.2) ≤ (wI .i64 v3.2) ∧ (wI .i64 v3.2) ≤ (Dv : Int))).bind fun _ =>
   D1 N (fun (v10 : (List Int)) =>
    some v10) N (JC (zA5 ((wI .i64 v3.2)).toNat ((0 : Int))) 0 (p0.take (zE5 p0.length ((zA5 ((wI .i64 v3.2)).toNat ((0 : Int))).length))), (((zE5 p0.length ((zA5 ((wI .i64 v3.2)).toNat ((0 : Int))).length)) : Nat) : Int)))
  fun j4 =>
  Bi (fun (v5 : Bool) =>
   AN v5
    (none)
    (j4 ()))
  fun j5 =>
  AN ((decide (0 < v3.1)))
   (j5 true)
   (j5 (decide (9223372036854775807 < v3.2))))
 fun j1 =>
 AN ((decide (p1 < 0)))
  (none)
  (j1 ())
def Fv (_ : Nat) (p0 : Av) : Option Bool :=
 Bi (fun (v1 : Bool) =>
  some v1)
 fun j1 =>
 AN ((p0.ff == 3))
  (j1 true)
  (j1 (p0.ff == 4))
def Ec (N : Nat) (p0 : Aa) (j6 : ((List Int)) → Option (Ab × Int)) : Nat → ((List Int) × Int) → Option (Ab × Int)
 | 0, _ => none
 | n6 + 1, v6 =>
  AN ((decide (v6.2 < (p0.fe.length : Int))))
   (Bi (fun (v9 : (List Int)) =>
    Ec N p0 j6 n6 (v9, (wI .i64 (v6.2 + 1))))
   fun j9 =>
   (BC p0.fe v6.2).bind fun v10 =>
   (Fv N v10).bind fun v11 =>
   AN v11
    ((BC p0.fj v10.fg).bind fun v13 =>
    (Es (0 ≤ v13)).bind fun _ =>
    (BC v6.1 v6.2).bind fun _ =>
    j9 (v6.1.set ((v6.2).toNat) ((D3 .u8 1 v13))))
    (j9 v6.1))
   (j6 v6.1)
def F1 (N : Nat) (p0 : Aa) : Option (Ab × Int) :=
 (DG N p0).bind fun v1 =>
 AN ((v1 != 0))
  (some ((Ab.mk (([] : List Int)) (([] : List Int)) (([] : List Int))), v1))
  ((BM N p0.fj).bind fun v3 =>
  (Ex N (([(-1)] : List Int)) ((p0.fj.length : Int))).bind fun v4 =>
  (Es ((0 : Int) ≤ (p0.fe.length : Int) ∧ (p0.fe.length : Int) ≤ (p0.fe.length : Int) ∧ (p0.fe.length : Int) ≤ (Dv : Int))).bind fun _ =>
  Ec N p0 (fun (v7 : (List Int)) =>
   some ((Ab.mk v3 v4 v7), 0)) N (zA5 ((p0.fe.length : Int)).toNat ((0 : Int)), 0))
def E9 (_ : Nat) (p0 : Ab) (p1 : Int) : Option Int :=
 (BC p0.fc p1).bind fun v1 =>
 (Es (0 ≤ v1)).bind fun _ =>
 Bi (fun (v3 : Int) =>
  some v3)
 fun j3 =>
 (BC p0.fa p1).bind fun v4 =>
 AN ((decide (0 ≤ v4)))
  ((BC p0.fa p1).bind fun v6 =>
  (Es (0 ≤ v6)).bind fun _ =>
  j3 (O9 .u8 ((D3 .u8 1 v1)) ((D3 .u8 1 v6))))
  (j3 (D3 .u8 1 v1))
def Ee (N : Nat) (p0 : Aa) (p1 : Ab) (j7 : Unit → Option Int) : Nat → Int → Option Int
 | 0, _ => none
 | n7 + 1, v7 =>
  AN ((decide (v7 < (p0.fb.length : Int))))
   ((BC p0.fb v7).bind fun v10 =>
   Bi (fun (v11 : Bool) =>
    AN v11
     (some 7)
     ((BC p1.fc v7).bind fun v20 =>
     (BC p1.fa v7).bind fun v21 =>
     AN ((v20 == v21))
      (some 1)
      (Ee N p0 p1 j7 n7 (wI .i64 (v7 + 1)))))
   fun j11 =>
   (BC p1.fc v7).bind fun v12 =>
   AN ((decide (v12 < 0)))
    (j11 true)
    ((BC p1.fc v7).bind fun v14 =>
    AN ((decide (v10 ≤ v14)))
     (j11 true)
     ((BC p1.fa v7).bind fun v16 =>
     AN ((decide (v16 < (-1))))
      (j11 true)
      ((BC p1.fa v7).bind fun v18 =>
      j11 (decide (v10 ≤ v18))))))
   (j7 ())
def DZ (N : Nat) (p0 : Aa) (p1 : Ab) (j23 : Unit → Option Int) : Nat → Int → Option Int
 | 0, _ => none
 | n23 + 1, v23 =>
  AN ((decide (v23 < (p0.fe.length : Int))))
   ((BC p0.fe v23).bind fun v26 =>
   Bi (fun (v27 : Int × Int) =>
    Bi (fun (v33 : Bool) =>
     AN v33
      (some 1)
      (DZ N p0 p1 j23 n23 (wI .i64 (v23 + 1))))
    fun j33 =>
    (BC p1.fd v23).bind fun v34 =>
    AN (((Dn .u8 v27.1 v34) != 0))
     (j33 true)
     ((BC p1.fd v23).bind fun v36 =>
     j33 ((Dn .u8 v36 v27.2) != 0)))
   fun j27 =>
   (Fv N v26).bind fun v28 =>
   AN v28
    ((E9 N p1 v26.fg).bind fun v30 =>
    (BC p0.fb v26.fg).bind fun v31 =>
    (Es (0 ≤ v31)).bind fun _ =>
    j27 (v30, (wI .u8 ((D3 .u8 1 v31) - 1))))
    (j27 (0, 0)))
   (j23 ())
def EW (N : Nat) (p0 : Aa) (p1 : Ab) : Option Int :=
 (DG N p0).bind fun v1 =>
 AN ((v1 != 0))
  (some v1)
  (Bi (fun (v3 : Bool) =>
   AN v3
    (some 6)
    (Ee N p0 p1 (fun (_ : Unit) =>
     DZ N p0 p1 (fun (_ : Unit) =>
      some 0) N 0) N 0))
  fun j3 =>
  AN (((p1.fc.length : Int) != (p0.fb.length : Int)))
   (j3 true)
   (AN (((p1.fa.length : Int) != (p0.fb.length : Int)))
    (j3 true)
    (j3 ((p1.fd.length : Int) != (p0.fe.length : Int)))))
def BR (_ : Nat) (p0 : List Int) : Option ((List Int)) :=
 (Es ((([] : List Int)).length + p0.length ≤ Dv)).bind fun _ =>
 some ((([] : List Int)) ++ p0)
def DT (N : Nat) (p1 : Ab) (j3 : ((List Int)) → Option ((List Ab) × Int)) : Nat → ((List Int) × Int) → Option ((List Ab) × Int)
 | 0, _ => none
 | n3 + 1, v3 =>
  AN ((decide (v3.2 < (p1.fa.length : Int))))
   (Bi (fun (v6 : (List Int)) =>
    DT N p1 j3 n3 (v6, (wI .i64 (v3.2 + 1))))
   fun j6 =>
   (BC p1.fa v3.2).bind fun v7 =>
   AN ((decide (0 ≤ v7)))
    ((Es (v3.1.length + (([v3.2] : List Int)).length ≤ Dv)).bind fun _ =>
    j6 (v3.1 ++ (([v3.2] : List Int))))
    (j6 v3.1))
   (j3 v3.1)
def Da (N : Nat) (v4 : (List Int)) (v11 : (List Ab) × Int) (j17 : ((List Int)) → Option ((List Ab) × Int)) : Nat → ((List Int) × Int) → Option ((List Ab) × Int)
 | 0, _ => none
 | n17 + 1, v17 =>
  AN ((decide (v17.2 < (v4.length : Int))))
   (Bi (fun (v20 : (List Int)) =>
    Da N v4 v11 j17 n17 (v20, (wI .i64 (v17.2 + 1))))
   fun j20 =>
   (BC v4 v17.2).bind fun v21 =>
   (Es (0 ≤ v17.2)).bind fun _ =>
   AN (((GE .i64 ((FQ .i64 v11.2 v17.2)) 1) == 1))
    ((BC v17.1 v21).bind fun _ =>
    j20 (v17.1.set ((v21).toNat) ((-1))))
    (j20 v17.1))
   (j17 v17.1)
def C6 (N : Nat) (p1 : Ab) (v4 : (List Int)) (j11 : ((List Ab)) → Option ((List Ab) × Int)) : Nat → ((List Ab) × Int) → Option ((List Ab) × Int)
 | 0, _ => none
 | n11 + 1, v11 =>
  AN ((decide (v11.2 < (D3 .i64 1 ((v4.length : Int))))))
   ((BM N p1.fc).bind fun v14 =>
   (BM N p1.fa).bind fun v15 =>
   (BR N p1.fd).bind fun v16 =>
   Da N v4 v11 (fun (v18 : (List Int)) =>
    (Es (v11.1.length + (([(Ab.mk v14 v18 v16)] : List Ab)).length ≤ Dv)).bind fun _ =>
    C6 N p1 v4 j11 n11 (v11.1 ++ (([(Ab.mk v14 v18 v16)] : List Ab)), (wI .i64 (v11.2 + 1)))) N (v15, 0))
   (j11 v11.1)
def G7 (N : Nat) (p0 : Aa) (p1 : Ab) : Option ((List Ab) × Int) :=
 (EW N p0 p1).bind fun v1 =>
 AN ((v1 != 0))
  (some (([] : List Ab), v1))
  (DT N p1 (fun (v4 : (List Int)) =>
   (Es (0 ≤ (v4.length : Int))).bind fun _ =>
   C6 N p1 v4 (fun (v12 : (List Ab)) =>
    some (v12, 0)) N (([] : List Ab), 0)) N (([] : List Int), 0))
def B3 (N : Nat) (v1 : (List Ai) × Int) (v4 : Av) (v6 : Int) (v11 : (List Ai) × Int) (v17 : List Bool) (j18 : ((List Ai) × Bool) → Option ((List Ai))) : Nat → ((List Ai) × Bool × Int) → Option ((List Ai))
 | 0, _ => none
 | n18 + 1, v18 =>
  AN ((decide (v18.2.2 < (v17.length : Int))))
   (Bi (fun (v21 : (List Ai) × Bool) =>
    B3 N v1 v4 v6 v11 v17 j18 n18 (v21.1, v21.2, (wI .i64 (v18.2.2 + 1))))
   fun j21 =>
   (BC v17 v18.2.2).bind fun v22 =>
   (Es (0 ≤ v18.2.2)).bind fun _ =>
   AN (((GE .u8 ((FQ .u8 v6 v18.2.2)) 1) == 0))
    (j21 (v18.1, v18.2.1))
    (Bi (fun (v25 : Bool) =>
     Bi (fun (v27 : Bool) =>
      AN v27
       ((Es (v18.1.length + (([(Ai.mk v1.2 v11.2 v18.2.2)] : List Ai)).length ≤ Dv)).bind fun _ =>
       j21 (v18.1 ++ (([(Ai.mk v1.2 v11.2 v18.2.2)] : List Ai)), v25))
       (j21 (v18.1, v25)))
     fun j27 =>
     AN ((!v22))
      (j27 (!v4.fq))
      (j27 false))
    fun j25 =>
    AN v18.2.1
     (j25 true)
     (j25 v22)))
   (j18 (v18.1, v18.2.1))
def Ct (N : Nat) (v1 : (List Ai) × Int) (v4 : Av) (v6 : Int) (v7 : Int) (j11 : ((List Ai)) → Option ((List Ai))) : Nat → ((List Ai) × Int) → Option ((List Ai))
 | 0, _ => none
 | n11 + 1, v11 =>
  AN ((decide (v11.2 < (v4.fr.length : Int))))
   (Bi (fun (v14 : (List Ai)) =>
    Ct N v1 v4 v6 v7 j11 n11 (v14, (wI .i64 (v11.2 + 1))))
   fun j14 =>
   (Es (0 ≤ v11.2)).bind fun _ =>
   AN (((GE .u8 ((FQ .u8 v7 v11.2)) 1) == 0))
    (j14 v11.1)
    ((BC v4.fr v11.2).bind fun v17 =>
    B3 N v1 v4 v6 v11 v17 (fun (v19 : (List Ai) × Bool) =>
     Bi (fun (v31 : Bool) =>
      AN v31
       ((Es (v19.1.length + (([(Ai.mk v1.2 v11.2 ((-1)))] : List Ai)).length ≤ Dv)).bind fun _ =>
       j14 (v19.1 ++ (([(Ai.mk v1.2 v11.2 ((-1)))] : List Ai))))
       (j14 v19.1))
     fun j31 =>
     AN v4.fq
      (j31 (!v19.2))
      (j31 false)) N (v11.1, false, 0)))
   (j11 v11.1)
def Du (N : Nat) (p0 : Aa) (p1 : Ab) (j1 : ((List Ai)) → Option ((List Ai))) : Nat → ((List Ai) × Int) → Option ((List Ai))
 | 0, _ => none
 | n1 + 1, v1 =>
  AN ((decide (v1.2 < (p0.fe.length : Int))))
   ((BC p0.fe v1.2).bind fun v4 =>
   (E9 N p1 v4.fg).bind fun v5 =>
   (E9 N p1 v4.fo).bind fun v6 =>
   Bi (fun (v7 : Int) =>
    Ct N v1 v4 v6 v7 (fun (v12 : (List Ai)) =>
     Du N p0 p1 j1 n1 (v12, (wI .i64 (v1.2 + 1)))) N (v1.1, 0))
   fun j7 =>
   (Fv N v4).bind fun v8 =>
   AN v8
    ((BC p1.fd v1.2).bind fun v10 =>
    j7 v10)
    (j7 v5))
   (j1 v1.1)
def FJ (N : Nat) (p0 : Aa) (p1 : Ab) : Option ((List Ai)) :=
 Du N p0 p1 (fun (v2 : (List Ai)) =>
  some v2) N (([] : List Ai), 0)
def ER (N : Nat) (p0 : Aa) (v1 : (List Ab) × Int) (j3 : Unit → Option (Ab × Ai × Int)) : Nat → Int → Option (Ab × Ai × Int)
 | 0, _ => none
 | n3 + 1, v3 =>
  AN ((decide (v3 < (v1.1.length : Int))))
   ((BC v1.1 v3).bind fun v6 =>
   (FJ N p0 v6).bind fun v7 =>
   AN ((decide (0 < (v7.length : Int))))
    ((BC v7 0).bind fun v9 =>
    some (v6, v9, 0))
    (ER N p0 v1 j3 n3 (wI .i64 (v3 + 1))))
   (j3 ())
def F2 (N : Nat) (p0 : Aa) (p1 : Ab) : Option (Ab × Ai × Int) :=
 (G7 N p0 p1).bind fun v1 =>
 AN ((v1.2 != 0))
  (some ((Ab.mk (([] : List Int)) (([] : List Int)) (([] : List Int))), (Ai.mk 0 0 0), v1.2))
  (ER N p0 v1 (fun (_ : Unit) =>
   some ((Ab.mk (([] : List Int)) (([] : List Int)) (([] : List Int))), (Ai.mk 0 0 0), 15)) N 0)
def F8 (N : Nat) (p0 : Aa) (p1 : Ab) : Option (Bool × Int) :=
 (F2 N p0 p1).bind fun v1 =>
 AN ((v1.2.2 == 0))
  (some (false, 0))
  (AN ((v1.2.2 == 15))
   (some (true, 0))
   (some (false, v1.2.2)))
def ED (N : Nat) (p0 : Ab) (j2 : ((List Int)) → Option ByteArray) : Nat → ((List Int) × Int) → Option ByteArray
 | 0, _ => none
 | n2 + 1, v2 =>
  AN ((decide (v2.2 < (p0.fc.length : Int))))
   ((BC p0.fc v2.2).bind fun v5 =>
   (BC p0.fa v2.2).bind fun v6 =>
   (Es (v2.1.length + (([(wI .u8 v5), (wI .u8 ((wI .i64 (v6 + 1))))] : List Int)).length ≤ Dv)).bind fun _ =>
   ED N p0 j2 n2 (v2.1 ++ (([(wI .u8 v5), (wI .u8 ((wI .i64 (v6 + 1))))] : List Int)), (wI .i64 (v2.2 + 1))))
   (j2 v2.1)
def DL (N : Nat) (p0 : Ab) (j8 : ((List Int)) → Option ByteArray) : Nat → ((List Int) × Int) → Option ByteArray
 | 0, _ => none
 | n8 + 1, v8 =>
  AN ((decide (v8.2 < (p0.fd.length : Int))))
   ((BC p0.fd v8.2).bind fun v11 =>
   (Es (v8.1.length + (([v11] : List Int)).length ≤ Dv)).bind fun _ =>
   DL N p0 j8 n8 (v8.1 ++ (([v11] : List Int)), (wI .i64 (v8.2 + 1))))
   (j8 v8.1)
def Ho (N : Nat) (p0 : Ab) : Option ByteArray :=
 (Es ((0 : Int) ≤ 0 ∧ 0 ≤ (wI .i64 ((wI .i64 (2 * (p0.fc.length : Int))) + (p0.fd.length : Int))) ∧ (wI .i64 ((wI .i64 (2 * (p0.fc.length : Int))) + (p0.fd.length : Int))) ≤ (Dv : Int))).bind fun _ =>
 ED N p0 (fun (v3 : (List Int)) =>
  DL N p0 (fun (v9 : (List Int)) =>
   some ((CF v9))) N (v3, 0)) N (zA5 (0 : Int).toNat ((0 : Int)), 0)
def Ey (N : Nat) (v1 : (List Ad) × Int) (v4 : Int) (j5 : ((List Ad)) → Option ((List Ad))) : Nat → ((List Ad) × Int) → Option ((List Ad))
 | 0, _ => none
 | n5 + 1, v5 =>
  AN ((decide (v5.2 < v4)))
   ((Es (v5.1.length + (([(Ad.mk 1 v1.2 v5.2)] : List Ad)).length ≤ Dv)).bind fun _ =>
   Ey N v1 v4 j5 n5 (v5.1 ++ (([(Ad.mk 1 v1.2 v5.2)] : List Ad)), (wI .i64 (v5.2 + 1))))
   (j5 v5.1)
def Dh (N : Nat) (p0 : Aa) (j1 : ((List Ad)) → Option ((List Ad))) : Nat → ((List Ad) × Int) → Option ((List Ad))
 | 0, _ => none
 | n1 + 1, v1 =>
  AN ((decide (v1.2 < (p0.fb.length : Int))))
   ((BC p0.fb v1.2).bind fun v4 =>
   Ey N v1 v4 (fun (v6 : (List Ad)) =>
    Dh N p0 j1 n1 (v6, (wI .i64 (v1.2 + 1)))) N (v1.1, 0))
   (j1 v1.1)
def Cs (N : Nat) (p0 : Aa) (j9 : ((List Ad)) → Option ((List Ad))) : Nat → ((List Ad) × Int) → Option ((List Ad))
 | 0, _ => none
 | n9 + 1, v9 =>
  AN ((decide (v9.2 < (p0.fb.length : Int))))
   ((Es (v9.1.length + (([(Ad.mk 2 v9.2 0)] : List Ad)).length ≤ Dv)).bind fun _ =>
   Cs N p0 j9 n9 (v9.1 ++ (([(Ad.mk 2 v9.2 0)] : List Ad)), (wI .i64 (v9.2 + 1))))
   (j9 v9.1)
def Bu (N : Nat) (p0 : Aa) (j13 : ((List Ad)) → Option ((List Ad))) : Nat → ((List Ad) × Int) → Option ((List Ad))
 | 0, _ => none
 | n13 + 1, v13 =>
  AN ((decide (v13.2 < (p0.fe.length : Int))))
   ((Es (v13.1.length + (([(Ad.mk 3 v13.2 0)] : List Ad)).length ≤ Dv)).bind fun _ =>
   Bu N p0 j13 n13 (v13.1 ++ (([(Ad.mk 3 v13.2 0)] : List Ad)), (wI .i64 (v13.2 + 1))))
   (j13 v13.1)
def Ig (N : Nat) (p0 : Aa) : Option ((List Ad)) :=
 Dh N p0 (fun (v2 : (List Ad)) =>
  Cs N p0 (fun (v10 : (List Ad)) =>
   Bu N p0 (fun (v14 : (List Ad)) =>
    some v14) N (v10, 0)) N (v2, 0)) N (([] : List Ad), 0)
def FE (N : Nat) (p0 : Ab) : Option Ab :=
 (BM N p0.fc).bind fun v1 =>
 (BM N p0.fa).bind fun v2 =>
 (BR N p0.fd).bind fun v3 =>
 some ((Ab.mk v1 v2 v3))
def FP (_ : Nat) (p0 : Av) : Option Bool :=
 Bi (fun (v1 : Bool) =>
  some v1)
 fun j1 =>
 AN ((p0.ff == 3))
  (j1 true)
  (j1 (p0.ff == 4))
def DU (N : Nat) (p0 : Aa) (p2 : Ad) (j7 : ((List Int)) → Option (Bool × (List Int) × (List Int))) : Nat → ((List Int) × Int) → Option (Bool × (List Int) × (List Int))
 | 0, _ => none
 | n7 + 1, v7 =>
  AN ((decide (v7.2 < (p0.fe.length : Int))))
   (Bi (fun (v10 : (List Int)) =>
    DU N p0 p2 j7 n7 (v10, (wI .i64 (v7.2 + 1))))
   fun j10 =>
   (BC p0.fe v7.2).bind fun v11 =>
   Bi (fun (v12 : Bool) =>
    AN v12
     ((BC v7.1 v7.2).bind fun v16 =>
     (Es (0 ≤ p2.fk)).bind fun _ =>
     (BC v7.1 v7.2).bind fun _ =>
     j10 (v7.1.set ((v7.2).toNat) ((O9 .u8 v16 ((D3 .u8 1 p2.fk))))))
     (j10 v7.1))
   fun j12 =>
   AN ((v11.fg == p2.fi))
    ((FP N v11).bind fun v14 =>
    j12 v14)
    (j12 false))
   (j7 v7.1)
def H4 (N : Nat) (p0 : Aa) (p1 : Ab) (p2 : Ad) : Option (Bool × (List Int) × (List Int)) :=
 Bi (fun (v1 : Bool) =>
  AN v1
   (some (false, p1.fa, p1.fd))
   ((BC p1.fa p2.fi).bind fun _ =>
   DU N p0 p2 (fun (v8 : (List Int)) =>
    some (true, p1.fa.set ((p2.fi).toNat) p2.fk, v8)) N (p1.fd, 0)))
 fun j1 =>
 (BC p1.fa p2.fi).bind fun v2 =>
 AN ((decide (0 ≤ v2)))
  (j1 true)
  ((BC p1.fc p2.fi).bind fun v4 =>
  j1 (v4 == p2.fk))
def F4 (_ : Nat) (p0 : Ab) (p1 : Int) : Option Int :=
 (BC p0.fc p1).bind fun v1 =>
 (Es (0 ≤ v1)).bind fun _ =>
 Bi (fun (v3 : Int) =>
  some v3)
 fun j3 =>
 (BC p0.fa p1).bind fun v4 =>
 AN ((decide (0 ≤ v4)))
  ((BC p0.fa p1).bind fun v6 =>
  (Es (0 ≤ v6)).bind fun _ =>
  j3 (O9 .u8 ((D3 .u8 1 v1)) ((D3 .u8 1 v6))))
  (j3 (D3 .u8 1 v1))
def C7 (_ : Nat) (p0 : Int) : Option Int :=
 (WD ((⟨⟨(List.append (List.append [8, 0, 1, 0, 2, 0, 1, 0, 3, 0, 1, 0, 2, 0, 1, 0, 4, 0, 1, 0, 2, 0, 1, 0, 3, 0, 1, 0, 2, 0, 1, 0, 5, 0, 1, 0, 2, 0, 1, 0, 3, 0, 1, 0, 2, 0, 1, 0, 4, 0, 1, 0, 2, 0, 1, 0, 3, 0, 1, 0, 2, 0, 1, 0] [6, 0, 1, 0, 2, 0, 1, 0, 3, 0, 1, 0, 2, 0, 1, 0, 4, 0, 1, 0, 2, 0, 1, 0, 3, 0, 1, 0, 2, 0, 1, 0, 5, 0, 1, 0, 2, 0, 1, 0, 3, 0, 1, 0, 2, 0, 1, 0, 4, 0, 1, 0, 2, 0, 1, 0, 3, 0, 1, 0, 2, 0, 1, 0]) (List.append [7, 0, 1, 0, 2, 0, 1, 0, 3, 0, 1, 0, 2, 0, 1, 0, 4, 0, 1, 0, 2, 0, 1, 0, 3, 0, 1, 0, 2, 0, 1, 0, 5, 0, 1, 0, 2, 0, 1, 0, 3, 0, 1, 0, 2, 0, 1, 0, 4, 0, 1, 0, 2, 0, 1, 0, 3, 0, 1, 0, 2, 0, 1, 0] [6, 0, 1, 0, 2, 0, 1, 0, 3, 0, 1, 0, 2, 0, 1, 0, 4, 0, 1, 0, 2, 0, 1, 0, 3, 0, 1, 0, 2, 0, 1, 0, 5, 0, 1, 0, 2, 0, 1, 0, 3, 0, 1, 0, 2, 0, 1, 0, 4, 0, 1, 0, 2, 0, 1, 0, 3, 0, 1, 0, 2, 0, 1, 0]))⟩⟩ : ByteArray)) p0).bind fun v1 =>
 some ((wI .i64 v1))
def DF (N : Nat) (p0 : Av) (p2 : Int) (j1 : Unit → Option Bool) : Nat → Int → Option Bool
 | 0, _ => none
 | n1 + 1, v1 =>
  AN ((v1 != 0))
   ((C7 N v1).bind fun v4 =>
   (BC p0.fp v4).bind fun v5 =>
   (BC v5 p2).bind fun v6 =>
   AN ((!v6))
    (some false)
    (DF N p0 p2 j1 n1 (GE .u8 v1 ((wI .u8 (v1 - 1))))))
   (j1 ())
def FZ (N : Nat) (p0 : Av) (p1 : Int) (p2 : Int) : Option Bool :=
 DF N p0 p2 (fun (_ : Unit) =>
  some true) N p1
def GX (N : Nat) (p0 : Aa) (p1 : Ab) (p2 : Int) : Option (Bool × (List Int)) :=
 (BC p0.fe p2).bind fun v1 =>
 (FP N v1).bind fun v2 =>
 AN ((!v2))
  (some (false, p1.fd))
  ((F4 N p1 v1.fg).bind fun v4 =>
  (BC p1.fd p2).bind fun v5 =>
  Bi (fun (v6 : Bool) =>
   AN v6
    (some (false, p1.fd))
    ((BC p1.fd p2).bind fun _ =>
    some (true, p1.fd.set ((p2).toNat) v4)))
  fun j6 =>
  (BC p1.fd p2).bind fun v7 =>
  AN ((v7 == v4))
   (j6 true)
   (AN ((v1.ff == 4))
    ((BC p1.fc v1.fg).bind fun v10 =>
    (FZ N v1 ((Dn .u8 v5 v4)) v10).bind fun v11 =>
    j6 (!v11))
    (j6 false)))
def Fu (N : Nat) (p0 : Aa) (p1 : Ab) (p2 : Ad) : Option (Ab × Bool) :=
 (FE N p1).bind fun v1 =>
 AN ((p2.ff == 1))
  ((H4 N p0 v1 p2).bind fun v3 =>
  some ((Ab.mk v1.fc v3.2.1 v3.2.2), v3.1))
  (AN ((p2.ff == 3))
   ((GX N p0 v1 p2.fi).bind fun v5 =>
   some ((Ab.mk v1.fc v1.fa v5.2), v5.1))
   ((BC v1.fa p2.fi).bind fun v6 =>
   AN ((decide (v6 < 0)))
    (some (v1, false))
    ((BC v1.fa p2.fi).bind fun _ =>
    Bi (fun (v9 : (List Int)) =>
     some ((Ab.mk v9 (v1.fa.set ((p2.fi).toNat) ((-1))) v1.fd), true))
    fun j9 =>
    AN ((p2.ff == 2))
     ((BC v1.fc p2.fi).bind fun _ =>
     j9 (v1.fc.set ((p2.fi).toNat) v6))
     (j9 v1.fc))))
def DC (N : Nat) (p0 : Ad) (p1 : List Int) (p2 : List Int) (p3 : List Int) (p4 : List Av) (p5 : List Int) (p6 : List Int) (p7 : List Int) : Option Bool :=
 (Fu N ((Aa.mk p1 p2 p3 p4)) ((Ab.mk p5 p6 p7)) p0).bind fun v1 =>
 some ((!v1.2))
def A1 (N : Nat) (p0 : List Ad) (p1 : Ad → Option Bool) (j1 : Unit → Option Int) : Nat → Int → Option Int
 | 0, _ => none
 | n1 + 1, v1 =>
  AN ((decide (v1 < (p0.length : Int))))
   ((BC p0 v1).bind fun v4 =>
   (p1 v4).bind fun v5 =>
   AN v5
    (some v1)
    (A1 N p0 p1 j1 n1 (wI .i64 (v1 + 1))))
   (j1 ())
def BI (N : Nat) (p0 : List Ad) (p1 : Ad → Option Bool) : Option Int :=
 A1 N p0 p1 (fun (_ : Unit) =>
  some ((-1))) N 0
def AW (N : Nat) (p1 : Ad → Option Bool) (j3 : ((List Ad) × Int) → Option (Nat × (List Ad))) : Nat → ((List Ad) × Int × Int) → Option (Nat × (List Ad))
 | 0, _ => none
 | n3 + 1, v3 =>
  AN ((decide (v3.2.2 < (v3.1.length : Int))))
   (Bi (fun (v6 : (List Ad) × Int) =>
    AW N p1 j3 n3 (v6.1, v6.2, (wI .i64 (v3.2.2 + 1))))
   fun j6 =>
   (BC v3.1 v3.2.2).bind fun v7 =>
   (p1 v7).bind fun v8 =>
   AN ((!v8))
    ((BC v3.1 v3.2.1).bind fun _ =>
    j6 (v3.1.set ((v3.2.1).toNat) v7, (wI .i64 (v3.2.1 + 1))))
    (j6 (v3.1, v3.2.1)))
   (j3 (v3.1, v3.2.1))
def BG (N : Nat) (p0 : List Ad) (p1 : Ad → Option Bool) : Option (Nat × (List Ad)) :=
 (BI N p0 p1).bind fun v1 =>
 AN ((v1 == (-1)))
  (some (p0.length, p0))
  (AW N p1 (fun (v4 : (List Ad) × Int) =>
   (Es ((0 : Int) ≤ v4.2 ∧ (v4.2).toNat ≤ v4.1.length ∧ v4.1.length ≤ v4.1.length)).bind fun _ =>
   (Es ((0 : Int) ≤ v4.2 ∧ 0 ≤ (v4.2).toNat ∧ (v4.2).toNat ≤ (JC v4.1 ((v4.2).toNat) (zA5 ((v4.1.length - (v4.2).toNat)) ((Ad.mk 0 0 0)))).length)).bind fun _ =>
   some ((v4.2).toNat, JC v4.1 ((v4.2).toNat) (zA5 ((v4.1.length - (v4.2).toNat)) ((Ad.mk 0 0 0))))) N (p0, v1, (wI .i64 (v1 + 1))))
def F5 (N : Nat) (p0 : Aa) (p1 : Ab) : Option ((List Ad) × Int) :=
 (EW N p0 p1).bind fun v1 =>
 AN ((v1 != 0))
  (some (([] : List Ad), v1))
  ((Ig N p0).bind fun v3 =>
  (BG N v3 ((fun (x : Ad) => DC N x p0.fb p0.fj p0.fm p0.fe p1.fc p1.fa p1.fd))).bind fun v4 =>
  (Es (v4.1 ≤ v4.2.length)).bind fun _ =>
  some (v4.2.take v4.1, 0))
def G8 (_ : Nat) (p0 : Ad) : Option Bool :=
 Bi (fun (v1 : Bool) =>
  AN v1
   (some false)
   (Bi (fun (v5 : Bool) =>
    some v5)
   fun j5 =>
   AN ((p0.ff == 1))
    (j5 true)
    (j5 (p0.fk == 0))))
 fun j1 =>
 AN ((decide ((Ve p0.fi p0.fk) < 0)))
  (j1 true)
  (AN ((decide (p0.ff < 1)))
   (j1 true)
   (j1 (decide (4 < p0.ff))))
def Gz (_ : Nat) (p0 : Aa) (p1 : Ad) : Option Bool :=
 AN ((p1.ff == 3))
  (some ((decide (p1.fi < (p0.fe.length : Int)))))
  (Bi (fun (v2 : Bool) =>
   some v2)
  fun j2 =>
  AN ((decide (p1.fi < (p0.fb.length : Int))))
   (AN ((p1.ff != 1))
    (j2 true)
    ((BC p0.fb p1.fi).bind fun v5 =>
    j2 (decide (p1.fk < v5))))
   (j2 false))
def Ga (N : Nat) (p0 : Aa) (p1 : Ab) (p2 : Ad) : Option (Ab × Int) :=
 (G8 N p2).bind fun v1 =>
 AN ((!v1))
  (some ((Ab.mk (([] : List Int)) (([] : List Int)) (([] : List Int))), 1))
  ((Gz N p0 p2).bind fun v3 =>
  AN ((!v3))
   (some ((Ab.mk (([] : List Int)) (([] : List Int)) (([] : List Int))), 4))
   ((Fu N p0 p1 p2).bind fun v5 =>
   AN ((!v5.2))
    (some ((Ab.mk (([] : List Int)) (([] : List Int)) (([] : List Int))), 11))
    (some (v5.1, 0))))
def F7 (N : Nat) (p0 : Aa) (p1 : Ab) (p2 : Ad) : Option (Ab × Int) :=
 (EW N p0 p1).bind fun v1 =>
 AN ((v1 != 0))
  (some ((Ab.mk (([] : List Int)) (([] : List Int)) (([] : List Int))), v1))
  ((Ga N p0 p1 p2).bind fun v3 =>
  some (v3.1, v3.2))
def Cr (N : Nat) (p0 : Aa) (v2 : (List Ar) × (List (ByteArray × Int)) × Int) (v6 : (List Ad) × Int) (j8 : ((List Ar) × (List (ByteArray × Int))) → Option ((List Ar) × Int)) : Nat → ((List Ar) × (List (ByteArray × Int)) × Int) → Option ((List Ar) × Int)
 | 0, _ => none
 | n8 + 1, v8 =>
  AN ((decide (v8.2.2 < (v6.1.length : Int))))
   ((BC v6.1 v8.2.2).bind fun v11 =>
   (BC v8.1 v2.2.2).bind fun v12 =>
   (F7 N p0 ((Ab.mk v12.fh.fc v12.fh.fa v12.fh.fd)) v11).bind fun v13 =>
   AN ((v13.2 != 0))
    (some (([] : List Ar), v13.2))
    ((Ho N v13.1).bind fun v15 =>
    Bi (fun (v16 : (List Ar) × (List (ByteArray × Int)) × Int) =>
     Bi (fun (v24 : (List Ar)) =>
      AN ((decide (20000 < (v24.length : Int))))
       (some (([] : List Ar), 3))
       (Cr N p0 v2 v6 j8 n8 (v24, v16.2.1, (wI .i64 (v8.2.2 + 1)))))
     fun j24 =>
     AN ((decide (0 ≤ v16.2.2)))
      ((BC v16.1 v2.2.2).bind fun v26 =>
      (Es (v26.fa.length + (([v16.2.2] : List Int)).length ≤ Dv)).bind fun _ =>
      (BC v16.1 v2.2.2).bind fun v28 =>
      j24 (v16.1.set ((v2.2.2).toNat) ((Ar.mk ((Ab.mk v28.fh.fc v28.fh.fa v28.fh.fd)) v28.fg ((Ad.mk v28.ft.ff v28.ft.fi v28.ft.fk)) (v26.fa ++ (([v16.2.2] : List Int)))))))
      (j24 v16.1))
    fun j16 =>
    AN ((!((Jt v15 v8.2.1).isSome)))
     (Bi (fun (v18 : (List Ar) × Int) =>
      j16 (v18.1, MI v15 v18.2 v8.2.1, v18.2))
     fun j18 =>
     (F8 N p0 v13.1).bind fun v19 =>
     Bi (fun (v20 : Bool) =>
      AN v20
       (j18 (v8.1, (-1)))
       ((Es (v8.1.length + (([(Ar.mk v13.1 v2.2.2 v11 (([] : List Int)))] : List Ar)).length ≤ Dv)).bind fun _ =>
       j18 (v8.1 ++ (([(Ar.mk v13.1 v2.2.2 v11 (([] : List Int)))] : List Ar)), (v8.1.length : Int))))
     fun j20 =>
     AN ((v19.2 != 0))
      (j20 true)
      (j20 (!v19.1)))
     (j16 (v8.1, v8.2.1, ((Jt v15 v8.2.1).getD 0)))))
   (j8 (v8.1, v8.2.1))
def DD (N : Nat) (p0 : Aa) (j2 : ((List Ar)) → Option ((List Ar) × Int)) : Nat → ((List Ar) × (List (ByteArray × Int)) × Int) → Option ((List Ar) × Int)
 | 0, _ => none
 | n2 + 1, v2 =>
  AN ((decide (v2.2.2 < (v2.1.length : Int))))
   ((BC v2.1 v2.2.2).bind fun v5 =>
   (F5 N p0 ((Ab.mk v5.fh.fc v5.fh.fa v5.fh.fd))).bind fun v6 =>
   AN ((v6.2 != 0))
    (some (([] : List Ar), v6.2))
    (Cr N p0 v2 v6 (fun (v9 : (List Ar) × (List (ByteArray × Int))) =>
     DD N p0 j2 n2 (v9.1, v9.2, (wI .i64 (v2.2.2 + 1)))) N (v2.1, v2.2.1, 0)))
   (j2 v2.1)
def FN (N : Nat) (p0 : Aa) (p1 : Ab) : Option ((List Ar) × Int) :=
 (Ho N p1).bind fun v1 =>
 DD N p0 (fun (v3 : (List Ar)) =>
  some (v3, 0)) N (([(Ar.mk p1 ((-1)) ((Ad.mk 0 0 0)) (([] : List Int)))] : List Ar), MI v1 0 (([] : List (ByteArray × Int))), 0)
def B8 (N : Nat) (p0 : List Int) (p1 : List Int) (j2 : Unit → Option Bool) : Nat → Int → Option Bool
 | 0, _ => none
 | n2 + 1, v2 =>
  AN ((decide (v2 < (p0.length : Int))))
   ((BC p0 v2).bind fun v5 =>
   (BC p1 v2).bind fun v6 =>
   AN ((v5 != v6))
    (some false)
    (B8 N p0 p1 j2 n2 (wI .i64 (v2 + 1))))
   (j2 ())
def Db (N : Nat) (p0 : List Int) (p1 : List Int) : Option Bool :=
 AN (((p0.length : Int) != (p1.length : Int)))
  (some false)
  (B8 N p0 p1 (fun (_ : Unit) =>
   some true) N 0)
def Bh (N : Nat) (p0 : List Int) (p1 : Int → Option Bool) (j1 : Unit → Option Int) : Nat → Int → Option Int
 | 0, _ => none
 | n1 + 1, v1 =>
  AN ((decide (v1 < (p0.length : Int))))
   ((BC p0 v1).bind fun v4 =>
   (p1 v4).bind fun v5 =>
   AN v5
    (some v1)
    (Bh N p0 p1 j1 n1 (wI .i64 (v1 + 1))))
   (j1 ())
def D2 (N : Nat) (p0 : List Int) (p1 : Int → Option Bool) : Option Int :=
 Bh N p0 p1 (fun (_ : Unit) =>
  some ((-1))) N 0
def B5 (N : Nat) (p0 : List Int) (p1 : Int → Option Bool) : Option Bool :=
 (D2 N p0 p1).bind fun v1 =>
 some ((decide (0 ≤ v1)))
def GU (_ : Nat) (p0 : Int) : Option Bool :=
 some ((decide (0 ≤ p0)))
def Gu (N : Nat) (p0 : Aa) (p1 : Ab) : Option Bool :=
 Bi (fun (v1 : Bool) =>
  some v1)
 fun j1 =>
 (EW N p0 p1).bind fun v2 =>
 AN ((v2 == 0))
  ((Db N p1.fc p0.fm).bind fun v4 =>
  AN v4
   ((B5 N p1.fa ((fun (x : Int) => GU N x))).bind fun v6 =>
   j1 (!v6))
   (j1 false))
  (j1 false)
def Gw (N : Nat) (p0 : Ar) (p1 : List Int) (p2 : List Int) (p3 : List Int) (p4 : List Av) : Option Bool :=
 (Gu N ((Aa.mk p1 p2 p3 p4)) ((Ab.mk p0.fh.fc p0.fh.fa p0.fh.fd))).bind fun v1 =>
 some v1
def A6 (N : Nat) (p0 : List Ar) (p1 : Ar → Option Bool) (j1 : Unit → Option Int) : Nat → Int → Option Int
 | 0, _ => none
 | n1 + 1, v1 =>
  AN ((decide (v1 < (p0.length : Int))))
   ((BC p0 v1).bind fun v4 =>
   (p1 ((Ar.mk ((Ab.mk v4.fh.fc v4.fh.fa v4.fh.fd)) v4.fg ((Ad.mk v4.ft.ff v4.ft.fi v4.ft.fk)) v4.fa))).bind fun v5 =>
   AN v5
    (some v1)
    (A6 N p0 p1 j1 n1 (wI .i64 (v1 + 1))))
   (j1 ())
def Bd (N : Nat) (p0 : List Ar) (p1 : Ar → Option Bool) : Option Int :=
 A6 N p0 p1 (fun (_ : Unit) =>
  some ((-1))) N 0
def Cw (N : Nat) (j1 : ((List Ad)) → Option ((List Ad))) : Nat → ((List Ad) × Int × Int) → Option ((List Ad))
 | 0, _ => none
 | n1 + 1, v1 =>
  AN ((decide (v1.2.1 < v1.2.2)))
   ((BC v1.1 v1.2.2).bind fun v4 =>
   (BC v1.1 v1.2.1).bind fun v5 =>
   (BC v1.1 v1.2.1).bind fun _ =>
   (BC (v1.1.set ((v1.2.1).toNat) v4) v1.2.2).bind fun _ =>
   Cw N j1 n1 ((v1.1.set ((v1.2.1).toNat) v4).set ((v1.2.2).toNat) v5, (wI .i64 (v1.2.1 + 1)), (wI .i64 (v1.2.2 - 1))))
   (j1 v1.1)
def DM (N : Nat) (p0 : List Ad) : Option ((List Ad)) :=
 Cw N (fun (v2 : (List Ad)) =>
  some v2) N (p0, 0, (wI .i64 ((p0.length : Int) - 1)))
def HC (N : Nat) (p0 : List Ar) (j1 : ((List Ad)) → Option ((List Ad))) : Nat → (Int × (List Ad)) → Option ((List Ad))
 | 0, _ => none
 | n1 + 1, v1 =>
  (BC p0 v1.1).bind fun v3 =>
  AN ((decide (0 ≤ v3.fg)))
   ((BC p0 v1.1).bind fun v5 =>
   (Es (v1.2.length + (([(Ad.mk v5.ft.ff v5.ft.fi v5.ft.fk)] : List Ad)).length ≤ Dv)).bind fun _ =>
   (BC p0 v1.1).bind fun v7 =>
   HC N p0 j1 n1 (v7.fg, v1.2 ++ (([(Ad.mk v5.ft.ff v5.ft.fi v5.ft.fk)] : List Ad))))
   (j1 v1.2)
def Kw (N : Nat) (p0 : List Ar) (p1 : Int) : Option ((List Ad)) :=
 HC N p0 (fun (v2 : (List Ad)) =>
  (DM N v2).bind fun v8 =>
  some v8) N (p1, ([] : List Ad))
def J1 (N : Nat) (p0 : Aa) (p1 : Ab) : Option ((List Ad) × Int) :=
 (F8 N p0 p1).bind fun v1 =>
 AN ((v1.2 != 0))
  (some (([] : List Ad), v1.2))
  (AN ((!v1.1))
   (some (([] : List Ad), 13))
   ((FN N p0 p1).bind fun v4 =>
   AN ((v4.2 != 0))
    (some (([] : List Ad), v4.2))
    ((Bd N v4.1 ((fun (x : Ar) => Gw N x p0.fb p0.fj p0.fm p0.fe))).bind fun v6 =>
    AN ((decide (v6 < 0)))
     (some (([] : List Ad), 14))
     ((Kw N v4.1 v6).bind fun v8 =>
     some (v8, 0)))))
def Hz (N : Nat) (p0 : Aa) : Option ((List Ad) × Int) :=
 (F1 N p0).bind fun v1 =>
 AN ((v1.2 != 0))
  (some (([] : List Ad), v1.2))
  ((J1 N p0 v1.1).bind fun v3 =>
  some (v3.1, v3.2))
def Et (N : Nat) (p0 : Aa) (p1 : List Ad) (j5 : Ab → Option (Int × Ab × Ai × Int)) : Nat → (Ab × Int) → Option (Int × Ab × Ai × Int)
 | 0, _ => none
 | n5 + 1, v5 =>
  AN ((decide (v5.2 < (p1.length : Int))))
   ((BC p1 v5.2).bind fun v8 =>
   (F7 N p0 v5.1 v8).bind fun v9 =>
   Bi (fun (v10 : Bool) =>
    AN v10
     (some (v5.2, (Ab.mk (([] : List Int)) (([] : List Int)) (([] : List Int))), (Ai.mk 0 0 0), 0))
     ((F2 N p0 v9.1).bind fun v13 =>
     AN ((v13.2.2 == 0))
      (some (v5.2, v13.1, v13.2.1, 0))
      (Et N p0 p1 j5 n5 (v9.1, (wI .i64 (v5.2 + 1))))))
   fun j10 =>
   AN ((v9.2 != 0))
    (j10 true)
    (j10 (v8.ff == 4)))
   (j5 v5.1)
def Fl (N : Nat) (p0 : Aa) (p1 : List Ad) : Option (Int × Ab × Ai × Int) :=
 (F1 N p0).bind fun v1 =>
 AN ((v1.2 != 0))
  (some (0, (Ab.mk (([] : List Int)) (([] : List Int)) (([] : List Int))), (Ai.mk 0 0 0), v1.2))
  ((F2 N p0 v1.1).bind fun v3 =>
  AN ((v3.2.2 == 0))
   (some ((-1), v3.1, v3.2.1, 0))
   (Et N p0 p1 (fun (v6 : Ab) =>
    (Gu N p0 v6).bind fun v15 =>
    AN ((!v15))
     (some ((p1.length : Int), (Ab.mk (([] : List Int)) (([] : List Int)) (([] : List Int))), (Ai.mk 0 0 0), 14))
     (some (0, (Ab.mk (([] : List Int)) (([] : List Int)) (([] : List Int))), (Ai.mk 0 0 0), 15))) N (v1.1, 0)))
def EY (N : Nat) (p0 : List Ad) (p1 : List Ad) (j2 : Unit → Option Bool) : Nat → Int → Option Bool
 | 0, _ => none
 | n2 + 1, v2 =>
  AN ((decide (v2 < (p0.length : Int))))
   ((BC p0 v2).bind fun v5 =>
   (BC p1 v2).bind fun v6 =>
   AN ((!((v5.ff == v6.ff) && ((v5.fi == v6.fi) && ((v5.fk == v6.fk) && true)))))
    (some false)
    (EY N p0 p1 j2 n2 (wI .i64 (v2 + 1))))
   (j2 ())
def GR (N : Nat) (p0 : List Ad) (p1 : List Ad) : Option Bool :=
 AN (((p0.length : Int) != (p1.length : Int)))
  (some false)
  (EY N p0 p1 (fun (_ : Unit) =>
   some true) N 0)
def F9 (N : Nat) (p0 : Aa) (p1 : List Ad) : Option Bool :=
 (Fl N p0 p1).bind fun v1 =>
 some ((v1.2.2.2 == 15))
def EA (N : Nat) : Option Bool :=
 (CY N false false).bind fun v1 =>
 (Hz N v1).bind fun v2 =>
 (CY N true false).bind fun v3 =>
 (Hz N v3).bind fun v4 =>
 (CY N true true).bind fun v5 =>
 (Hz N v5).bind fun v6 =>
 (CY N false false).bind fun v7 =>
 (Fl N v7 (([(Ad.mk 1 0 1)] : List Ad))).bind fun v8 =>
 Bi (fun (v9 : Bool) =>
  some v9)
 fun j9 =>
 AN ((v2.2 == 0))
  ((GR N v2.1 (([(Ad.mk 1 1 1), (Ad.mk 2 1 0), (Ad.mk 1 0 1), (Ad.mk 2 0 0)] : List Ad))).bind fun v11 =>
  AN v11
   (AN ((v4.2 == 14))
    (AN ((v6.2 == 14))
     (AN ((v8.2.2.2 == 0))
      (AN ((v8.1 == 0))
       (AN (((v8.2.2.1.fA == 0) && ((v8.2.2.1.fB == 1) && ((v8.2.2.1.fC == 0) && true))))
        ((CY N false false).bind fun v18 =>
        (F9 N v18 (([(Ad.mk 1 1 1), (Ad.mk 2 1 0), (Ad.mk 1 0 1), (Ad.mk 2 0 0)] : List Ad))).bind fun v19 =>
        j9 v19)
        (j9 false))
       (j9 false))
      (j9 false))
     (j9 false))
    (j9 false))
   (j9 false))
  (j9 false)
def Eb (_ : Nat) (p0 : List Int) (p1 : Int) : Option Int :=
 AN ((decide (p1 < (p0.length : Int))))
  ((BC p0 p1).bind fun v2 =>
  some ((wI .i64 v2)))
  (some 0)
def A4 (_ : Nat) (p0 : Av) : Option Bool :=
 Bi (fun (v1 : Bool) =>
  some v1)
 fun j1 =>
 AN ((p0.ff == 3))
  (j1 true)
  (j1 (p0.ff == 4))
def Ck (N : Nat) (p1 : Int) (p2 : Int) (p3 : Bool) (v1 : (List (List Bool)) × Int) (j4 : ((List Bool)) → Option ((List (List Bool)))) : Nat → ((List Bool) × Int) → Option ((List (List Bool)))
 | 0, _ => none
 | n4 + 1, v4 =>
  AN ((decide (v4.2 < p1)))
   (Bi (fun (v7 : (List Bool)) =>
    Ck N p1 p2 p3 v1 j4 n4 (v7, (wI .i64 (v4.2 + 1))))
   fun j7 =>
   AN p3
    (AN ((v1.2 == v4.2))
     ((Es (v4.1.length + (([true] : List Bool)).length ≤ Dv)).bind fun _ =>
     j7 (v4.1 ++ (([true] : List Bool))))
     ((Es (0 ≤ (wI .i64 ((wI .i64 (3 * v1.2)) + v4.2)))).bind fun _ =>
     (Es (v4.1.length + (([((zB5 ((FQ .u16 p2 ((wI .i64 ((wI .i64 (3 * v1.2)) + v4.2))))) 2) == 0)] : List Bool)).length ≤ Dv)).bind fun _ =>
     j7 (v4.1 ++ (([((zB5 ((FQ .u16 p2 ((wI .i64 ((wI .i64 (3 * v1.2)) + v4.2))))) 2) == 0)] : List Bool)))))
    ((Es (0 ≤ (wI .i64 ((wI .i64 (3 * v1.2)) + v4.2)))).bind fun _ =>
    (Es (v4.1.length + (([((zB5 ((FQ .u16 p2 ((wI .i64 ((wI .i64 (3 * v1.2)) + v4.2))))) 2) == 0)] : List Bool)).length ≤ Dv)).bind fun _ =>
    j7 (v4.1 ++ (([((zB5 ((FQ .u16 p2 ((wI .i64 ((wI .i64 (3 * v1.2)) + v4.2))))) 2) == 0)] : List Bool)))))
   (j4 v4.1)
def Cq (N : Nat) (p0 : Int) (p1 : Int) (p2 : Int) (p3 : Bool) (j1 : ((List (List Bool))) → Option ((List (List Bool)))) : Nat → ((List (List Bool)) × Int) → Option ((List (List Bool)))
 | 0, _ => none
 | n1 + 1, v1 =>
  AN ((decide (v1.2 < p0)))
   (Ck N p1 p2 p3 v1 (fun (v5 : (List Bool)) =>
    (Es (v1.1.length + (([v5] : List (List Bool))).length ≤ Dv)).bind fun _ =>
    Cq N p0 p1 p2 p3 j1 n1 (v1.1 ++ (([v5] : List (List Bool))), (wI .i64 (v1.2 + 1)))) N (([] : List Bool), 0))
   (j1 v1.1)
def Ea (N : Nat) (p0 : Int) (p1 : Int) (p2 : Int) (p3 : Bool) : Option ((List (List Bool))) :=
 Cq N p0 p1 p2 p3 (fun (v2 : (List (List Bool))) =>
  some v2) N (([] : List (List Bool)), 0)
def CQ (N : Nat) (p0 : BA) (j4 : ((List Int) × (List Int) × (List Int)) → Option (Aa × Bool)) : Nat → ((List Int) × (List Int) × (List Int) × Int) → Option (Aa × Bool)
 | 0, _ => none
 | n4 + 1, v4 =>
  AN ((decide (v4.2.2.2 < (p0.fb.length : Int))))
   ((BC p0.fb v4.2.2.2).bind fun v7 =>
   (Es (v4.1.length + (([(wI .i64 (1 + (wI .i64 ((zB5 v7 3)))))] : List Int)).length ≤ Dv)).bind fun _ =>
   (Eb N p0.fj v4.2.2.2).bind fun v9 =>
   (Es ((wI .i64 (1 + (wI .i64 ((zB5 v7 3))))) ≠ 0)).bind fun _ =>
   (Es (v4.2.1.length + (([(zB5 v9 ((wI .i64 (1 + (wI .i64 ((zB5 v7 3)))))))] : List Int)).length ≤ Dv)).bind fun _ =>
   (Eb N p0.fm v4.2.2.2).bind fun v12 =>
   (Es ((wI .i64 (1 + (wI .i64 ((zB5 v7 3))))) ≠ 0)).bind fun _ =>
   (Es (v4.2.2.1.length + (([(zB5 v12 ((wI .i64 (1 + (wI .i64 ((zB5 v7 3)))))))] : List Int)).length ≤ Dv)).bind fun _ =>
   CQ N p0 j4 n4 (v4.1 ++ (([(wI .i64 (1 + (wI .i64 ((zB5 v7 3)))))] : List Int)), v4.2.1 ++ (([(zB5 v9 ((wI .i64 (1 + (wI .i64 ((zB5 v7 3)))))))] : List Int)), v4.2.2.1 ++ (([(zB5 v12 ((wI .i64 (1 + (wI .i64 ((zB5 v7 3)))))))] : List Int)), (wI .i64 (v4.2.2.2 + 1))))
   (j4 (v4.1, v4.2.1, v4.2.2.1))
def Bz (N : Nat) (p0 : BA) (v5 : (List Int) × (List Int) × (List Int)) (j15 : ((List Av)) → Option (Aa × Bool)) : Nat → ((List Av) × Int) → Option (Aa × Bool)
 | 0, _ => none
 | n15 + 1, v15 =>
  Bi (fun (v17 : Bool) =>
   AN v17
    ((BC p0.fv v15.2).bind fun v20 =>
    (Es ((v5.1.length : Int) ≠ 0)).bind fun _ =>
    (Es ((v5.1.length : Int) ≠ 0)).bind fun _ =>
    Bi (fun (v23 : Bool) =>
     (BC v5.1 ((zB5 ((wI .i64 v20.fg)) ((v5.1.length : Int))))).bind fun v26 =>
     (BC v5.1 ((zB5 ((wI .i64 v20.fo)) ((v5.1.length : Int))))).bind fun v27 =>
     (Ea N v26 v27 v20.fw false).bind fun v28 =>
     Bi (fun (v29 : (List (List Bool))) =>
      (Es (v15.1.length + (([(Av.mk ((wI .i64 (1 + (wI .i64 ((zB5 v20.ff 4)))))) ((zB5 ((wI .i64 v20.fg)) ((v5.1.length : Int)))) ((zB5 ((wI .i64 v20.fo)) ((v5.1.length : Int)))) v23 v28 v29)] : List Av)).length ≤ Dv)).bind fun _ =>
      Bz N p0 v5 j15 n15 (v15.1 ++ (([(Av.mk ((wI .i64 (1 + (wI .i64 ((zB5 v20.ff 4)))))) ((zB5 ((wI .i64 v20.fg)) ((v5.1.length : Int)))) ((zB5 ((wI .i64 v20.fo)) ((v5.1.length : Int)))) v23 v28 v29)] : List Av)), (wI .i64 (v15.2 + 1))))
     fun j29 =>
     AN (((wI .i64 (1 + (wI .i64 ((zB5 v20.ff 4))))) == 4))
      ((BC v5.1 ((zB5 ((wI .i64 v20.fg)) ((v5.1.length : Int))))).bind fun v31 =>
      (BC v5.1 ((zB5 ((wI .i64 v20.fg)) ((v5.1.length : Int))))).bind fun v32 =>
      (Ea N v31 v32 v20.fy true).bind fun v33 =>
      j29 v33)
      (j29 ([] : List (List Bool))))
    fun j23 =>
    AN v20.fq
     ((A4 N ((Av.mk ((wI .i64 (1 + (wI .i64 ((zB5 v20.ff 4)))))) ((zB5 ((wI .i64 v20.fg)) ((v5.1.length : Int)))) ((zB5 ((wI .i64 v20.fo)) ((v5.1.length : Int)))) false (([] : List (List Bool))) (([] : List (List Bool)))))).bind fun v25 =>
     j23 (!v25))
     (j23 false))
    (j15 v15.1))
  fun j17 =>
  AN ((decide (v15.2 < (p0.fv.length : Int))))
   (j17 (decide (0 < (v5.1.length : Int))))
   (j17 false)
def Fn (N : Nat) (p0 : BA) : Option (Aa × Bool) :=
 Bi (fun (v1 : Bool) =>
  AN v1
   (some ((Aa.mk (([] : List Int)) (([] : List Int)) (([] : List Int)) (([] : List Av))), false))
   (CQ N p0 (fun (v5 : (List Int) × (List Int) × (List Int)) =>
    Bz N p0 v5 (fun (v16 : (List Av)) =>
     some ((Aa.mk v5.1 v5.2.1 v5.2.2 v16), true)) N (([] : List Av), 0)) N (([] : List Int), ([] : List Int), ([] : List Int), 0)))
 fun j1 =>
 AN ((decide (3 < (p0.fb.length : Int))))
  (j1 true)
  (j1 (decide (4 < (p0.fv.length : Int))))
def Cx (N : Nat) (p0 : List (List Bool)) (p1 : Int) (p2 : Int) (j2 : Unit → Option Bool) : Nat → Int → Option Bool
 | 0, _ => none
 | n2 + 1, v2 =>
  AN ((decide (v2 < p1)))
   ((BC p0 v2).bind fun v5 =>
   AN (((v5.length : Int) != p2))
    (some false)
    (Cx N p0 p1 p2 j2 n2 (wI .i64 (v2 + 1))))
   (j2 ())
def DH (N : Nat) (p0 : List (List Bool)) (p1 : Int) (p2 : Int) : Option Bool :=
 AN (((p0.length : Int) != p1))
  (some false)
  (Cx N p0 p1 p2 (fun (_ : Unit) =>
   some true) N 0)
def B0 (N : Nat) (p1 : Av) (j22 : Unit → Option Int) : Nat → Int → Option Int
 | 0, _ => none
 | n22 + 1, v22 =>
  AN ((decide (v22 < (p1.fp.length : Int))))
   ((BC p1.fp v22).bind fun v25 =>
   (BC v25 v22).bind fun v26 =>
   AN ((!v26))
    (some 1)
    (B0 N p1 j22 n22 (wI .i64 (v22 + 1))))
   (j22 ())
def EJ (N : Nat) (p0 : Aa) (p1 : Av) : Option Int :=
 Bi (fun (v1 : Bool) =>
  AN v1
   (some 1)
   (Bi (fun (v7 : Bool) =>
    AN v7
     (some 4)
     ((BC p0.fb p1.fg).bind fun v12 =>
     (BC p0.fb p1.fo).bind fun v13 =>
     (DH N p1.fr v12 v13).bind fun v14 =>
     AN ((!v14))
      (some 6)
      (AN ((p1.ff != 4))
       (AN (((p1.fp.length : Int) != 0))
        (some 6)
        (some 0))
       ((BC p0.fb p1.fg).bind fun v18 =>
       (BC p0.fb p1.fg).bind fun v19 =>
       (DH N p1.fp v18 v19).bind fun v20 =>
       AN ((!v20))
        (some 6)
        (B0 N p1 (fun (_ : Unit) =>
         some 0) N 0)))))
   fun j7 =>
   AN ((decide (p1.fg < 0)))
    (j7 true)
    (AN ((decide ((p0.fb.length : Int) ≤ p1.fg)))
     (j7 true)
     (AN ((decide (p1.fo < 0)))
      (j7 true)
      (j7 (decide ((p0.fb.length : Int) ≤ p1.fo)))))))
 fun j1 =>
 AN ((decide (p1.ff < 1)))
  (j1 true)
  (AN ((decide (4 < p1.ff)))
   (j1 true)
   (AN p1.fq
    ((A4 N p1).bind fun v5 =>
    j1 v5)
    (j1 false)))
def Bg (N : Nat) (p0 : Aa) (j7 : Unit → Option Int) : Nat → Int → Option Int
 | 0, _ => none
 | n7 + 1, v7 =>
  AN ((decide (v7 < (p0.fb.length : Int))))
   ((BC p0.fb v7).bind fun v10 =>
   Bi (fun (v11 : Bool) =>
    AN v11
     (some 7)
     (Bg N p0 j7 n7 (wI .i64 (v7 + 1))))
   fun j11 =>
   AN ((decide (v10 < 1)))
    (j11 true)
    (AN ((decide (6 < v10)))
     (j11 true)
     ((BC p0.fj v7).bind fun v14 =>
     AN ((decide (v14 < 0)))
      (j11 true)
      ((BC p0.fj v7).bind fun v16 =>
      AN ((decide (v10 ≤ v16)))
       (j11 true)
       ((BC p0.fm v7).bind fun v18 =>
       AN ((decide (v18 < 0)))
        (j11 true)
        ((BC p0.fm v7).bind fun v20 =>
        j11 (decide (v10 ≤ v20))))))))
   (j7 ())
def Bb (N : Nat) (p0 : Aa) (j22 : Unit → Option Int) : Nat → Int → Option Int
 | 0, _ => none
 | n22 + 1, v22 =>
  AN ((decide (v22 < (p0.fe.length : Int))))
   ((BC p0.fe v22).bind fun v25 =>
   (EJ N p0 v25).bind fun v26 =>
   AN ((v26 != 0))
    (some v26)
    (Bb N p0 j22 n22 (wI .i64 (v22 + 1))))
   (j22 ())
def A8 (N : Nat) (p0 : Aa) : Option Int :=
 Bi (fun (v1 : Bool) =>
  AN v1
   (some 3)
   (Bi (fun (v4 : Bool) =>
    AN v4
     (some 6)
     (Bg N p0 (fun (_ : Unit) =>
      Bb N p0 (fun (_ : Unit) =>
       some 0) N 0) N 0))
   fun j4 =>
   AN (((p0.fj.length : Int) != (p0.fb.length : Int)))
    (j4 true)
    (j4 ((p0.fm.length : Int) != (p0.fb.length : Int)))))
 fun j1 =>
 AN ((decide (6 < (p0.fb.length : Int))))
  (j1 true)
  (j1 (decide (12 < (p0.fe.length : Int))))
def Ca (N : Nat) (p0 : Aa) (j3 : ((List Int) × (List Int)) → Option (Ab × Int)) : Nat → ((List Int) × (List Int) × Int) → Option (Ab × Int)
 | 0, _ => none
 | n3 + 1, v3 =>
  AN ((decide (v3.2.2 < (p0.fb.length : Int))))
   ((BC p0.fj v3.2.2).bind fun v6 =>
   (Es (v3.1.length + (([v6] : List Int)).length ≤ Dv)).bind fun _ =>
   (Es (v3.2.1.length + (([(-1)] : List Int)).length ≤ Dv)).bind fun _ =>
   Ca N p0 j3 n3 (v3.1 ++ (([v6] : List Int)), v3.2.1 ++ (([(-1)] : List Int)), (wI .i64 (v3.2.2 + 1))))
   (j3 (v3.1, v3.2.1))
def Bf (N : Nat) (p0 : Aa) (j9 : ((List Int)) → Option (Ab × Int)) : Nat → ((List Int) × Int) → Option (Ab × Int)
 | 0, _ => none
 | n9 + 1, v9 =>
  AN ((decide (v9.2 < (p0.fe.length : Int))))
   (Bi (fun (v12 : Int) =>
    (Es (v9.1.length + (([v12] : List Int)).length ≤ Dv)).bind fun _ =>
    Bf N p0 j9 n9 (v9.1 ++ (([v12] : List Int)), (wI .i64 (v9.2 + 1))))
   fun j12 =>
   (BC p0.fe v9.2).bind fun v13 =>
   (A4 N v13).bind fun v14 =>
   AN v14
    ((BC p0.fe v9.2).bind fun v16 =>
    (BC p0.fj v16.fg).bind fun v17 =>
    (Es (0 ≤ v17)).bind fun _ =>
    j12 (D3 .u8 1 v17))
    (j12 0))
   (j9 v9.1)
def Di (N : Nat) (p0 : Aa) : Option (Ab × Int) :=
 (A8 N p0).bind fun v1 =>
 AN ((v1 != 0))
  (some ((Ab.mk (([] : List Int)) (([] : List Int)) (([] : List Int))), v1))
  (Ca N p0 (fun (v4 : (List Int) × (List Int)) =>
   Bf N p0 (fun (v10 : (List Int)) =>
    some ((Ab.mk v4.1 v4.2 v10), 0)) N (([] : List Int), 0)) N (([] : List Int), ([] : List Int), 0))
def El (_ : Nat) (p0 : Ab) : Option Ab :=
 (Es ((([] : List Int)).length + p0.fc.length ≤ Dv)).bind fun _ =>
 (Es ((([] : List Int)).length + p0.fa.length ≤ Dv)).bind fun _ =>
 (Es ((([] : List Int)).length + p0.fd.length ≤ Dv)).bind fun _ =>
 some ((Ab.mk ((([] : List Int)) ++ p0.fc) ((([] : List Int)) ++ p0.fa) ((([] : List Int)) ++ p0.fd)))
def CE (N : Nat) (p0 : Ab) (j1 : Int → Option ((List Ab))) : Nat → (Int × Int) → Option ((List Ab))
 | 0, _ => none
 | n1 + 1, v1 =>
  AN ((decide (v1.2 < (p0.fa.length : Int))))
   (Bi (fun (v4 : Int) =>
    CE N p0 j1 n1 (v4, (wI .i64 (v1.2 + 1))))
   fun j4 =>
   (BC p0.fa v1.2).bind fun v5 =>
   AN ((decide (0 ≤ v5)))
    (j4 (wI .i64 (v1.1 + 1)))
    (j4 v1.1))
   (j1 v1.1)
def BW (N : Nat) (p0 : Ab) (v7 : (List Ab) × Int) (j12 : ((List Int)) → Option ((List Ab))) : Nat → ((List Int) × Int × Int) → Option ((List Ab))
 | 0, _ => none
 | n12 + 1, v12 =>
  AN ((decide (v12.2.2 < (p0.fa.length : Int))))
   (Bi (fun (v15 : (List Int) × Int) =>
    BW N p0 v7 j12 n12 (v15.1, v15.2, (wI .i64 (v12.2.2 + 1))))
   fun j15 =>
   (BC p0.fa v12.2.2).bind fun v16 =>
   AN ((decide (v16 < 0)))
    (j15 (v12.1, v12.2.1))
    (Bi (fun (v18 : (List Int)) =>
     j15 (v18, (wI .i64 (v12.2.1 + 1))))
    fun j18 =>
    (Es (0 ≤ v12.2.1)).bind fun _ =>
    AN (((zB5 ((FQ .i64 v7.2 v12.2.1)) 2) == 1))
     ((BC v12.1 v12.2.2).bind fun _ =>
     j18 (v12.1.set ((v12.2.2).toNat) ((-1))))
     (j18 v12.1)))
   (j12 v12.1)
def By (N : Nat) (p0 : Ab) (v2 : Int) (j7 : ((List Ab)) → Option ((List Ab))) : Nat → ((List Ab) × Int) → Option ((List Ab))
 | 0, _ => none
 | n7 + 1, v7 =>
  (Es (0 ≤ v2)).bind fun _ =>
  AN ((decide (v7.2 < (D3 .i64 1 v2))))
   ((El N p0).bind fun v11 =>
   BW N p0 v7 (fun (v13 : (List Int)) =>
    (Es (v7.1.length + (([(Ab.mk v11.fc v13 v11.fd)] : List Ab)).length ≤ Dv)).bind fun _ =>
    By N p0 v2 j7 n7 (v7.1 ++ (([(Ab.mk v11.fc v13 v11.fd)] : List Ab)), (wI .i64 (v7.2 + 1)))) N (v11.fa, 0, 0))
   (j7 v7.1)
def DO (N : Nat) (p0 : Ab) : Option ((List Ab)) :=
 CE N p0 (fun (v2 : Int) =>
  By N p0 v2 (fun (v8 : (List Ab)) =>
   some v8) N (([] : List Ab), 0)) N (0, 0)
def BT (_ : Nat) (p0 : Ab) (p1 : Int) : Option Int :=
 (BC p0.fc p1).bind fun v1 =>
 (Es (0 ≤ v1)).bind fun _ =>
 Bi (fun (v3 : Int) =>
  some v3)
 fun j3 =>
 (BC p0.fa p1).bind fun v4 =>
 AN ((decide (0 ≤ v4)))
  ((BC p0.fa p1).bind fun v6 =>
  (Es (0 ≤ v6)).bind fun _ =>
  j3 (O9 .u8 ((D3 .u8 1 v1)) ((D3 .u8 1 v6))))
  (j3 (D3 .u8 1 v1))
def CA (_ : Nat) (p0 : Int) (p1 : Int) : Option Bool :=
 (Es (0 ≤ p1)).bind fun _ =>
 some (((GE .u8 ((FQ .u8 p0 p1)) 1) == 1))
def Bn (N : Nat) (p0 : Aa) (p1 : Ab) (v1 : (List Ai) × Int) (v4 : Av) (v10 : (List Ai) × Int) (j17 : ((List Ai) × Bool) → Option ((List Ai))) : Nat → ((List Ai) × Bool × Int) → Option ((List Ai))
 | 0, _ => none
 | n17 + 1, v17 =>
  (BC p0.fb v4.fo).bind fun v19 =>
  AN ((decide (v17.2.2 < v19)))
   (Bi (fun (v21 : (List Ai) × Bool) =>
    Bn N p0 p1 v1 v4 v10 j17 n17 (v21.1, v21.2, (wI .i64 (v17.2.2 + 1))))
   fun j21 =>
   (BT N p1 v4.fo).bind fun v22 =>
   (CA N v22 v17.2.2).bind fun v23 =>
   AN ((!v23))
    (j21 (v17.1, v17.2.1))
    (Bi (fun (v25 : Bool) =>
     Bi (fun (v29 : Bool) =>
      AN v29
       ((Es (v17.1.length + (([(Ai.mk v1.2 v10.2 v17.2.2)] : List Ai)).length ≤ Dv)).bind fun _ =>
       j21 (v17.1 ++ (([(Ai.mk v1.2 v10.2 v17.2.2)] : List Ai)), v25))
       (j21 (v17.1, v25)))
     fun j29 =>
     AN ((!v4.fq))
      ((BC v4.fr v10.2).bind fun v31 =>
      (BC v31 v17.2.2).bind fun v32 =>
      j29 (!v32))
      (j29 false))
    fun j25 =>
    AN v17.2.1
     (j25 true)
     ((BC v4.fr v10.2).bind fun v27 =>
     (BC v27 v17.2.2).bind fun v28 =>
     j25 v28)))
   (j17 (v17.1, v17.2.1))
def BE (N : Nat) (p0 : Aa) (p1 : Ab) (v1 : (List Ai) × Int) (v4 : Av) (v6 : Int) (j10 : ((List Ai)) → Option ((List Ai))) : Nat → ((List Ai) × Int) → Option ((List Ai))
 | 0, _ => none
 | n10 + 1, v10 =>
  (BC p0.fb v4.fg).bind fun v12 =>
  AN ((decide (v10.2 < v12)))
   (Bi (fun (v14 : (List Ai)) =>
    BE N p0 p1 v1 v4 v6 j10 n10 (v14, (wI .i64 (v10.2 + 1))))
   fun j14 =>
   (CA N v6 v10.2).bind fun v15 =>
   AN ((!v15))
    (j14 v10.1)
    (Bn N p0 p1 v1 v4 v10 (fun (v18 : (List Ai) × Bool) =>
     Bi (fun (v35 : Bool) =>
      AN v35
       ((Es (v18.1.length + (([(Ai.mk v1.2 v10.2 ((-1)))] : List Ai)).length ≤ Dv)).bind fun _ =>
       j14 (v18.1 ++ (([(Ai.mk v1.2 v10.2 ((-1)))] : List Ai))))
       (j14 v18.1))
     fun j35 =>
     AN v4.fq
      (j35 (!v18.2))
      (j35 false)) N (v10.1, false, 0)))
   (j10 v10.1)
def CJ (N : Nat) (p0 : Aa) (p1 : Ab) (j1 : ((List Ai)) → Option ((List Ai))) : Nat → ((List Ai) × Int) → Option ((List Ai))
 | 0, _ => none
 | n1 + 1, v1 =>
  AN ((decide (v1.2 < (p0.fe.length : Int))))
   ((BC p0.fe v1.2).bind fun v4 =>
   (BT N p1 v4.fg).bind fun v5 =>
   Bi (fun (v6 : Int) =>
    BE N p0 p1 v1 v4 v6 (fun (v11 : (List Ai)) =>
     CJ N p0 p1 j1 n1 (v11, (wI .i64 (v1.2 + 1)))) N (v1.1, 0))
   fun j6 =>
   (A4 N v4).bind fun v7 =>
   AN v7
    ((BC p1.fd v1.2).bind fun v9 =>
    j6 v9)
    (j6 v5))
   (j1 v1.1)
def DY (N : Nat) (p0 : Aa) (p1 : Ab) : Option ((List Ai)) :=
 CJ N p0 p1 (fun (v2 : (List Ai)) =>
  some v2) N (([] : List Ai), 0)
def Ep (N : Nat) (p0 : Aa) (p1 : Ab) : Option Bool :=
 (DY N p0 p1).bind fun v1 =>
 some (((v1.length : Int) == 0))
def B7 (N : Nat) (p0 : Aa) (v1 : (List Ab)) (j2 : Unit → Option Bool) : Nat → Int → Option Bool
 | 0, _ => none
 | n2 + 1, v2 =>
  AN ((decide (v2 < (v1.length : Int))))
   ((BC v1 v2).bind fun v5 =>
   (Ep N p0 v5).bind fun v6 =>
   AN ((!v6))
    (some false)
    (B7 N p0 v1 j2 n2 (wI .i64 (v2 + 1))))
   (j2 ())
def Dc (N : Nat) (p0 : Aa) (p1 : Ab) : Option Bool :=
 (DO N p1).bind fun v1 =>
 B7 N p0 v1 (fun (_ : Unit) =>
  some true) N 0
def B9 (N : Nat) (p0 : Aa) (p1 : Ab) (j7 : Unit → Option Int) : Nat → Int → Option Int
 | 0, _ => none
 | n7 + 1, v7 =>
  AN ((decide (v7 < (p0.fb.length : Int))))
   (Bi (fun (v10 : Bool) =>
    AN v10
     (some 7)
     ((BC p1.fc v7).bind fun v21 =>
     (BC p1.fa v7).bind fun v22 =>
     AN ((v21 == v22))
      (some 1)
      (B9 N p0 p1 j7 n7 (wI .i64 (v7 + 1)))))
   fun j10 =>
   (BC p1.fc v7).bind fun v11 =>
   AN ((decide (v11 < 0)))
    (j10 true)
    ((BC p1.fc v7).bind fun v13 =>
    (BC p0.fb v7).bind fun v14 =>
    AN ((decide (v14 ≤ v13)))
     (j10 true)
     ((BC p1.fa v7).bind fun v16 =>
     AN ((decide (v16 < (-1))))
      (j10 true)
      ((BC p1.fa v7).bind fun v18 =>
      (BC p0.fb v7).bind fun v19 =>
      j10 (decide (v19 ≤ v18))))))
   (j7 ())
def B1 (N : Nat) (p0 : Aa) (p1 : Ab) (j24 : Unit → Option Int) : Nat → Int → Option Int
 | 0, _ => none
 | n24 + 1, v24 =>
  AN ((decide (v24 < (p0.fe.length : Int))))
   ((BC p0.fe v24).bind fun v27 =>
   (BC p0.fb v27.fg).bind fun v28 =>
   (Es (0 ≤ v28)).bind fun _ =>
   Bi (fun (v30 : Bool) =>
    AN v30
     (some 1)
     (B1 N p0 p1 j24 n24 (wI .i64 (v24 + 1))))
   fun j30 =>
   (A4 N v27).bind fun v31 =>
   AN ((!v31))
    ((BC p1.fd v24).bind fun v33 =>
    AN ((v33 != 0))
     (j30 true)
     ((A4 N v27).bind fun v35 =>
     AN v35
      ((BC p1.fd v24).bind fun v37 =>
      AN (((Dn .u8 v37 ((wI .u8 ((D3 .u8 1 v28) - 1)))) != 0))
       (j30 true)
       ((BT N p1 v27.fg).bind fun v39 =>
       (BC p1.fd v24).bind fun v40 =>
       j30 ((Dn .u8 v39 v40) != 0)))
      (j30 false)))
    ((A4 N v27).bind fun v41 =>
    AN v41
     ((BC p1.fd v24).bind fun v43 =>
     AN (((Dn .u8 v43 ((wI .u8 ((D3 .u8 1 v28) - 1)))) != 0))
      (j30 true)
      ((BT N p1 v27.fg).bind fun v45 =>
      (BC p1.fd v24).bind fun v46 =>
      j30 ((Dn .u8 v45 v46) != 0)))
     (j30 false)))
   (j24 ())
def Dg (N : Nat) (p0 : Aa) (p1 : Ab) : Option Int :=
 (A8 N p0).bind fun v1 =>
 AN ((v1 != 0))
  (some v1)
  (Bi (fun (v3 : Bool) =>
   AN v3
    (some 6)
    (B9 N p0 p1 (fun (_ : Unit) =>
     B1 N p0 p1 (fun (_ : Unit) =>
      some 0) N 0) N 0))
  fun j3 =>
  AN (((p1.fc.length : Int) != (p0.fb.length : Int)))
   (j3 true)
   (AN (((p1.fa.length : Int) != (p0.fb.length : Int)))
    (j3 true)
    (j3 ((p1.fd.length : Int) != (p0.fe.length : Int)))))
def EC (_ : Nat) (p0 : Ad) : Option Bool :=
 Bi (fun (v1 : Bool) =>
  some v1)
 fun j1 =>
 AN ((decide (1 ≤ p0.ff)))
  (AN ((decide (p0.ff ≤ 4)))
   (AN ((decide (0 ≤ p0.fi)))
    (AN ((decide (0 ≤ p0.fk)))
     (AN ((p0.ff == 1))
      (j1 true)
      (j1 (p0.fk == 0)))
     (j1 false))
    (j1 false))
   (j1 false))
  (j1 false)
def BY (N : Nat) (p0 : Aa) (p2 : Ad) (j12 : ((List Int)) → Option (Ab × Bool)) : Nat → ((List Int) × Int) → Option (Ab × Bool)
 | 0, _ => none
 | n12 + 1, v12 =>
  AN ((decide (v12.2 < (p0.fe.length : Int))))
   (Bi (fun (v15 : (List Int)) =>
    BY N p0 p2 j12 n12 (v15, (wI .i64 (v12.2 + 1))))
   fun j15 =>
   Bi (fun (v16 : Bool) =>
    AN v16
     ((BC v12.1 v12.2).bind fun v22 =>
     (Es (0 ≤ p2.fk)).bind fun _ =>
     (BC v12.1 v12.2).bind fun _ =>
     j15 (v12.1.set ((v12.2).toNat) ((O9 .u8 v22 ((D3 .u8 1 p2.fk))))))
     (j15 v12.1))
   fun j16 =>
   (BC p0.fe v12.2).bind fun v17 =>
   AN ((v17.fg == p2.fi))
    ((BC p0.fe v12.2).bind fun v19 =>
    (A4 N v19).bind fun v20 =>
    j16 v20)
    (j16 false))
   (j12 v12.1)
def BF (N : Nat) (p0 : Aa) (p1 : Ab) (p2 : Ad) (v32 : Av) (v35 : Int) (j38 : Unit → Option (Ab × Bool)) : Nat → Int → Option (Ab × Bool)
 | 0, _ => none
 | n38 + 1, v38 =>
  (BC p0.fb v32.fg).bind fun v40 =>
  AN ((decide (v38 < v40)))
   (Bi (fun (v42 : Bool) =>
    Bi (fun (v47 : Bool) =>
     AN v47
      (some ((Ab.mk (([] : List Int)) (([] : List Int)) (([] : List Int))), false))
      (BF N p0 p1 p2 v32 v35 j38 n38 (wI .i64 (v38 + 1))))
    fun j47 =>
    AN v42
     (AN ((v32.ff == 4))
      ((BC v32.fp v38).bind fun v50 =>
      (BC p1.fc v32.fg).bind fun v51 =>
      (BC v50 v51).bind fun v52 =>
      j47 (!v52))
      (j47 false))
     (j47 false))
   fun j42 =>
   (BC p1.fd p2.fi).bind fun v43 =>
   (CA N v43 v38).bind fun v44 =>
   AN v44
    ((CA N v35 v38).bind fun v46 =>
    j42 (!v46))
    (j42 false))
   (j38 ())
def Cv (N : Nat) (p0 : Aa) (p1 : Ab) (p2 : Ad) : Option (Ab × Bool) :=
 (Es ((([] : List Int)).length + p1.fc.length ≤ Dv)).bind fun _ =>
 (Es ((([] : List Int)).length + p1.fa.length ≤ Dv)).bind fun _ =>
 (Es ((([] : List Int)).length + p1.fd.length ≤ Dv)).bind fun _ =>
 Bi (fun (v4 : (List Int) × (List Int) × (List Int)) =>
  some ((Ab.mk v4.1 v4.2.1 v4.2.2), true))
 fun j4 =>
 AN ((p2.ff == 1))
  (Bi (fun (v6 : Bool) =>
   AN v6
    (some ((Ab.mk (([] : List Int)) (([] : List Int)) (([] : List Int))), false))
    ((BC ((([] : List Int)) ++ p1.fa) p2.fi).bind fun _ =>
    BY N p0 p2 (fun (v13 : (List Int)) =>
     j4 ((([] : List Int)) ++ p1.fc, ((([] : List Int)) ++ p1.fa).set ((p2.fi).toNat) p2.fk, v13)) N ((([] : List Int)) ++ p1.fd, 0)))
  fun j6 =>
  (BC p1.fa p2.fi).bind fun v7 =>
  AN ((decide (0 ≤ v7)))
   (j6 true)
   ((BC p1.fc p2.fi).bind fun v9 =>
   j6 (p2.fk == v9)))
  (AN ((p2.ff == 2))
   ((BC p1.fa p2.fi).bind fun v26 =>
   AN ((decide (v26 < 0)))
    (some ((Ab.mk (([] : List Int)) (([] : List Int)) (([] : List Int))), false))
    ((BC p1.fa p2.fi).bind fun v28 =>
    (BC ((([] : List Int)) ++ p1.fc) p2.fi).bind fun _ =>
    (BC ((([] : List Int)) ++ p1.fa) p2.fi).bind fun _ =>
    j4 (((([] : List Int)) ++ p1.fc).set ((p2.fi).toNat) v28, ((([] : List Int)) ++ p1.fa).set ((p2.fi).toNat) ((-1)), (([] : List Int)) ++ p1.fd)))
   (AN ((p2.ff == 3))
    ((BC p0.fe p2.fi).bind fun v32 =>
    (A4 N v32).bind fun v33 =>
    AN ((!v33))
     (some ((Ab.mk (([] : List Int)) (([] : List Int)) (([] : List Int))), false))
     ((BT N p1 v32.fg).bind fun v35 =>
     (BC p1.fd p2.fi).bind fun v36 =>
     AN ((v36 == v35))
      (some ((Ab.mk (([] : List Int)) (([] : List Int)) (([] : List Int))), false))
      (BF N p0 p1 p2 v32 v35 (fun (_ : Unit) =>
       (BC ((([] : List Int)) ++ p1.fd) p2.fi).bind fun _ =>
       j4 ((([] : List Int)) ++ p1.fc, (([] : List Int)) ++ p1.fa, ((([] : List Int)) ++ p1.fd).set ((p2.fi).toNat) v35)) N 0)))
    ((BC p1.fa p2.fi).bind fun v55 =>
    AN ((decide (v55 < 0)))
     (some ((Ab.mk (([] : List Int)) (([] : List Int)) (([] : List Int))), false))
     ((BC ((([] : List Int)) ++ p1.fa) p2.fi).bind fun _ =>
     j4 ((([] : List Int)) ++ p1.fc, ((([] : List Int)) ++ p1.fa).set ((p2.fi).toNat) ((-1)), (([] : List Int)) ++ p1.fd)))))
def DX (N : Nat) (p0 : Aa) (p1 : Ab) (p2 : Ad) : Option (Ab × Int) :=
 (Dg N p0 p1).bind fun v1 =>
 AN ((v1 != 0))
  (some ((Ab.mk (([] : List Int)) (([] : List Int)) (([] : List Int))), v1))
  ((EC N p2).bind fun v3 =>
  AN ((!v3))
   (some ((Ab.mk (([] : List Int)) (([] : List Int)) (([] : List Int))), 1))
   (Bi (fun (v5 : Bool) =>
    AN v5
     (some ((Ab.mk (([] : List Int)) (([] : List Int)) (([] : List Int))), 4))
     (Bi (fun (v11 : Bool) =>
      AN v11
       (some ((Ab.mk (([] : List Int)) (([] : List Int)) (([] : List Int))), 4))
       ((Cv N p0 p1 p2).bind fun v15 =>
       AN ((!v15.2))
        (some ((Ab.mk (([] : List Int)) (([] : List Int)) (([] : List Int))), 11))
        (some (v15.1, 0))))
     fun j11 =>
     AN ((p2.ff == 1))
      ((BC p0.fb p2.fi).bind fun v13 =>
      j11 (decide (v13 ≤ p2.fk)))
      (j11 false)))
   fun j5 =>
   AN ((p2.ff == 3))
    (AN ((decide ((p0.fe.length : Int) ≤ p2.fi)))
     (j5 true)
     (AN ((p2.ff != 3))
      (j5 (decide ((p0.fb.length : Int) ≤ p2.fi)))
      (j5 false)))
    (AN ((p2.ff != 3))
     (j5 (decide ((p0.fb.length : Int) ≤ p2.fi)))
     (j5 false))))
def Cc (N : Nat) (p0 : Aa) (p1 : Ab) (v1 : (List Ad) × Int) (v4 : (List Ad) × Int) (j7 : ((List Ad)) → Option ((List Ad))) : Nat → ((List Ad) × Int) → Option ((List Ad))
 | 0, _ => none
 | n7 + 1, v7 =>
  AN ((decide (v7.2 < 6)))
   (Bi (fun (v10 : (List Ad)) =>
    Cc N p0 p1 v1 v4 j7 n7 (v10, (wI .i64 (v7.2 + 1))))
   fun j10 =>
   (DX N p0 p1 ((Ad.mk v1.2 v4.2 v7.2))).bind fun v11 =>
   AN ((v11.2 == 0))
    ((Es (v7.1.length + (([(Ad.mk v1.2 v4.2 v7.2)] : List Ad)).length ≤ Dv)).bind fun _ =>
    j10 (v7.1 ++ (([(Ad.mk v1.2 v4.2 v7.2)] : List Ad))))
    (j10 v7.1))
   (j7 v7.1)
def Cb (N : Nat) (p0 : Aa) (p1 : Ab) (v1 : (List Ad) × Int) (j4 : ((List Ad)) → Option ((List Ad))) : Nat → ((List Ad) × Int) → Option ((List Ad))
 | 0, _ => none
 | n4 + 1, v4 =>
  AN ((decide (v4.2 < (Ua ((p0.fb.length : Int)) ((p0.fe.length : Int))))))
   (Cc N p0 p1 v1 v4 (fun (v8 : (List Ad)) =>
    Cb N p0 p1 v1 j4 n4 (v8, (wI .i64 (v4.2 + 1)))) N (v4.1, 0))
   (j4 v4.1)
def Bw (N : Nat) (p0 : Aa) (p1 : Ab) (j1 : ((List Ad)) → Option ((List Ad))) : Nat → ((List Ad) × Int) → Option ((List Ad))
 | 0, _ => none
 | n1 + 1, v1 =>
  AN ((decide (v1.2 ≤ 3)))
   (Cb N p0 p1 v1 (fun (v5 : (List Ad)) =>
    Bw N p0 p1 j1 n1 (v5, (wI .i64 (v1.2 + 1)))) N (v1.1, 0))
   (j1 v1.1)
def EF (N : Nat) (p0 : Aa) (p1 : Ab) : Option ((List Ad)) :=
 Bw N p0 p1 (fun (v2 : (List Ad)) =>
  some v2) N (([] : List Ad), 1)
def Dq (N : Nat) (p0 : List Int) (p1 : List Int) (j1 : Unit → Option Int) : Nat → Int → Option Int
 | 0, _ => none
 | n1 + 1, v1 =>
  Bi (fun (v3 : Bool) =>
   AN v3
    ((BC p0 v1).bind fun v6 =>
    (BC p1 v1).bind fun v7 =>
    AN ((decide (v6 < v7)))
     (some ((-1)))
     ((BC p0 v1).bind fun v9 =>
     (BC p1 v1).bind fun v10 =>
     AN ((decide (v10 < v9)))
      (some 1)
      (Dq N p0 p1 j1 n1 (wI .i64 (v1 + 1)))))
    (j1 ()))
  fun j3 =>
  AN ((decide (v1 < (p0.length : Int))))
   (j3 (decide (v1 < (p1.length : Int))))
   (j3 false)
def Dz (N : Nat) (p0 : List Int) (p1 : List Int) : Option Int :=
 Dq N p0 p1 (fun (_ : Unit) =>
  AN ((decide ((p0.length : Int) < (p1.length : Int))))
   (some ((-1)))
   (AN ((decide ((p1.length : Int) < (p0.length : Int))))
    (some 1)
    (some 0))) N 0
def CT (N : Nat) (p0 : List Int) (j1 : ((List Int)) → Option ((List Int))) : Nat → ((List Int) × Int) → Option ((List Int))
 | 0, _ => none
 | n1 + 1, v1 =>
  AN ((decide (v1.2 < (p0.length : Int))))
   ((BC p0 v1.2).bind fun v4 =>
   (Es (v1.1.length + (([(wI .i64 v4)] : List Int)).length ≤ Dv)).bind fun _ =>
   CT N p0 j1 n1 (v1.1 ++ (([(wI .i64 v4)] : List Int)), (wI .i64 (v1.2 + 1))))
   (j1 v1.1)
def Dp (N : Nat) (p0 : List Int) : Option ((List Int)) :=
 CT N p0 (fun (v2 : (List Int)) =>
  some v2) N (([] : List Int), 0)
def D4 (N : Nat) (p0 : Ab) (p1 : Ab) : Option Int :=
 (Dz N p0.fc p1.fc).bind fun v1 =>
 AN ((v1 != 0))
  (some v1)
  ((Dz N p0.fa p1.fa).bind fun v3 =>
  AN ((v3 != 0))
   (some v3)
   ((Dp N p0.fd).bind fun v5 =>
   (Dp N p1.fd).bind fun v6 =>
   (Dz N v5 v6).bind fun v7 =>
   some v7))
def EB (N : Nat) (p0 : Ab) (p1 : Ab) : Option Bool :=
 (D4 N p0 p1).bind fun v1 =>
 some ((v1 == 0))
def Co (N : Nat) (p0 : List AC) (p1 : Ab) (j1 : Unit → Option Int) : Nat → Int → Option Int
 | 0, _ => none
 | n1 + 1, v1 =>
  AN ((decide (v1 < (p0.length : Int))))
   ((BC p0 v1).bind fun v4 =>
   (EB N ((Ab.mk v4.fu.fc v4.fu.fa v4.fu.fd)) p1).bind fun v5 =>
   AN v5
    (some v1)
    (Co N p0 p1 j1 n1 (wI .i64 (v1 + 1))))
   (j1 ())
def D9 (N : Nat) (p0 : List AC) (p1 : Ab) : Option Int :=
 Co N p0 p1 (fun (_ : Unit) =>
  some ((-1))) N 0
def BL (N : Nat) (p0 : Aa) (p2 : Int) (v1 : (List AC) × Int) (v5 : (List Ad)) (j6 : ((List AC)) → Option ((List AC) × Bool)) : Nat → ((List AC) × Int) → Option ((List AC) × Bool)
 | 0, _ => none
 | n6 + 1, v6 =>
  AN ((decide (v6.2 < (v5.length : Int))))
   ((BC v6.1 v1.2).bind fun v9 =>
   (BC v5 v6.2).bind fun v10 =>
   (Cv N p0 ((Ab.mk v9.fu.fc v9.fu.fa v9.fu.fd)) v10).bind fun v11 =>
   Bi (fun (v12 : (List AC)) =>
    AN ((decide (p2 < (v12.length : Int))))
     (some (([] : List AC), false))
     (BL N p0 p2 v1 v5 j6 n6 (v12, (wI .i64 (v6.2 + 1)))))
   fun j12 =>
   Bi (fun (v13 : Bool) =>
    AN v13
     ((BC v5 v6.2).bind fun v18 =>
     (Es (v6.1.length + (([(AC.mk v11.1 v1.2 v18)] : List AC)).length ≤ Dv)).bind fun _ =>
     j12 (v6.1 ++ (([(AC.mk v11.1 v1.2 v18)] : List AC))))
     (j12 v6.1))
   fun j13 =>
   (Dc N p0 v11.1).bind fun v14 =>
   AN v14
    ((D9 N v6.1 v11.1).bind fun v16 =>
    j13 (decide (v16 < 0)))
    (j13 false))
   (j6 v6.1)
def BK (N : Nat) (p0 : Aa) (p2 : Int) (j1 : ((List AC)) → Option ((List AC) × Bool)) : Nat → ((List AC) × Int) → Option ((List AC) × Bool)
 | 0, _ => none
 | n1 + 1, v1 =>
  AN ((decide (v1.2 < (v1.1.length : Int))))
   ((BC v1.1 v1.2).bind fun v4 =>
   (EF N p0 ((Ab.mk v4.fu.fc v4.fu.fa v4.fu.fd))).bind fun v5 =>
   BL N p0 p2 v1 v5 (fun (v7 : (List AC)) =>
    BK N p0 p2 j1 n1 (v7, (wI .i64 (v1.2 + 1)))) N (v1.1, 0))
   (j1 v1.1)
def B2 (N : Nat) (p0 : Aa) (p1 : Ab) (p2 : Int) : Option ((List AC) × Bool) :=
 BK N p0 p2 (fun (v2 : (List AC)) =>
  some (v2, true)) N (([(AC.mk p1 ((-1)) ((Ad.mk 0 0 0)))] : List AC), 0)
def EM (N : Nat) (p0 : Aa) (p1 : Int) : Option Bool :=
 (Di N p0).bind fun v1 =>
 Bi (fun (v2 : Bool) =>
  AN v2
   (some true)
   ((B2 N p0 v1.1 p1).bind fun v6 =>
   some v6.2))
 fun j2 =>
 AN ((v1.2 != 0))
  (j2 true)
  ((Dc N p0 v1.1).bind fun v4 =>
  j2 (!v4))
def Fr (N : Nat) (p0 : BA) : Option (Aa × Bool) :=
 (Fn N p0).bind fun v1 =>
 Bi (fun (v2 : Bool) =>
  some (v1.1, v2))
 fun j2 =>
 AN v1.2
  ((EM N v1.1 120).bind fun v4 =>
  j2 v4)
  (j2 false)
def EE (_ : Nat) (p0 : Int) : Option Bool :=
 some ((decide (0 ≤ p0)))
def Fs (_ : Nat) (p0 : Int) (p1 : List Bool) : Option Bool :=
 (BC p1 p0).bind fun v1 =>
 some v1
def Bp (N : Nat) (p0 : List Int) (p1 : List Bool) (j1 : Unit → Option Int) : Nat → Int → Option Int
 | 0, _ => none
 | n1 + 1, v1 =>
  AN ((decide (v1 < (p0.length : Int))))
   ((BC p0 v1).bind fun v4 =>
   (Fs N v4 p1).bind fun v5 =>
   AN v5
    (some v1)
    (Bp N p0 p1 j1 n1 (wI .i64 (v1 + 1))))
   (j1 ())
def DA (N : Nat) (p0 : List Int) (p1 : List Bool) : Option Int :=
 Bp N p0 p1 (fun (_ : Unit) =>
  some ((-1))) N 0
def Cm (N : Nat) (p0 : List Int) (p1 : List Bool) : Option Bool :=
 (DA N p0 p1).bind fun v1 =>
 some ((decide (0 ≤ v1)))
def FD (N : Nat) (p0 : Aa) (p2 : List Ad) (j4 : ((List Ab)) → Option ((List Ab) × Int × Int)) : Nat → ((List Ab) × Int) → Option ((List Ab) × Int × Int)
 | 0, _ => none
 | n4 + 1, v4 =>
  AN ((decide (v4.2 < (p2.length : Int))))
   ((BC p2 v4.2).bind fun v7 =>
   (BC v4.1 v4.2).bind fun v8 =>
   (Ga N p0 v8 v7).bind fun v9 =>
   AN ((v9.2 != 0))
    (some (([] : List Ab), v4.2, v9.2))
    ((Es (v4.1.length + (([v9.1] : List Ab)).length ≤ Dv)).bind fun _ =>
    FD N p0 p2 j4 n4 (v4.1 ++ (([v9.1] : List Ab)), (wI .i64 (v4.2 + 1)))))
   (j4 v4.1)
def Gv (N : Nat) (p0 : Aa) (p1 : Ab) (p2 : List Ad) : Option ((List Ab) × Int × Int) :=
 (EW N p0 p1).bind fun v1 =>
 AN ((v1 != 0))
  (some (([] : List Ab), 0, v1))
  ((FE N p1).bind fun v3 =>
  FD N p0 p2 (fun (v5 : (List Ab)) =>
   some (v5, (p2.length : Int), 0)) N (([v3] : List Ab), 0))
def FC (_ : Nat) (p0 : Int) : Option Bool :=
 some ((p0 != p0))
def Fb (N : Nat) (p0 : Int) (p1 : Int) : Option Int :=
 (FC N p0).bind fun v1 =>
 (FC N p1).bind fun v2 =>
 AN v1
  (AN v2
   (some 0)
   (some ((-1))))
  (AN v2
   (some 1)
   (AN ((decide (p0 < p1)))
    (some ((-1)))
    (AN ((decide (p1 < p0)))
     (some 1)
     (some 0))))
def Cj (N : Nat) (p0 : List Int) (p1 : List Int) (j1 : Unit → Option Int) : Nat → Int → Option Int
 | 0, _ => none
 | n1 + 1, v1 =>
  AN ((decide (v1 < (p0.length : Int))))
   ((BC p0 v1).bind fun v4 =>
   AN ((decide ((p1.length : Int) ≤ v1)))
    (some 1)
    ((BC p1 v1).bind fun v6 =>
    (Fb N v4 v6).bind fun v7 =>
    AN ((v7 != 0))
     (some v7)
     (Cj N p0 p1 j1 n1 (wI .i64 (v1 + 1)))))
   (j1 ())
def CS (N : Nat) (p0 : List Int) (p1 : List Int) : Option Int :=
 Cj N p0 p1 (fun (_ : Unit) =>
  AN ((decide ((p0.length : Int) < (p1.length : Int))))
   (some ((-1)))
   (some 0)) N 0
def EI (_ : Nat) (p0 : Int) : Option Bool :=
 some ((p0 != p0))
def D6 (N : Nat) (p0 : Int) (p1 : Int) : Option Int :=
 (EI N p0).bind fun v1 =>
 (EI N p1).bind fun v2 =>
 AN v1
  (AN v2
   (some 0)
   (some ((-1))))
  (AN v2
   (some 1)
   (AN ((decide (p0 < p1)))
    (some ((-1)))
    (AN ((decide (p1 < p0)))
     (some 1)
     (some 0))))
def Bq (N : Nat) (p0 : List Int) (p1 : List Int) (j1 : Unit → Option Int) : Nat → Int → Option Int
 | 0, _ => none
 | n1 + 1, v1 =>
  AN ((decide (v1 < (p0.length : Int))))
   ((BC p0 v1).bind fun v4 =>
   AN ((decide ((p1.length : Int) ≤ v1)))
    (some 1)
    ((BC p1 v1).bind fun v6 =>
    (D6 N v4 v6).bind fun v7 =>
    AN ((v7 != 0))
     (some v7)
     (Bq N p0 p1 j1 n1 (wI .i64 (v1 + 1)))))
   (j1 ())
def Cf (N : Nat) (p0 : List Int) (p1 : List Int) : Option Int :=
 Bq N p0 p1 (fun (_ : Unit) =>
  AN ((decide ((p0.length : Int) < (p1.length : Int))))
   (some ((-1)))
   (some 0)) N 0
def E2 (N : Nat) (p0 : List Int) (j1 : Unit → Option Int) : Nat → Int → Option Int
 | 0, _ => none
 | n1 + 1, v1 =>
  AN ((decide (v1 < (p0.length : Int))))
   ((BC p0 v1).bind fun v4 =>
   AN ((v4 != 0))
    (some v4)
    (E2 N p0 j1 n1 (wI .i64 (v1 + 1))))
   (j1 ())
def G1 (N : Nat) (p0 : List Int) : Option Int :=
 E2 N p0 (fun (_ : Unit) =>
  some 0) N 0
def Gx (N : Nat) (p0 : Ab) (p1 : Ab) : Option Int :=
 (CS N p0.fc p1.fc).bind fun v1 =>
 (CS N p0.fa p1.fa).bind fun v2 =>
 (Cf N p0.fd p1.fd).bind fun v3 =>
 (G1 N (([v1, v2, v3] : List Int))).bind fun v4 =>
 some v4
def CO (N : Nat) (p0 : Ar) (p1 : List Int) (p2 : List Int) (p3 : List Int) : Option Bool :=
 (Gx N ((Ab.mk p0.fh.fc p0.fh.fa p0.fh.fd)) ((Ab.mk p1 p2 p3))).bind fun v1 =>
 some ((v1 == 0))
def C5 (N : Nat) (p0 : Aa) (v5 : (List Ar) × Int) (j8 : ((List Bool)) → Option (Bool × Int)) : Nat → ((List Bool) × Int) → Option (Bool × Int)
 | 0, _ => none
 | n8 + 1, v8 =>
  AN ((decide (v8.2 < (v5.1.length : Int))))
   (Bi (fun (v11 : (List Bool)) =>
    C5 N p0 v5 j8 n8 (v11, (wI .i64 (v8.2 + 1))))
   fun j11 =>
   (BC v5.1 v8.2).bind fun v12 =>
   (Db N v12.fh.fc p0.fj).bind fun v13 =>
   AN v13
    ((B5 N v12.fh.fa ((fun (x : Int) => EE N x))).bind fun v15 =>
    (BC v8.1 v8.2).bind fun _ =>
    j11 (v8.1.set ((v8.2).toNat) ((!v15))))
    ((BC v8.1 v8.2).bind fun _ =>
    j11 (v8.1.set ((v8.2).toNat) false)))
   (j8 v8.1)
def Cu (N : Nat) (v5 : (List Ar) × Int) (j21 : ((List Bool) × Bool) → Option (Bool × Int)) : Nat → ((List Bool) × Bool × Int) → Option (Bool × Int)
 | 0, _ => none
 | n21 + 1, v21 =>
  AN ((decide (v21.2.2 < (v5.1.length : Int))))
   (Bi (fun (v24 : (List Bool) × Bool) =>
    Cu N v5 j21 n21 (v24.1, v24.2, (wI .i64 (v21.2.2 + 1))))
   fun j24 =>
   (BC v5.1 v21.2.2).bind fun v25 =>
   Bi (fun (v26 : Bool) =>
    AN v26
     ((BC v21.1 v21.2.2).bind fun _ =>
     j24 (v21.1.set ((v21.2.2).toNat) true, true))
     (j24 (v21.1, v21.2.1)))
   fun j26 =>
   (BC v21.1 v21.2.2).bind fun v27 =>
   AN ((!v27))
    ((Cm N v25.fa v21.1).bind fun v29 =>
    j26 v29)
    (j26 false))
   (j21 (v21.1, v21.2.1))
def BD (N : Nat) (v5 : (List Ar) × Int) (j18 : ((List Bool)) → Option (Bool × Int)) : Nat → ((List Bool) × Bool) → Option (Bool × Int)
 | 0, _ => none
 | n18 + 1, v18 =>
  AN v18.2
   (Cu N v5 (fun (v22 : (List Bool) × Bool) =>
    BD N v5 j18 n18 (v22.1, v22.2)) N (v18.1, false, 0))
   (j18 v18.1)
def Cn (N : Nat) (v5 : (List Ar) × Int) (v19 : (List Bool)) (v32 : (List Ab) × Int × Int) (j34 : Unit → Option (Bool × Int)) : Nat → Int → Option (Bool × Int)
 | 0, _ => none
 | n34 + 1, v34 =>
  AN ((decide (v34 < (v32.1.length : Int))))
   ((BC v32.1 v34).bind fun v37 =>
   (Bd N v5.1 ((fun (x : Ar) => CO N x v37.fc v37.fa v37.fd))).bind fun v38 =>
   Bi (fun (v39 : Bool) =>
    AN v39
     (some (false, 0))
     (Cn N v5 v19 v32 j34 n34 (wI .i64 (v34 + 1))))
   fun j39 =>
   AN ((decide (v38 < 0)))
    (j39 true)
    ((BC v19 v38).bind fun v41 =>
    j39 (!v41)))
   (j34 ())
def DR (N : Nat) (p0 : Aa) (p1 : List Ad) : Option (Bool × Int) :=
 (F1 N p0).bind fun v1 =>
 AN ((v1.2 != 0))
  (some (false, v1.2))
  ((F9 N p0 p1).bind fun v3 =>
  AN ((!v3))
   (some (false, 13))
   ((FN N p0 v1.1).bind fun v5 =>
   AN ((v5.2 != 0))
    (some (false, v5.2))
    ((Es ((0 : Int) ≤ (v5.1.length : Int) ∧ (v5.1.length : Int) ≤ (v5.1.length : Int) ∧ (v5.1.length : Int) ≤ (Dv : Int))).bind fun _ =>
    C5 N p0 v5 (fun (v9 : (List Bool)) =>
     BD N v5 (fun (v19 : (List Bool)) =>
      (Gv N p0 v1.1 p1).bind fun v32 =>
      AN ((v32.2.2 != 0))
       (some (false, v32.2.2))
       (Cn N v5 v19 v32 (fun (_ : Unit) =>
        some (true, 0)) N 0)) N (v9, true)) N (zA5 ((v5.1.length : Int)).toNat false, 0))))
def Fd (N : Nat) (p0 : Aa) (p1 : Ab) : Option ((List Ab) × Int) :=
 (Dg N p0 p1).bind fun v1 =>
 AN ((v1 != 0))
  (some (([] : List Ab), v1))
  ((DO N p1).bind fun v3 =>
  some (v3, 0))
def CL (N : Nat) (p0 : Aa) (v1 : (List Ab) × Int) (j3 : Unit → Option (Ab × Ai × Int)) : Nat → Int → Option (Ab × Ai × Int)
 | 0, _ => none
 | n3 + 1, v3 =>
  AN ((decide (v3 < (v1.1.length : Int))))
   ((BC v1.1 v3).bind fun v6 =>
   (DY N p0 v6).bind fun v7 =>
   AN ((decide (0 < (v7.length : Int))))
    ((BC v1.1 v3).bind fun v9 =>
    (BC v7 0).bind fun v10 =>
    some (v9, v10, 0))
    (CL N p0 v1 j3 n3 (wI .i64 (v3 + 1))))
   (j3 ())
def EH (N : Nat) (p0 : Aa) (p1 : Ab) : Option (Ab × Ai × Int) :=
 (Fd N p0 p1).bind fun v1 =>
 AN ((v1.2 != 0))
  (some ((Ab.mk (([] : List Int)) (([] : List Int)) (([] : List Int))), (Ai.mk 0 0 0), v1.2))
  (CL N p0 v1 (fun (_ : Unit) =>
   some ((Ab.mk (([] : List Int)) (([] : List Int)) (([] : List Int))), (Ai.mk 0 0 0), 15)) N 0)
def C0 (N : Nat) (p0 : Aa) (p1 : Ab) (j3 : Unit → Option Bool) : Nat → Int → Option Bool
 | 0, _ => none
 | n3 + 1, v3 =>
  AN ((decide (v3 < (p1.fc.length : Int))))
   (Bi (fun (v6 : Bool) =>
    AN v6
     (some false)
     (C0 N p0 p1 j3 n3 (wI .i64 (v3 + 1))))
   fun j6 =>
   (BC p1.fa v3).bind fun v7 =>
   AN ((decide (0 ≤ v7)))
    (j6 true)
    ((BC p1.fc v3).bind fun v9 =>
    (BC p0.fm v3).bind fun v10 =>
    j6 (v9 != v10)))
   (j3 ())
def Cd (N : Nat) (p0 : Aa) (p1 : Ab) : Option Bool :=
 (Dg N p0 p1).bind fun v1 =>
 AN ((v1 != 0))
  (some false)
  (C0 N p0 p1 (fun (_ : Unit) =>
   some true) N 0)
def Ch (N : Nat) (p0 : Aa) (p1 : List Ad) (j3 : Ab → Option (Int × Ab × Ai × Int)) : Nat → ((List Int) × (List Int) × (List Int) × Int) → Option (Int × Ab × Ai × Int)
 | 0, _ => none
 | n3 + 1, v3 =>
  AN ((decide (v3.2.2.2 < (p1.length : Int))))
   (Bi (fun (v6 : (List Int) × (List Int) × (List Int)) =>
    (EH N p0 ((Ab.mk v6.1 v6.2.1 v6.2.2))).bind fun v14 =>
    AN ((v14.2.2 == 0))
     (some (v3.2.2.2, v14.1, v14.2.1, 0))
     (Ch N p0 p1 j3 n3 (v6.1, v6.2.1, v6.2.2, (wI .i64 (v3.2.2.2 + 1)))))
   fun j6 =>
   AN ((decide (0 ≤ v3.2.2.2)))
    ((BC p1 v3.2.2.2).bind fun v8 =>
    (DX N p0 ((Ab.mk v3.1 v3.2.1 v3.2.2.1)) v8).bind fun v9 =>
    Bi (fun (v10 : Bool) =>
     AN v10
      (some (v3.2.2.2, (Ab.mk (([] : List Int)) (([] : List Int)) (([] : List Int))), (Ai.mk 0 0 0), 0))
      (j6 (v9.1.fc, v9.1.fa, v9.1.fd)))
    fun j10 =>
    AN ((v9.2 != 0))
     (j10 true)
     ((BC p1 v3.2.2.2).bind fun v12 =>
     j10 (v12.ff == 4)))
    (j6 (v3.1, v3.2.1, v3.2.2.1)))
   (j3 (Ab.mk v3.1 v3.2.1 v3.2.2.1))
def D5 (N : Nat) (p0 : Aa) (p1 : List Ad) : Option (Int × Ab × Ai × Int) :=
 (Di N p0).bind fun v1 =>
 AN ((v1.2 != 0))
  (some (0, (Ab.mk (([] : List Int)) (([] : List Int)) (([] : List Int))), (Ai.mk 0 0 0), v1.2))
  (Ch N p0 p1 (fun (v4 : Ab) =>
   (Cd N p0 v4).bind fun v16 =>
   AN ((!v16))
    (some ((p1.length : Int), (Ab.mk (([] : List Int)) (([] : List Int)) (([] : List Int))), (Ai.mk 0 0 0), 14))
    (some (0, (Ab.mk (([] : List Int)) (([] : List Int)) (([] : List Int))), (Ai.mk 0 0 0), 15))) N (v1.1.fc, v1.1.fa, v1.1.fd, (-1)))
def EG (N : Nat) (p0 : Aa) (p1 : List Ad) : Option Bool :=
 (D5 N p0 p1).bind fun v1 =>
 some ((v1.2.2.2 == 15))
def CB (N : Nat) (p0 : List (List Bool)) (j1 : ((List (List Bool))) → Option ((List (List Bool)))) : Nat → ((List (List Bool)) × Int) → Option ((List (List Bool)))
 | 0, _ => none
 | n1 + 1, v1 =>
  AN ((decide (v1.2 < (p0.length : Int))))
   ((BC p0 v1.2).bind fun v4 =>
   (Es ((([] : List Bool)).length + v4.length ≤ Dv)).bind fun _ =>
   (Es (v1.1.length + (([(([] : List Bool)) ++ v4] : List (List Bool))).length ≤ Dv)).bind fun _ =>
   CB N p0 j1 n1 (v1.1 ++ (([(([] : List Bool)) ++ v4] : List (List Bool))), (wI .i64 (v1.2 + 1))))
   (j1 v1.1)
def DI (N : Nat) (p0 : List (List Bool)) : Option ((List (List Bool))) :=
 CB N p0 (fun (v2 : (List (List Bool))) =>
  some v2) N (([] : List (List Bool)), 0)
def Fc (N : Nat) (p0 : Av) (p1 : Int) (p2 : Int) : Option Av :=
 (DI N p0.fr).bind fun v1 =>
 (DI N p0.fp).bind fun v2 =>
 some ((Av.mk p0.ff p1 p2 p0.fq v1 v2))
def Ci (N : Nat) (p0 : Aa) (j6 : ((List Av)) → Option (Aa × Int)) : Nat → ((List Av) × Int) → Option (Aa × Int)
 | 0, _ => none
 | n6 + 1, v6 =>
  AN ((decide (v6.2 < (p0.fe.length : Int))))
   ((BC p0.fe v6.2).bind fun v9 =>
   (BC p0.fe v6.2).bind fun v10 =>
   (BC p0.fe v6.2).bind fun v11 =>
   (Fc N v9 v10.fg v11.fo).bind fun v12 =>
   (Es (v6.1.length + (([v12] : List Av)).length ≤ Dv)).bind fun _ =>
   Ci N p0 j6 n6 (v6.1 ++ (([v12] : List Av)), (wI .i64 (v6.2 + 1))))
   (j6 v6.1)
def EX (N : Nat) (p0 : Aa) (p1 : List Int) (p2 : List Int) : Option (Aa × Int) :=
 (A8 N p0).bind fun v1 =>
 AN ((v1 != 0))
  (some ((Aa.mk (([] : List Int)) (([] : List Int)) (([] : List Int)) (([] : List Av))), v1))
  ((Es ((([] : List Int)).length + p0.fb.length ≤ Dv)).bind fun _ =>
  (Es ((([] : List Int)).length + p1.length ≤ Dv)).bind fun _ =>
  (Es ((([] : List Int)).length + p2.length ≤ Dv)).bind fun _ =>
  Ci N p0 (fun (v7 : (List Av)) =>
   (A8 N ((Aa.mk ((([] : List Int)) ++ p0.fb) ((([] : List Int)) ++ p1) ((([] : List Int)) ++ p2) v7))).bind fun v14 =>
   AN ((v14 != 0))
    (some ((Aa.mk (([] : List Int)) (([] : List Int)) (([] : List Int)) (([] : List Av))), v14))
    (some ((Aa.mk ((([] : List Int)) ++ p0.fb) ((([] : List Int)) ++ p1) ((([] : List Int)) ++ p2) v7), 0))) N (([] : List Av), 0))
def ET (N : Nat) (p0 : Aa) : Option (Aa × Int) :=
 (EX N p0 p0.fm p0.fj).bind fun v1 =>
 some (v1.1, v1.2)
def Dm (N : Nat) (p0 : Aa) (p1 : List AC) (v1 : Aa × Int) (j2 : (Bool × Bool) → Option Bool) : Nat → (Bool × Bool × Int) → Option Bool
 | 0, _ => none
 | n2 + 1, v2 =>
  AN ((decide (v2.2.2 < (p1.length : Int))))
   (Bi (fun (v5 : Bool × Bool) =>
    Dm N p0 p1 v1 j2 n2 (v5.1, v5.2, (wI .i64 (v2.2.2 + 1))))
   fun j5 =>
   Bi (fun (v6 : Bool) =>
    AN v2.2.1
     (j5 (v6, true))
     ((BC p1 v2.2.2).bind fun v11 =>
     (Cd N v1.1 ((Ab.mk v11.fu.fc v11.fu.fa v11.fu.fd))).bind fun v12 =>
     j5 (v6, v12)))
   fun j6 =>
   AN v2.1
    (j6 true)
    ((BC p1 v2.2.2).bind fun v8 =>
    (Cd N p0 ((Ab.mk v8.fu.fc v8.fu.fa v8.fu.fd))).bind fun v9 =>
    j6 v9))
   (j2 (v2.1, v2.2.1))
def EV (N : Nat) (p0 : Aa) (p1 : List AC) : Option Bool :=
 (ET N p0).bind fun v1 =>
 Dm N p0 p1 v1 (fun (v3 : Bool × Bool) =>
  Bi (fun (v13 : Bool) =>
   some v13)
  fun j13 =>
  AN v3.1
   (j13 v3.2)
   (j13 false)) N (false, false, 0)
def BN (N : Nat) (p0 : Aa) (p1 : List Ad) (j8 : Unit → Option (Bool × Int)) : Nat → (Ab × Int) → Option (Bool × Int)
 | 0, _ => none
 | n8 + 1, v8 =>
  AN ((decide (v8.2 ≤ (p1.length : Int))))
   (Bi (fun (v11 : (List Int) × (List Int) × (List Int)) =>
    BN N p0 p1 j8 n8 ((Ab.mk v11.1 v11.2.1 v11.2.2), (wI .i64 (v8.2 + 1))))
   fun j11 =>
   (B2 N p0 v8.1 20000).bind fun v12 =>
   (EV N p0 v12.1).bind fun v13 =>
   AN ((!v13))
    (some (false, 0))
    (AN ((decide (v8.2 < (p1.length : Int))))
     ((BC p1 v8.2).bind fun v16 =>
     (Cv N p0 v8.1 v16).bind fun v17 =>
     j11 (v17.1.fc, v17.1.fa, v17.1.fd))
     (j11 (v8.1.fc, v8.1.fa, v8.1.fd))))
   (j8 ())
def CV (N : Nat) (p0 : Aa) (p1 : List Ad) : Option (Bool × Int) :=
 (A8 N p0).bind fun v1 =>
 AN ((v1 != 0))
  (some (false, v1))
  ((EG N p0 p1).bind fun v3 =>
  AN ((!v3))
   (some (false, 13))
   ((Di N p0).bind fun v5 =>
   (B2 N p0 v5.1 20000).bind fun v6 =>
   AN ((!v6.2))
    (some (false, 3))
    (BN N p0 p1 (fun (_ : Unit) =>
     some (true, 0)) N (v5.1, 0))))
def CP (N : Nat) (p0 : BA) (p1 : List Ad) : Option Bool :=
 Bi (fun (v1 : Bool) =>
  AN v1
   ((EA N).bind fun v5 =>
   some v5)
   ((Fr N p0).bind fun v6 =>
   AN ((!v6.2))
    (some true)
    ((DR N v6.1 p1).bind fun v8 =>
    (CV N v6.1 p1).bind fun v9 =>
    Bi (fun (v10 : Bool) =>
     some v10)
    fun j10 =>
    AN ((v8.1 == v9.1))
     (j10 (v8.2 == v9.2))
     (j10 false))))
 fun j1 =>
 (EA N).bind fun v2 =>
 AN ((!v2))
  (j1 true)
  (j1 (decide (12 < (p1.length : Int))))
def Nf {α : Type} (w : α → Prop) (xs : List α) : Prop := ∀ x, x ∈ xs → w x
def W4 (n : Int) : Prop := (Lit.int .i64 n).wf = true
def Ln (n : Int) : Prop := (Lit.int .u8 n).wf = true
def XV (n : Int) : Prop := (Lit.int .u16 n).wf = true
def H2 (x : Hb) : Prop := Ln x.ff ∧ Ln x.fg ∧ Ln x.fo ∧ (fun _ => True) x.fq ∧ XV x.fw ∧ XV x.fy ∧ True
def Fp (x : BA) : Prop := (Nf Ln) x.fb ∧ (Nf Ln) x.fj ∧ (Nf Ln) x.fm ∧ (Nf H2) x.fv ∧ True
def MB (x : Ad) : Prop := W4 x.ff ∧ W4 x.fi ∧ W4 x.fk ∧ True
open Go.RowKit
open Go.Proofs
abbrev Ni (x : Hb) : List C := [.pure (.val (.int .u8 x.ff)), .pure (.val (.int .u8 x.fg)), .pure (.val (.int .u8 x.fo)), .pure (.val (.bool x.fq)), .pure (.val (.int .u16 x.fw)), .pure (.val (.int .u16 x.fy))]
abbrev Cp (x : BA) : List C := [sC (x.fb.map C3), sC (x.fj.map C3), sC (x.fm.map C3), sC (x.fv.map GC)]
abbrev Dk (x : Ad) : List C := [iC x.ff, iC x.fi, iC x.fk]
abbrev Bj (x : Av) : List C := [iC x.ff, iC x.fg, iC x.fo, .pure (.val (.bool x.fq)), sC (x.fr.map (JG eB)), sC (x.fp.map (JG eB))]
abbrev Ae (x : Aa) : List C := [sC (x.fb.map An), sC (x.fj.map An), sC (x.fm.map An), sC (x.fe.map AV)]
abbrev Ay (x : Ab) : List C := [sC (x.fc.map An), sC (x.fa.map An), sC (x.fd.map C3)]
abbrev E0 (x : Ai) : List C := [iC x.fA, iC x.fB, iC x.fC]
abbrev PZ (x : Ar) : List C := [sC (x.fh.fc.map An), sC (x.fh.fa.map An), sC (x.fh.fd.map C3), iC x.fg, iC x.ft.ff, iC x.ft.fi, iC x.ft.fk, sC (x.fa.map An)]
theorem AA : Tryz.prog.follows .mixedOrders = true := by kernel_rfl
theorem wq {X : H9} {y : Code} {id : Nat} {ops : Array Oper} {dr : Bool} {Q : Exit → St → Prop} {st : St} {n : Nat} (hn : ops.size = n) (h : Ba zA0 X ops dr (fun st' => W zA0 X y Q st') n 0 st []) : W zA0 X (.seq (.region id ops dr) y) Q st := bg AA hn h
theorem wp {X : H9} {y z : Code} {id : Nat} {ops : Array Oper} {dr : Bool} {Q : Exit → St → Prop} {st : St} {n : Nat} (hn : ops.size = n) (h : Ba zA0 X ops dr (fun st' => W zA0 X y (PH (W zA0 X z Q) Q) st') n 0 st []) : W zA0 X (.seq (.seq (.region id ops dr) y) z) Q st := AQ (bg AA hn h)
theorem Vc : Fh zA0 22 false = true := by kernel_rfl
theorem Xx : Fh zA0 23 false = true := by kernel_rfl
theorem Y1 : Fh zA0 25 true = true := by kernel_rfl
theorem A2 : Fh zA0 28 false = true := by kernel_rfl
theorem GD : Fh zA0 29 false = true := by kernel_rfl
theorem Ce : Fh zA0 3 false = true := by kernel_rfl
theorem Cz : Fh zA0 31 true = true := by kernel_rfl
theorem QW : Fh zA0 4 false = true := by kernel_rfl
theorem G4 : Fh zA0 41 false = true := by kernel_rfl
theorem A5 : Fh zA0 43 true = true := by kernel_rfl
theorem I3 : Fh zA0 45 true = true := by kernel_rfl
theorem Hr : Fh zA0 49 true = true := by kernel_rfl
theorem YX : Fh zA0 5 false = true := by kernel_rfl
theorem L6 : Fh zA0 58 false = true := by kernel_rfl
theorem XY : Fh zA0 60 true = true := by kernel_rfl
theorem Kc : Fh zA0 78 false = true := by kernel_rfl
theorem Hp : Fh zA0 80 true = true := by kernel_rfl
theorem Zx : Fh zA0 86 false = true := by kernel_rfl
theorem aa : Fh zA0 88 true = true := by kernel_rfl
theorem Kj : Fh zA0 93 false = true := by kernel_rfl
theorem bn : PL zA0 4 = true := by kernel_rfl
theorem ZM : QF zA0 22 = true := by kernel_rfl
theorem XU : Fx zA0 106 104 = true := by kernel_rfl
theorem KO : Fx zA0 3 8 = true := by kernel_rfl
theorem VH : Fx zA0 4 1 = true := by kernel_rfl
theorem Vp : Fx zA0 43 72 = true := by kernel_rfl
theorem TB : Fx zA0 45 24 = true := by kernel_rfl
theorem Rt : Fx zA0 49 24 = true := by kernel_rfl
theorem X4 : Fx zA0 5 1 = true := by kernel_rfl
theorem Xo : Fx zA0 58 24 = true := by kernel_rfl
theorem YH : Fx zA0 60 128 = true := by kernel_rfl
theorem Xt : Fx zA0 80 80 = true := by kernel_rfl
theorem Rw : Fx zA0 93 1 = true := by kernel_rfl
theorem K0 : CX zA0 106 0 0 = true := by kernel_rfl
theorem Qj : CX zA0 25 0 0 = true := by kernel_rfl
theorem VX : CX zA0 25 1 1 = true := by kernel_rfl
theorem WK : CX zA0 25 2 2 = true := by kernel_rfl
theorem Qx : CX zA0 25 3 3 = true := by kernel_rfl
theorem Bt : CX zA0 31 0 0 = true := by kernel_rfl
theorem Gj : CX zA0 31 1 1 = true := by kernel_rfl
theorem H5 : CX zA0 31 2 2 = true := by kernel_rfl
theorem Cg : CX zA0 31 3 3 = true := by kernel_rfl
theorem CC : CX zA0 43 0 0 = true := by kernel_rfl
theorem Bs : CX zA0 43 1 1 = true := by kernel_rfl
theorem CG : CX zA0 43 2 2 = true := by kernel_rfl
theorem Fq : CX zA0 49 0 0 = true := by kernel_rfl
theorem Fe : CX zA0 49 1 1 = true := by kernel_rfl
theorem Ha : CX zA0 49 2 2 = true := by kernel_rfl
theorem Ll : CX zA0 60 0 0 = true := by kernel_rfl
theorem Tl : CX zA0 60 1 3 = true := by kernel_rfl
theorem WW : CX zA0 60 2 4 = true := by kernel_rfl
theorem Qm : CX zA0 60 3 7 = true := by kernel_rfl
theorem FY : CX zA0 80 0 0 = true := by kernel_rfl
theorem Dd : CX zA0 80 1 1 = true := by kernel_rfl
theorem H3 : CX zA0 80 2 2 = true := by kernel_rfl
theorem IG : CX zA0 80 3 3 = true := by kernel_rfl
theorem Jq : CX zA0 80 4 4 = true := by kernel_rfl
theorem GG : CX zA0 80 5 5 = true := by kernel_rfl
theorem W7 : CX zA0 88 0 0 = true := by kernel_rfl
theorem WA : CX zA0 88 1 1 = true := by kernel_rfl
theorem V4 : CX zA0 88 2 2 = true := by kernel_rfl
theorem Wn : CX zA0 88 3 3 = true := by kernel_rfl
theorem WU : CX zA0 88 4 4 = true := by kernel_rfl
theorem WO : CX zA0 88 5 5 = true := by kernel_rfl
theorem ZO : AH zA0 10 = true := by kernel_rfl
theorem Zm : AH zA0 100 = true := by kernel_rfl
theorem ZA : AH zA0 101 = true := by kernel_rfl
theorem Y2 : AH zA0 102 = true := by kernel_rfl
theorem ZE : AH zA0 103 = true := by kernel_rfl
theorem YY : AH zA0 104 = true := by kernel_rfl
theorem Xq : AH zA0 105 = true := by kernel_rfl
theorem YM : AH zA0 106 = true := by kernel_rfl
theorem Y8 : AH zA0 107 = true := by kernel_rfl
theorem UJ : AH zA0 108 = true := by kernel_rfl
theorem Xs : AH zA0 109 = true := by kernel_rfl
theorem ad : AH zA0 11 = true := by kernel_rfl
theorem W9 : AH zA0 110 = true := by kernel_rfl
theorem YO : AH zA0 111 = true := by kernel_rfl
theorem Zn : AH zA0 112 = true := by kernel_rfl
theorem YQ : AH zA0 12 = true := by kernel_rfl
theorem aB : AH zA0 13 = true := by kernel_rfl
theorem aY : AH zA0 14 = true := by kernel_rfl
theorem XN : AH zA0 15 = true := by kernel_rfl
theorem Zh : AH zA0 16 = true := by kernel_rfl
theorem Zq : AH zA0 17 = true := by kernel_rfl
theorem XC : AH zA0 18 = true := by kernel_rfl
theorem aL : AH zA0 19 = true := by kernel_rfl
theorem Z8 : AH zA0 20 = true := by kernel_rfl
theorem aA : AH zA0 21 = true := by kernel_rfl
theorem Zv : AH zA0 22 = true := by kernel_rfl
theorem aV : AH zA0 23 = true := by kernel_rfl
theorem al : AH zA0 24 = true := by kernel_rfl
theorem UO : AH zA0 25 = true := by kernel_rfl
theorem Z6 : AH zA0 26 = true := by kernel_rfl
theorem Ym : AH zA0 27 = true := by kernel_rfl
theorem XK : AH zA0 28 = true := by kernel_rfl
theorem Z7 : AH zA0 29 = true := by kernel_rfl
theorem X7 : AH zA0 30 = true := by kernel_rfl
theorem ZW : AH zA0 31 = true := by kernel_rfl
theorem XG : AH zA0 32 = true := by kernel_rfl
theorem Zj : AH zA0 33 = true := by kernel_rfl
theorem YP : AH zA0 34 = true := by kernel_rfl
theorem ZN : AH zA0 35 = true := by kernel_rfl
theorem Qf : AH zA0 36 = true := by kernel_rfl
theorem ZR : AH zA0 37 = true := by kernel_rfl
theorem Zc : AH zA0 38 = true := by kernel_rfl
theorem YJ : AH zA0 39 = true := by kernel_rfl
theorem bi : AH zA0 4 = true := by kernel_rfl
theorem Vt : AH zA0 40 = true := by kernel_rfl
theorem bb : AH zA0 41 = true := by kernel_rfl
theorem X8 : AH zA0 42 = true := by kernel_rfl
theorem YT : AH zA0 43 = true := by kernel_rfl
theorem ay : AH zA0 44 = true := by kernel_rfl
theorem Zg : AH zA0 45 = true := by kernel_rfl
theorem YK : AH zA0 46 = true := by kernel_rfl
theorem Uv : AH zA0 47 = true := by kernel_rfl
theorem YZ : AH zA0 48 = true := by kernel_rfl
theorem Y4 : AH zA0 49 = true := by kernel_rfl
theorem bo : AH zA0 5 = true := by kernel_rfl
theorem ag : AH zA0 50 = true := by kernel_rfl
theorem ZB : AH zA0 51 = true := by kernel_rfl
theorem ap : AH zA0 52 = true := by kernel_rfl
theorem aO : AH zA0 53 = true := by kernel_rfl
theorem ak : AH zA0 54 = true := by kernel_rfl
theorem aP : AH zA0 55 = true := by kernel_rfl
theorem ba : AH zA0 56 = true := by kernel_rfl
theorem aJ : AH zA0 57 = true := by kernel_rfl
theorem Yk : AH zA0 58 = true := by kernel_rfl
theorem UL : AH zA0 59 = true := by kernel_rfl
theorem bk : AH zA0 6 = true := by kernel_rfl
theorem WG : AH zA0 60 = true := by kernel_rfl
theorem Z2 : AH zA0 61 = true := by kernel_rfl
theorem aM : AH zA0 62 = true := by kernel_rfl
theorem aF : AH zA0 63 = true := by kernel_rfl
theorem aT : AH zA0 64 = true := by kernel_rfl
theorem ai : AH zA0 65 = true := by kernel_rfl
theorem Ze : AH zA0 66 = true := by kernel_rfl
theorem az : AH zA0 67 = true := by kernel_rfl
theorem WT : AH zA0 68 = true := by kernel_rfl
theorem ZY : AH zA0 69 = true := by kernel_rfl
theorem bp : AH zA0 7 = true := by kernel_rfl
theorem af : AH zA0 70 = true := by kernel_rfl
theorem Z5 : AH zA0 71 = true := by kernel_rfl
theorem ae : AH zA0 72 = true := by kernel_rfl
theorem aS : AH zA0 73 = true := by kernel_rfl
theorem YD : AH zA0 74 = true := by kernel_rfl
theorem Yn : AH zA0 75 = true := by kernel_rfl
theorem ZQ : AH zA0 76 = true := by kernel_rfl
theorem Z4 : AH zA0 77 = true := by kernel_rfl
theorem au : AH zA0 78 = true := by kernel_rfl
theorem aK : AH zA0 79 = true := by kernel_rfl
theorem aE : AH zA0 8 = true := by kernel_rfl
theorem Z0 : AH zA0 80 = true := by kernel_rfl
theorem YE : AH zA0 81 = true := by kernel_rfl
theorem Zi : AH zA0 82 = true := by kernel_rfl
theorem aC : AH zA0 83 = true := by kernel_rfl
theorem bd : AH zA0 84 = true := by kernel_rfl
theorem aR : AH zA0 85 = true := by kernel_rfl
theorem XE : AH zA0 86 = true := by kernel_rfl
theorem ah : AH zA0 87 = true := by kernel_rfl
theorem aG : AH zA0 88 = true := by kernel_rfl
theorem Y5 : AH zA0 89 = true := by kernel_rfl
theorem ZD : AH zA0 9 = true := by kernel_rfl
theorem ZX : AH zA0 90 = true := by kernel_rfl
theorem YB : AH zA0 91 = true := by kernel_rfl
theorem aX : AH zA0 92 = true := by kernel_rfl
theorem Z1 : AH zA0 93 = true := by kernel_rfl
theorem aZ : AH zA0 94 = true := by kernel_rfl
theorem ax : AH zA0 95 = true := by kernel_rfl
theorem aI : AH zA0 96 = true := by kernel_rfl
theorem ZP : AH zA0 97 = true := by kernel_rfl
theorem Zs : AH zA0 98 = true := by kernel_rfl
theorem aQ : AH zA0 99 = true := by kernel_rfl
theorem Tv : Pr zA0 120 .u64 = true := by kernel_rfl
theorem Tm : Pr zA0 135 .u32 = true := by kernel_rfl
theorem W8 : Pr zA0 138 .u64 = true := by kernel_rfl
theorem Xj : Pr zA0 3 .i64 = true := by kernel_rfl
theorem bf : Pr zA0 5 .u8 = true := by kernel_rfl
theorem Yc : Tryz.prog.underlying 9 = some .string := by kernel_rfl
theorem Tf : Tryz.prog.underlying 95 = some (.map 9 3) := by kernel_rfl
theorem Xh : H7 zA0 106 = some [(0, 3), (3, 1), (4, 3)] := by kernel_rfl
theorem UP : H7 zA0 31 = some [(0, 1), (1, 1), (2, 1), (3, 1)] := by kernel_rfl
theorem GB : H7 zA0 43 = some [(0, 1), (1, 1), (2, 1)] := by kernel_rfl
theorem KV : H7 zA0 45 = some [(0, 1), (1, 1), (2, 1)] := by kernel_rfl
theorem QE : H7 zA0 49 = some [(0, 1), (1, 1), (2, 1)] := by kernel_rfl
theorem YV : H7 zA0 60 = some [(0, 3), (3, 1), (4, 3), (7, 1)] := by kernel_rfl
theorem Yb : H7 zA0 80 = some [(0, 1), (1, 1), (2, 1), (3, 1), (4, 1), (5, 1)] := by kernel_rfl
theorem YS : T0 zA0 45 = some [0, 0, 0] := by kernel_rfl
theorem YI : T0 zA0 49 = some [0, 0, 0] := by kernel_rfl
theorem Gq : sliceB zA0 116 45 = true := by kernel_rfl
theorem Kk : sliceB zA0 22 5 = true := by kernel_rfl
theorem Vm : sliceB zA0 23 88 = true := by kernel_rfl
theorem CN : sliceB zA0 26 49 = true := by kernel_rfl
theorem Az : sliceB zA0 28 3 = true := by kernel_rfl
theorem DB : sliceB zA0 29 80 = true := by kernel_rfl
theorem Dj : sliceB zA0 41 93 = true := by kernel_rfl
theorem GV : sliceB zA0 55 60 = true := by kernel_rfl
theorem Fa : sliceB zA0 58 4 = true := by kernel_rfl
theorem Hi : sliceB zA0 64 43 = true := by kernel_rfl
theorem JP : sliceB zA0 71 106 = true := by kernel_rfl
theorem FO : sliceB zA0 78 58 = true := by kernel_rfl
theorem UR : (Tryz.prog.underlying 120).isSome = true := by kernel_rfl
theorem Ti : (Tryz.prog.underlying 135).isSome = true := by kernel_rfl
theorem Xp : (Tryz.prog.underlying 138).isSome = true := by kernel_rfl
theorem ZT : (Tryz.prog.underlying 3).isSome = true := by kernel_rfl
theorem Yx : (Tryz.prog.underlying 5).isSome = true := by kernel_rfl
theorem ab : (Tryz.prog.underlying 93).isSome = true := by kernel_rfl
theorem YF : PJ zA0 9 = true := by kernel_rfl
theorem NP : HH zA0 106 7 = true := by kernel_rfl
theorem ZC : HH zA0 25 4 = true := by kernel_rfl
theorem TI : HH zA0 28 1 = true := by kernel_rfl
theorem Y9 : HH zA0 29 1 = true := by kernel_rfl
theorem De : HH zA0 3 1 = true := by kernel_rfl
theorem BS : HH zA0 31 4 = true := by kernel_rfl
theorem Nb : HH zA0 4 1 = true := by kernel_rfl
theorem aW : HH zA0 41 1 = true := by kernel_rfl
theorem AK : HH zA0 43 3 = true := by kernel_rfl
theorem Eg : HH zA0 45 3 = true := by kernel_rfl
theorem Do : HH zA0 49 3 = true := by kernel_rfl
theorem X9 : HH zA0 5 1 = true := by kernel_rfl
theorem Lq : HH zA0 58 1 = true := by kernel_rfl
theorem Kp : HH zA0 60 8 = true := by kernel_rfl
theorem Zb : HH zA0 78 1 = true := by kernel_rfl
theorem DN : HH zA0 80 6 = true := by kernel_rfl
theorem Yf : HH zA0 88 6 = true := by kernel_rfl
theorem F3 : HH zA0 93 1 = true := by kernel_rfl
theorem Rr : En zA0 106 = some (.agg #[.slice none 0 0, .slice none 0 0, .slice none 0 0, .int .i64 0, .int .i64 0, .int .i64 0, .int .i64 0]) := by kernel_rfl
theorem Kh : En zA0 3 = some (.int .i64 0) := by kernel_rfl
theorem L2 : En zA0 31 = some (.agg #[.slice none 0 0, .slice none 0 0, .slice none 0 0, .slice none 0 0]) := by kernel_rfl
theorem UT : En zA0 4 = some (.bool false) := by kernel_rfl
theorem CH : En zA0 43 = some (.agg #[.slice none 0 0, .slice none 0 0, .slice none 0 0]) := by kernel_rfl
theorem Gm : En zA0 45 = some (.agg #[.int .i64 0, .int .i64 0, .int .i64 0]) := by kernel_rfl
theorem HR : En zA0 49 = some (.agg #[.int .i64 0, .int .i64 0, .int .i64 0]) := by kernel_rfl
theorem Zd : En zA0 5 = some (.int .u8 0) := by kernel_rfl
theorem TN : En zA0 58 = some (.slice none 0 0) := by kernel_rfl
theorem S6 : En zA0 60 = some (.agg #[.slice none 0 0, .slice none 0 0, .slice none 0 0, .int .i64 0, .int .i64 0, .int .i64 0, .int .i64 0, .slice none 0 0]) := by kernel_rfl
theorem JK : En zA0 80 = some (.agg #[.int .i64 0, .int .i64 0, .int .i64 0, .bool false, .slice none 0 0, .slice none 0 0]) := by kernel_rfl
theorem aq : En zA0 88 = some (.agg #[.int .u8 0, .int .u8 0, .int .u8 0, .bool false, .int .u16 0, .int .u16 0]) := by kernel_rfl
theorem QV : En zA0 93 = some (.int .u8 0) := by kernel_rfl
set_option maxRecDepth 10000
theorem Er (N : Nat) (p0 : Bool) (p1 : Bool) (r : Aa) (h : CY N p0 p1 = some r) : Ao zA0 9 [bD p0, bD p1] [(1, r.fb.map An), (1, r.fj.map An), (1, r.fm.map An), (6, r.fe.map AV)] (.e (.agg [.own 0, .own 1, .own 2, .own 3])) := by
 unfold CY at h
 refine cw (n := 19) (rs := [.cell 4 31]) Tryz.func9 fun w0 S0 => ?_
 refine wq rfl (qz L2 rfl (Ac (wq rfl (qw 2 rfl (CD rfl (Em Fa Nb UT rfl (Em Fa Nb UT rfl (C2 (AY 9 _ _ rfl rfl) (C2 (AY 10 _ _ rfl rfl) (Em FO Lq TN rfl (AU JK Yb rfl (qz JK rfl (qs DN rfl (Ac (wq rfl (Em Az De Kh rfl (Em Az De Kh rfl (Em Az De Kh rfl (qL Hp DN rfl (C2 (AY 11 _ _ rfl rfl) (Em DB DN JK rfl (AU L2 UP rfl (qs BS rfl (Ac ?_))))))))))))))))))))))))
 obtain rfl := sj h
 refine Af (sm [(1000, 13), (1001, 14), (1002, 15), (1003, 17)] [(4, oD (.ptr 4 0))] [(4, .box [.own 1000, .own 1001, .own 1002, .own 1003]), (1000, .vec 1 ((([2, 2] : List Int)).map An)), (1001, .vec 1 ((([0, 0] : List Int)).map An)), (1002, .vec 1 ((([1, 1] : List Int)).map An)), (1003, .vec 6 ((([(Av.mk 1 0 1 p1 (([([true, (!p0)] : List Bool), ([false, true] : List Bool)] : List (List Bool))) (([] : List (List Bool))))] : List Av)).map AV))] rfl rfl) (Ap ?_)
 exact ⟨⟨[_], ⟨.cellN _ _ _ _ _ _ _ rfl rfl Cz BS rfl rfl (Gn rfl), tv⟩, rfl⟩, ⟨rfl, rfl, rfl, rfl, tv⟩⟩
theorem Hy (N : Nat) (p0 : Int) (p1 : Int) (r : Bool) (h : Ef N p0 p1 = some r) : Ao zA0 68 [iD p0, iD p1] [] (bD r) := by
 unfold Ef at h
 refine cw (n := 12) (rs := [.tmp 4]) Tryz.func68 fun w0 S0 => ?_
 refine wq rfl (qe rfl ?_)
 refine AP h (fun v1 => mk [(4, bD v1)] []) (fun j1 h => ?_) (fun v1 h => ?_)
 ·refine Ah AA rfl (qm rfl (EO rfl (qm rfl ?_)))
  refine Ew 7 h rfl (fun h => ?_) fun h => ?_
  ·refine qw 2 rfl (A0 rfl (qp rfl (qe rfl ?_)))
   exact sn [] h
  ·refine qw 3 rfl (qp rfl (qe rfl ?_))
   exact sn [] h
 ·obtain rfl := sj h
  refine Af (sm [] [(4, bD v1)] [] rfl rfl) (Ap ?_)
  exact ⟨⟨[_], tm, rfl⟩, tv⟩
theorem QC (N : Nat) (p0 : Int) (p1 : Bool) (r : Bool) (h : GZ N p0 p1 = some r) : Ao zA0 90 [iD p0, bD p1] [] (bD r) := by
 unfold GZ at h
 refine cw (n := 23) (rs := [.tmp 4]) Tryz.func90 fun w0 S0 => ?_
 refine wq rfl (qe rfl ?_)
 refine AP h (fun v1 => mk [(4, bD v1)] []) (fun j1 h => ?_) (fun v1 h => ?_)
 ·refine Ah AA rfl (qm rfl (BZ rfl (qm rfl ?_)))
  refine Ew 7 h rfl (fun h => ?_) fun h => ?_
  ·refine qw 2 rfl (qp rfl (qw 4 rfl (qu rfl (qu rfl (qw 2 rfl (qu rfl (qu rfl (qn rfl (qp rfl (qe rfl ?_))))))))))
   exact sn [] h
  ·refine qm rfl (BZ rfl (qp rfl (qm rfl ?_)))
   refine Ew 11 h rfl (fun h => ?_) fun h => ?_
   ·refine qw 3 rfl (qu rfl (qu rfl (qw 2 rfl (qu rfl (qu rfl (qn rfl (qp rfl (qe rfl ?_))))))))
    exact sn [] h
   ·refine qm rfl (BZ rfl (qm rfl ?_))
    refine Ew 14 h rfl (fun h => ?_) fun h => ?_
    ·refine qw 2 rfl (qp rfl (qw 2 rfl (CD rfl (qp rfl (qp rfl (qe rfl ?_))))))
     exact sn [] h
    ·refine qm rfl (BZ rfl (qp rfl (qm rfl ?_)))
     refine Ew 18 h rfl (fun h => ?_) fun h => ?_
     ·refine qm rfl (CD rfl (qp rfl (qp rfl (qe rfl ?_))))
      exact sn [] h
     ·refine qw 2 rfl (qp rfl (qp rfl (qe rfl ?_)))
      exact sn [] h
 ·obtain rfl := sj h
  refine Af (sm [] [(4, bD v1)] [] rfl rfl) (Ap ?_)
  exact ⟨⟨[_], tm, rfl⟩, tv⟩
theorem Nm (N : Nat) (p0 : List Bool) (p1 : Int) (r : Bool) (h : D8 N p0 p1 = some r) : Ao zA0 104 [pD (.sl (p0.map eB)), oD (.rop [.val (.int .i64 p1)])] [] (bD r) := by
 unfold D8 at h
 refine cw (n := 8) (rs := [.tmp 3]) Tryz.func104 fun w0 S0 => ?_
 refine wq rfl (qa rfl (Ac (wq rfl (qm rfl (AJ Fa rfl (qk Ce rfl (BH rfl (qe rfl ?_))))))))
 obtain rfl := sj h
 refine Af (sm [] [(3, bD (((p0.length : Int) != p1)))] [] rfl rfl) (Ap ?_)
 exact ⟨⟨[_], tm, rfl⟩, tv⟩
theorem Ir (N : Nat) (p0 : List (List Bool)) (p1 : (List Bool) → Option Bool) (r : Int) (h : DE N p0 p1 = some r) : Ao zA0 111 [pD (.sl (p0.map (JG eB))), oD (.clo (Jd (NX false (JG eB)) tB p1))] [] (iD r) := by
 unfold DE at h
 refine cw (n := 19) (rs := [.tmp 4]) Tryz.func111 fun w0 S0 => ?_
 refine wq rfl (qa rfl (Ac (wp rfl (qm rfl (AJ FO rfl (qm rfl (Ac ?_)))))))
 refine AI (L := Bo N p0 p1) h (fun v1 => mk [(0, pD (.sl (p0.map (JG eB)))), (1, oD (.clo (Jd (NX false (JG eB)) tB p1))), (7, iD ((p0.length : Int))), (8, iD v1)] []) (fun v2 => mk [] []) (fun _ _ => rfl) (sm [] _ _ rfl rfl) (fun j1 n1 v1 h => ?_) (fun v2 s h hs => ?_)
 ·unfold Bo at h
  refine wq rfl (A0 rfl (Ac (AQ ?_)))
  refine Bc h (fun h => ?_) fun h => ?_
  ·refine Al (AQ (AM (wq rfl (qm rfl (qa rfl (Ac (wq rfl (qw 3 rfl ?_))))))))
   refine BV h fun v4 a4 b4 h => qi FO Lq a4 (Ag b4) rfl (qk L6 rfl ?_)
   refine B4 h fun v5 a5 h => MU (ds0 := [_]) (ar := (NX false (JG eB)) v4) (.p rfl) rfl rfl ⟨rfl, tv⟩ rfl rfl rfl (Mf (MW _ _ (ZI ZZ)) a5) ?_
   refine Ac ?_
   refine Bc h (fun h => ?_) fun h => ?_
   ·refine wq rfl (qm rfl (qe rfl ?_))
    obtain rfl := sj h
    refine Af (sm [] [(4, iD v1)] [] rfl rfl) (Ap ?_)
    exact ⟨⟨[_], tm, rfl⟩, tv⟩
   ·refine Al (Ah AA rfl (A9 rfl (qm rfl (Ac ?_))))
    exact sn [] h
  ·refine AX ?_
   exact sn [] h
 ·refine Af hs (wq rfl (qe rfl ?_))
  obtain rfl := sj h
  refine Af (sm [] [(4, iD ((-1)))] [] rfl rfl) (Ap ?_)
  exact ⟨⟨[_], tm, rfl⟩, tv⟩
theorem HN (N : Nat) (p0 : List (List Bool)) (p1 : (List Bool) → Option Bool) (r : Bool) (h : C9 N p0 p1 = some r) : Ao zA0 103 [pD (.sl (p0.map (JG eB))), oD (.clo (Jd (NX false (JG eB)) tB p1))] [] (bD r) := by
 unfold C9 at h
 refine cw (n := 9) (rs := [.tmp 4]) Tryz.func103 fun w0 S0 => ?_
 refine wq rfl (qa rfl (Ac (wq rfl (qw 2 rfl ?_))))
 refine B4 h fun v1 a1 h => Ax [] (Ir N p0 p1 v1 a1) YO rfl (EO rfl (qe rfl ?_))
 obtain rfl := sj h
 refine Af (sm [] [(4, bD ((decide (0 ≤ v1))))] [] rfl rfl) (Ap ?_)
 exact ⟨⟨[_], tm, rfl⟩, tv⟩
theorem Kz (N : Nat) (p0 : List (List Bool)) (p1 : Int) (p2 : Int) (r : Bool) (h : Fm N p0 p1 p2 = some r) : Ao zA0 91 [pD (.sl (p0.map (JG eB))), iD p1, iD p2] [] (bD r) := by
 unfold Fm at h
 refine cw (n := 17) (rs := [.tmp 6]) Tryz.func91 fun w0 S0 => ?_
 refine wq rfl (qb rfl (qe rfl ?_))
 refine AP h (fun v1 => mk [(6, bD v1)] []) (fun j1 h => ?_) (fun v1 h => ?_)
 ·refine Ah AA rfl (qm rfl (AJ FO rfl (qm rfl (BZ rfl (qm rfl ?_)))))
  refine Ew 11 h rfl (fun h => ?_) fun h => ?_
  ·refine qm rfl (C2 (K3 5 [.val (.int .i64 p2)] rfl rfl) ?_)
   refine JW (capD := [_]) (Jd (NX false (JG eB)) tB ((fun (x : List Bool) => D8 N x p2))) (.g rfl rfl) YY rfl ⟨rfl, tv⟩ rfl (fun ar t ht => by obtain ⟨x, r, rfl, hq, rfl⟩ := IJ ht; exact Nm N x p2 r hq) ?_
   refine B4 h fun v3 a3 h => Ax [] (HN N p0 ((fun (x : List Bool) => D8 N x p2)) v3 a3) ZE rfl (CD rfl (qp rfl (qe rfl ?_)))
   exact sn [] h
  ·refine qw 4 rfl (qp rfl (qe rfl ?_))
   exact sn [] h
 ·obtain rfl := sj h
  refine Af (sm [] [(6, bD v1)] [] rfl rfl) (Ap ?_)
  exact ⟨⟨[_], tm, rfl⟩, tv⟩
theorem Pl (N : Nat) (p0 : Aa) (p1 : Av) (r : Int) (h : Gy N p0 p1 = some r) : Ao zA0 69 [.e (.agg (Ae p0)), .e (.agg (Bj p1))] [] (iD r) := by
 unfold Gy at h
 refine cw (n := 87) (rs := [.tmp 4]) Tryz.func69 fun w0 S0 => ?_
 refine wq rfl (qb rfl (qb rfl (qa rfl (Ac (wp rfl (qf FY rfl (ql Ce rfl (qf IG rfl (ql QW rfl ?_)))))))))
 refine B4 h fun v1 a1 h => Ax [] (QC N p1.ff p1.fq v1 a1) ZX rfl (CD rfl (Ac ?_))
 refine Bc h (fun h => ?_) fun h => ?_
 ·refine wq rfl (qe rfl ?_)
  obtain rfl := sj h
  refine Af (sm [] [(4, iD 1)] [] rfl rfl) (Ap ?_)
  exact ⟨⟨[_], tm, rfl⟩, tv⟩
 ·refine Al (AQ ?_)
  refine AP h (fun v3 => mk [(2, oD (.ptr 2 0)), (3, oD (.ptr 3 0)), (29, bD v3)] [(2, .box (Ae p0)), (3, .box (Bj p1))]) (fun j3 h => ?_) (fun v3 h => ?_)
  ·refine Ah AA rfl (qf Dd rfl (ql Ce rfl (qf Bt rfl (ql A2 rfl (AJ Az rfl ?_)))))
   refine B4 h fun v4 a4 h => Ax [] (Hy N p1.fg ((p0.fb.length : Int)) v4 a4) WT rfl (CD rfl (qm rfl ?_))
   refine Ew 21 h rfl (fun h => ?_) fun h => ?_
   ·refine qw 7 rfl (qp rfl (Ac ?_))
    exact sn [] h
   ·refine qf H3 rfl (ql Ce rfl (qf Bt rfl (ql A2 rfl (AJ Az rfl ?_))))
    refine B4 h fun v6 a6 h => Ax [] (Hy N p1.fo ((p0.fb.length : Int)) v6 a6) WT rfl (CD rfl (qp rfl (Ac ?_)))
    exact sn [] h
  ·refine Bc h (fun h => ?_) fun h => ?_
   ·refine wq rfl (qe rfl ?_)
    obtain rfl := sj h
    refine Af (sm [] [(4, iD 4)] [] rfl rfl) (Ap ?_)
    exact ⟨⟨[_], tm, rfl⟩, tv⟩
   ·refine Al (wq rfl (qf Bt rfl (ql A2 rfl (qf Dd rfl (ql Ce rfl ?_)))))
    refine BV h fun v8 a8 b8 h => qi Az De a8 (Ag b8) rfl (qk Ce rfl (qa rfl (Ac (wq rfl (qf FY rfl (ql Ce rfl (BZ rfl (qa rfl (Ac (AQ ?_))))))))))
    refine AP h (fun v9 => mk [(3, oD (.ptr 3 0)), (70, bD v9)] [(3, .box (Bj p1))]) (fun j9 h => ?_) (fun v9 h => ?_)
    ·refine Ah AA rfl (qf Jq rfl (ql Kc rfl (qm rfl (qf Bt rfl (ql A2 rfl (qf H3 rfl (ql Ce rfl ?_)))))))
     refine BV h fun v10 a10 b10 h => qi Az De a10 (Ag b10) rfl (qk Ce rfl ?_)
     refine B4 h fun v11 a11 h => Ax [] (Kz N p1.fr v8 v10 v11 a11) YB rfl (CD rfl (qm rfl ?_))
     refine Ew 50 h rfl (fun h => ?_) fun h => ?_
     ·refine qw 2 rfl (qu rfl (qu rfl (qu rfl (qu rfl (qu rfl (qu rfl (qn rfl (qp rfl (qw 4 rfl (qu rfl (qu rfl (qu rfl (qu rfl (qn rfl (qp rfl (AO (by kernel_rfl) ?_))))))))))))))))
      exact sn [] h
     ·refine qw 2 rfl ?_
      refine Ew 52 h rfl (fun h => ?_) fun h => ?_
      ·refine qf GG rfl (ql Kc rfl (qw 2 rfl ?_))
       refine B4 h fun v14 a14 h => Ax [] (Kz N p1.fp v8 v8 v14 a14) YB rfl (CD rfl (qp rfl (qp rfl (qm rfl ?_))))
       refine Ew 61 h rfl (fun h => ?_) fun h => ?_
       ·refine qw 3 rfl (qu rfl (qu rfl (qu rfl (qu rfl (qn rfl (qp rfl (AO (by kernel_rfl) ?_)))))))
        exact sn [] h
       ·refine qm rfl (CD rfl (qm rfl ?_))
        refine Ew 64 h rfl (fun h => ?_) fun h => ?_
        ·refine qf GG rfl (ql Kc rfl (AJ FO rfl (Gk rfl (qp rfl (qp rfl (AO (by kernel_rfl) ?_))))))
         exact sn [] h
        ·refine qw 4 rfl (qp rfl (qp rfl (AO (by kernel_rfl) ?_)))
         exact sn [] h
      ·refine qw 6 rfl (qp rfl (qp rfl (qw 2 rfl (CD rfl (qm rfl ?_)))))
       refine Ew 64 h rfl (fun h => ?_) fun h => ?_
       ·refine qf GG rfl (ql Kc rfl (AJ FO rfl (Gk rfl (qp rfl (qp rfl (AO (by kernel_rfl) ?_))))))
        exact sn [] h
       ·refine qw 4 rfl (qp rfl (qp rfl (AO (by kernel_rfl) ?_)))
        exact sn [] h
    ·refine Bc h (fun h => ?_) fun h => ?_
     ·refine wq rfl (qe rfl ?_)
      obtain rfl := sj h
      refine Af (sm [] [(4, iD 6)] [] rfl rfl) (Ap ?_)
      exact ⟨⟨[_], tm, rfl⟩, tv⟩
     ·refine Al (wp rfl (qf GG rfl (ql Kc rfl (AJ FO rfl (qm rfl (Ac ?_))))))
      refine AI (L := Df N p1) h (fun v19 => mk [(3, oD (.ptr 3 0)), (73, iD ((p1.fp.length : Int))), (74, iD v19)] [(3, .box (Bj p1))]) (fun v20 => mk [] []) (fun _ _ => rfl) (sm [] _ _ rfl rfl) (fun j19 n19 v19 h => ?_) (fun v20 s h hs => ?_)
      ·unfold Df at h
       refine wq rfl (A0 rfl (Ac (AQ ?_)))
       refine Bc h (fun h => ?_) fun h => ?_
       ·refine Al (AQ (AM (wq rfl (qm rfl (qa rfl (Ac (wq rfl (qf GG rfl (ql Kc rfl (qm rfl ?_))))))))))
        refine BV h fun v22 a22 b22 h => qi FO Lq a22 (Ag b22) rfl (qk L6 rfl (qm rfl ?_))
        refine BV h fun v23 a23 b23 h => qi Fa Nb a23 (Ag b23) rfl (qk QW rfl (CD rfl (Ac ?_)))
        refine Bc h (fun h => ?_) fun h => ?_
        ·refine wq rfl (qe rfl ?_)
         obtain rfl := sj h
         refine Af (sm [] [(4, iD 1)] [] rfl rfl) (Ap ?_)
         exact ⟨⟨[_], tm, rfl⟩, tv⟩
        ·refine Al (Ah AA rfl (A9 rfl (qm rfl (Ac ?_))))
         exact sn [] h
       ·refine AX ?_
        exact sn [] h
      ·refine Af hs (wq rfl (qe rfl ?_))
       obtain rfl := sj h
       refine Af (sm [] [(4, iD 0)] [] rfl rfl) (Ap ?_)
       exact ⟨⟨[_], tm, rfl⟩, tv⟩
theorem Ia (N : Nat) (p0 : Aa) (r : Int) (h : DG N p0 = some r) : Ao zA0 39 [.e (.agg (Ae p0))] [] (iD r) := by
 unfold DG at h
 refine cw (n := 81) (rs := [.tmp 2]) Tryz.func39 fun w0 S0 => ?_
 refine wq rfl (qb rfl (qa rfl (Ac (wq rfl (qf Bt rfl (ql A2 rfl (AJ Az rfl (qa rfl (Ac (AQ ?_))))))))))
 refine AP h (fun v1 => mk [(1, oD (.ptr 1 0)), (3, iD ((p0.fb.length : Int))), (19, bD v1)] [(1, .box (Ae p0))]) (fun j1 h => ?_) (fun v1 h => ?_)
 ·refine Ah AA rfl (qm rfl (Gk rfl (qm rfl ?_)))
  refine Ew 14 h rfl (fun h => ?_) fun h => ?_
  ·refine qw 4 rfl (qp rfl (Ac ?_))
   exact sn [] h
  ·refine qf Cg rfl (ql GD rfl (AJ DB rfl (Gk rfl (qp rfl (Ac ?_)))))
   exact sn [] h
 ·refine Bc h (fun h => ?_) fun h => ?_
  ·refine wq rfl (qe rfl ?_)
   obtain rfl := sj h
   refine Af (sm [] [(2, iD 3)] [] rfl rfl) (Ap ?_)
   exact ⟨⟨[_], tm, rfl⟩, tv⟩
  ·refine Al (AQ ?_)
   refine AP h (fun v4 => mk [(1, oD (.ptr 1 0)), (31, bD v4)] [(1, .box (Ae p0))]) (fun j4 h => ?_) (fun v4 h => ?_)
   ·refine Ah AA rfl (qf Gj rfl (ql A2 rfl (AJ Az rfl (qm rfl (BH rfl (qm rfl ?_))))))
    refine Ew 25 h rfl (fun h => ?_) fun h => ?_
    ·refine qw 5 rfl (qp rfl (Ac ?_))
     exact sn [] h
    ·refine qf H5 rfl (ql A2 rfl (AJ Az rfl (qm rfl (BH rfl (qp rfl (Ac ?_))))))
     exact sn [] h
   ·refine Bc h (fun h => ?_) fun h => ?_
    ·refine wq rfl (qe rfl ?_)
     obtain rfl := sj h
     refine Af (sm [] [(2, iD 6)] [] rfl rfl) (Ap ?_)
     exact ⟨⟨[_], tm, rfl⟩, tv⟩
    ·refine Al (wp rfl (qf Bt rfl (ql A2 rfl (AJ Az rfl (qm rfl (Ac ?_))))))
     refine AI (L := BX N p0) h (fun v7 => mk [(1, oD (.ptr 1 0)), (33, pD (.sl (p0.fb.map An))), (34, iD ((p0.fb.length : Int))), (35, iD v7)] [(1, .box (Ae p0))]) (fun v8 => mk [(1, oD (.ptr 1 0))] [(1, .box (Ae p0))]) (fun _ _ => rfl) (sm [] _ _ rfl rfl) (fun j7 n7 v7 h => ?_) (fun v8 s h hs => ?_)
     ·unfold BX at h
      refine wq rfl (A0 rfl (Ac (AQ ?_)))
      refine Bc h (fun h => ?_) fun h => ?_
      ·refine Al (AQ (AM (wq rfl (qm rfl ?_))))
       refine BV h fun v10 a10 b10 h => qi Az De a10 (Ag b10) rfl (qk Ce rfl (qa rfl (qe rfl ?_)))
       refine AP h (fun v11 => mk [(1, oD (.ptr 1 0)), (33, pD (.sl (p0.fb.map An))), (34, iD ((p0.fb.length : Int))), (35, iD v7), (65, bD v11)] [(1, .box (Ae p0))]) (fun j11 h => ?_) (fun v11 h => ?_)
       ·refine Ah AA rfl (qm rfl (A0 rfl (qm rfl ?_)))
        refine Ew 42 h rfl (fun h => ?_) fun h => ?_
        ·refine qw 2 rfl (qp rfl (qw 9 rfl (qp rfl (qw 9 rfl (qp rfl (Ac ?_))))))
         exact sn [] h
        ·refine qm rfl (Gk rfl (qp rfl (qm rfl ?_)))
         refine Ew 46 h rfl (fun h => ?_) fun h => ?_
         ·refine qw 8 rfl (qp rfl (qw 9 rfl (qp rfl (Ac ?_))))
          exact sn [] h
         ·refine qf Gj rfl (ql A2 rfl (qm rfl ?_))
          refine BV h fun v14 a14 b14 h => qi Az De a14 (Ag b14) rfl (qk Ce rfl (qm rfl ?_))
          refine B4 h fun v15 a15 h => Ax [] (Hy N v14 v10 v15 a15) WT rfl (CD rfl (qp rfl (qm rfl ?_)))
          refine Ew 56 h rfl (fun h => ?_) fun h => ?_
          ·refine qw 8 rfl (qp rfl (Ac ?_))
           exact sn [] h
          ·refine qf H5 rfl (ql A2 rfl (qm rfl ?_))
           refine BV h fun v17 a17 b17 h => qi Az De a17 (Ag b17) rfl (qk Ce rfl (qm rfl ?_))
           refine B4 h fun v18 a18 h => Ax [] (Hy N v17 v10 v18 a18) WT rfl (CD rfl (qp rfl (Ac ?_)))
           exact sn [] h
       ·refine Bc h (fun h => ?_) fun h => ?_
        ·refine wq rfl (qe rfl ?_)
         obtain rfl := sj h
         refine Af (sm [] [(2, iD 7)] [] rfl rfl) (Ap ?_)
         exact ⟨⟨[_], tm, rfl⟩, tv⟩
        ·refine Al (Ah AA rfl (A9 rfl (qm rfl (Ac ?_))))
         exact sn [] h
      ·refine AX ?_
       exact sn [] h
     ·refine Af hs (wp rfl (qf Cg rfl (ql GD rfl (AJ DB rfl (qm rfl (Ac ?_))))))
      refine AI (L := BQ N p0) h (fun v20 => mk [(1, oD (.ptr 1 0)), (68, pD (.sl (p0.fe.map AV))), (69, iD ((p0.fe.length : Int))), (70, iD v20)] [(1, .box (Ae p0))]) (fun v21 => mk [] []) (fun _ _ => rfl) (sm [] _ _ rfl rfl) (fun j20 n20 v20 h => ?_) (fun v21 s h hs => ?_)
      ·unfold BQ at h
       refine wq rfl (A0 rfl (Ac (AQ ?_)))
       refine Bc h (fun h => ?_) fun h => ?_
       ·refine Al (AQ (AM (wq rfl ?_)))
        refine BV h fun v23 a23 b23 h => qi DB DN a23 (Ag b23) rfl (qK Hp DN rfl (qz JK rfl (qs DN rfl (Ac (wq rfl (qL Cz BS rfl (qL Hp DN rfl ?_)))))))
        refine B4 h fun v24 a24 h => Ax [] (Pl N p0 v23 v24 a24) ZY rfl (qa rfl (Ac (wq rfl (qm rfl (BH rfl (Ac ?_))))))
        refine Bc h (fun h => ?_) fun h => ?_
        ·refine wq rfl (qm rfl (qe rfl ?_))
         obtain rfl := sj h
         refine Af (sm [] [(2, iD v24)] [] rfl rfl) (Ap ?_)
         exact ⟨⟨[_], tm, rfl⟩, tv⟩
        ·refine Al (Ah AA rfl (A9 rfl (qm rfl (Ac ?_))))
         exact sn [] h
       ·refine AX ?_
        exact sn [] h
      ·refine Af hs (wq rfl (qe rfl ?_))
       obtain rfl := sj h
       refine Af (sm [] [(2, iD 0)] [] rfl rfl) (Ap ?_)
       exact ⟨⟨[_], tm, rfl⟩, tv⟩
theorem D7 (N : Nat) (p0 : List Int) (r : (List Int)) (h : BM N p0 = some r) : Ao zA0 40 [pD (.sl (p0.map An))] [(1, r.map An)] (oD (.own 0)) := by
 unfold BM at h
 refine cw (n := 8) (rs := [.tmp 2]) Tryz.func40 fun w0 S0 => ?_
 refine wq rfl (qa rfl (Ac (wp rfl (qm rfl ?_))))
 refine TF (.p rfl) rfl Az ?_
 refine Ac ?_
 refine TG rfl (fun c2 => ?_) ?_
 ·have c2 := List.map_eq_nil_iff.1 c2
  rw [c2] at h
  have h : (some (([] : List Int))) = some r := h
  refine wq rfl (qe rfl ?_)
  obtain rfl := sj h
  refine Af ((BP 2 2001 1 rfl rfl rfl).trans (sm [(1000, 2001)] [(2, oD (.own 1000))] [(1000, .vec 1 ((([] : List Int)).map An))] rfl rfl)) (Ap ?_)
  exact ⟨⟨[_], tm, rfl⟩, ⟨rfl, tv⟩⟩
 ·refine Al (wq rfl (Em Az De Kh rfl (qm rfl ?_)))
  refine Gl h fun c1 h => Iq (f := An) Az Az De KO Kh (fun _ => rfl) c1 rfl (qe rfl ?_)
  obtain rfl := sj h
  refine Af (sm [(1000, 7)] [(2, oD (.own 1000))] [(1000, .vec 1 (((([] : List Int)) ++ p0).map An))] rfl rfl) (Ap ?_)
  exact ⟨⟨[_], tm, rfl⟩, ⟨rfl, tv⟩⟩
theorem MK (N : Nat) (p0 : Int) (p1 : Int) (r : Int × Int) (h : Hc N p0 p1 = some r) : Ao zA0 92 [pD (.val (.int .u32 p0)), pD (.val (.int .u32 p1))] [] (.tup [.one (.pure (.val (.int .u32 r.1))), .one (.pure (.val (.int .u32 r.2)))]) := by
 unfold Hc at h
 refine cw (n := 17) (rs := [.tmp 4, .tmp 5]) Tryz.func92 fun w0 S0 => ?_
 refine wq rfl (qa rfl (qa rfl (Ac (wq rfl (qm rfl (JE Ti W8 rfl (qm rfl (JE Ti W8 rfl (MV rfl (qa rfl (Ac (wq rfl (qm rfl (JJ rfl (by decide) (JE Xp Tm rfl (qm rfl (JE Xp Tm rfl (qa rfl (qe rfl ?_)))))))))))))))))))
 obtain rfl := sj h
 refine Af (sm [] [(4, pD (.val (.int .u32 ((wI .u32 ((FQ .u64 ((wI .u64 ((wI .u64 p0) * (wI .u64 p1)))) 32))))))), (5, pD (.val (.int .u32 ((wI .u32 ((wI .u64 ((wI .u64 p0) * (wI .u64 p1)))))))))] [] rfl rfl) (Ap ?_)
 exact ⟨⟨[_, _], ⟨.tmp _ _ rfl, tm⟩, rfl⟩, tv⟩
theorem MG (N : Nat) (p0 : Int) (p1 : Int) (r : Int × Int) (h : He N p0 p1 = some r) : Ao zA0 93 [pD (.val (.int .u64 p0)), pD (.val (.int .u64 p1))] [] (.tup [.one (.pure (.val (.int .u64 r.1))), .one (.pure (.val (.int .u64 r.2)))]) := by
 unfold He at h
 refine cw (n := 51) (rs := [.tmp 4, .tmp 5]) Tryz.func93 fun w0 S0 => ?_
 refine wq rfl (qa rfl (qa rfl (Ac (wq rfl (qm rfl (NT rfl (qa rfl (Ac (wq rfl (qm rfl (JJ rfl (by decide) (qa rfl (Ac (wq rfl (qm rfl (NT rfl (qa rfl (Ac (wq rfl (qm rfl (JJ rfl (by decide) (qa rfl (Ac (wq rfl (qw 2 rfl (MV rfl (qa rfl (Ac (wq rfl (qw 2 rfl ?_))))))))))))))))))))))))))))))
 refine MV rfl (qm rfl (JJ rfl (by decide) (A9 rfl (qa rfl (Ac (wq rfl (qm rfl (NT rfl (qa rfl (Ac (wq rfl (qm rfl (JJ rfl (by decide) (qa rfl (Ac (wq rfl (qw 3 rfl (MV rfl (A9 rfl (qa rfl (Ac (wq rfl (qw 2 rfl (MV rfl (qm rfl (A9 rfl (qm rfl (JJ rfl (by decide) (A9 rfl (qa rfl (Ac (AQ ?_))))))))))))))))))))))))))))))))
 refine Ah AA rfl (qw 2 rfl (MV rfl (qe rfl ?_)))
 obtain rfl := sj h
 refine Af (sm [] [(4, pD (.val (.int .u64 ((wI .u64 ((wI .u64 ((wI .u64 ((FQ .u64 p0 32) * (FQ .u64 p1 32))) + (FQ .u64 ((wI .u64 ((wI .u64 ((FQ .u64 p0 32) * (GE .u64 p1 4294967295))) + (FQ .u64 ((wI .u64 ((GE .u64 p0 4294967295) * (GE .u64 p1 4294967295)))) 32)))) 32))) + (FQ .u64 ((wI .u64 ((GE .u64 ((wI .u64 ((wI .u64 ((FQ .u64 p0 32) * (GE .u64 p1 4294967295))) + (FQ .u64 ((wI .u64 ((GE .u64 p0 4294967295) * (GE .u64 p1 4294967295)))) 32)))) 4294967295) + (wI .u64 ((GE .u64 p0 4294967295) * (FQ .u64 p1 32)))))) 32))))))), (5, pD (.val (.int .u64 ((wI .u64 (p0 * p1))))))] [] rfl rfl) (Ap ?_)
 exact ⟨⟨[_, _], ⟨.tmp _ _ rfl, tm⟩, rfl⟩, tv⟩
theorem N4 (N : Nat) (p0 : Int) (p1 : Int) (r : Int × Int) (h : HZ N p0 p1 = some r) : Ao zA0 70 [pD (.val (.int .u64 p0)), pD (.val (.int .u64 p1))] [] (.tup [.one (.pure (.val (.int .u64 r.1))), .one (.pure (.val (.int .u64 r.2)))]) := by
 unfold HZ at h
 refine cw (n := 30) (rs := [.tmp 4, .tmp 5]) Tryz.func70 fun w0 S0 => ?_
 refine wq rfl (qa rfl (qa rfl (Ac (AQ ?_))))
 refine Bc h (fun h => ?_) fun h => ?_
 ·refine wq rfl (qm rfl (JE UR Tm rfl (qm rfl (JE UR Tm rfl ?_))))
  refine B4 h fun v2 a2 h => Ax [] (MK N ((wI .u32 p0)) ((wI .u32 p1)) v2 a2) aX rfl (qm rfl (qx rfl (qx rfl (qa rfl (qa rfl (Ac (wq rfl (qm rfl (JE Ti Tv rfl (qm rfl (JE Ti Tv rfl (qa rfl (qe rfl ?_)))))))))))))
  obtain rfl := sj h
  refine Af (sm [] [(4, pD (.val (.int .u64 ((wI .u64 v2.1))))), (5, pD (.val (.int .u64 ((wI .u64 v2.2)))))] [] rfl rfl) (Ap ?_)
  exact ⟨⟨[_, _], ⟨.tmp _ _ rfl, tm⟩, rfl⟩, tv⟩
 ·refine Al (wq rfl (qw 2 rfl ?_))
  refine B4 h fun v3 a3 h => Ax [] (MG N p0 p1 v3 a3) Z1 rfl (qm rfl (qx rfl (qx rfl (qa rfl (qa rfl (Ac (wq rfl (qw 2 rfl (qa rfl (qe rfl ?_))))))))))
  obtain rfl := sj h
  refine Af (sm [] [(4, pD (.val (.int .u64 v3.1))), (5, pD (.val (.int .u64 v3.2)))] [] rfl rfl) (Ap ?_)
  exact ⟨⟨[_, _], ⟨.tmp _ _ rfl, tm⟩, rfl⟩, tv⟩
theorem JN (N : Nat) (p0 : List Int) (p1 : Int) (r : (List Int)) (h : Ex N p0 p1 = some r) : Ao zA0 41 [pD (.sl (p0.map An)), iD p1] [(1, r.map An)] (oD (.own 0)) := by
 unfold Ex at h
 refine cw (n := 48) (rs := [.tmp 4]) Tryz.func41 fun w0 S0 => ?_
 refine wq rfl (qe rfl ?_)
 refine AP h (fun v1 => mk [(0, pD (.sl (p0.map An))), (1, iD p1)] []) (fun j1 h => ?_) (fun v1 h => ?_)
 ·refine wq rfl (qm rfl (A0 rfl (Ac ?_)))
  refine Bc h (fun h => ?_) fun h => ?_
  ·refine Ah AA rfl ?_
   cases h
  ·refine Al ?_
   exact sn [] h
 ·refine wq rfl (qm rfl (AJ Az rfl (JE ZT Tv rfl (qm rfl (JE ZT Tv rfl ?_)))))
  refine B4 h fun v3 a3 h => Ax [] (N4 N ((wI .u64 ((p0.length : Int)))) ((wI .u64 p1)) v3 a3) af rfl (qm rfl (qx rfl (qx rfl (qa rfl (qe rfl ?_)))))
  refine AP h (fun v4 => mk [(0, pD (.sl (p0.map An))), (6, pD (.val (.int .u64 v3.2)))] []) (fun j4 h => ?_) (fun v4 h => ?_)
  ·refine AP h (fun v5 => mk [(0, pD (.sl (p0.map An))), (6, pD (.val (.int .u64 v3.2))), (26, bD v5)] []) (fun j5 h => ?_) (fun v5 h => ?_)
   ·refine Ah AA rfl (qm rfl (Gk rfl (qm rfl ?_)))
    refine Ew 23 h rfl (fun h => ?_) fun h => ?_
    ·refine qw 2 rfl (qp rfl (Ac ?_))
     exact sn [] h
    ·refine qm rfl (Gk rfl (qp rfl (Ac ?_)))
     exact sn [] h
   ·refine Bc h (fun h => ?_) fun h => ?_
    ·refine Ah AA rfl ?_
     cases h
    ·refine Al ?_
     exact sn [] h
  ·refine wq rfl (qm rfl (JE UR Xj rfl ?_))
   refine Gl h fun c8 h => Jo (.p rfl) rfl rfl rfl Az De KO (HO rfl) Kh rfl rfl rfl c8.1 c8.2.1 c8.2.2 (Oa An _ ((0 : Int))) ?_
   refine qa rfl (Ac (wq rfl (qw 2 rfl ?_)))
   refine Tt An (zA5 ((wI .i64 v3.2)).toNat ((0 : Int))) p0 (.p rfl) rfl (Kv An _ _ (zA5 ((wI .i64 v3.2)).toNat ((0 : Int)))) rfl rfl (Wu An _ _ (fun _ => rfl)) tv Az De ?_
   refine qa rfl (Ac (AQ ?_))
   refine AI (L := D1 N) h (fun v9 => mk [(7, oD (.own 2001)), (8, iD v9.2)] [(2001, .vec 1 (v9.1.map An))]) (fun v10 => mk [(7, oD (.own 2002))] [(2002, .vec 1 (v10.map An))]) (fun _ _ => rfl) (sm [(2001, 30)] _ _ rfl rfl) (fun j9 n9 v9 h => ?_) (fun v10 s h hs => ?_)
   ·unfold D1 at h
    refine wp rfl (qw 2 rfl (F0 Az rfl (A0 rfl (Ac ?_))))
    refine Bc h (fun h => ?_) fun h => ?_
    ·refine Al (AM (Ah AA rfl (qw 3 rfl ?_)))
     obtain ⟨c12, h⟩ := IW h
     have w13 : ((v9.2).toNat) + ((v9.1.length - (v9.2).toNat)) ≤ v9.1.length := by have := c12.2.1; have := c12.2.2; omega
     refine ML An v9.1 (.p rfl) rfl (Kv An _ _ v9.1) rfl Az De (.some _ _ _ _ c12.1) (.none _) ⟨rfl, tv⟩ tv c12.2.1 (by rw [zA4]; exact c12.2.2) (zA4 _) rfl ?_
     refine qw 2 rfl ?_
     obtain ⟨c14, h⟩ := IW h
     have w15 : 0 + ((v9.2).toNat) ≤ v9.1.length := by have := c14.2.1; have := c14.2.2; omega
     refine ML An v9.1 (.p rfl) rfl (Kv An _ _ v9.1) rfl Az De (.none _) (.some _ _ _ _ c14.1) tv ⟨rfl, tv⟩ c14.2.1 (by rw [zA4]; exact c14.2.2) (zA4 _) rfl ?_
     refine Tt An v9.1 (((v9.1.drop 0).take ((v9.2).toNat))) (.p rfl) rfl (Pz An _ _ ((v9.2).toNat) ((v9.1.length - (v9.2).toNat)) v9.1 w13) rfl rfl (TK An _ _ 0 ((v9.2).toNat) v9.1 w15) ⟨rfl, tv⟩ Az De ?_
     refine A9 rfl (qa rfl (AO (by kernel_rfl) ?_))
     exact sn [] h
    ·refine AX ?_
     exact sn [(2002, 2001)] h
   ·refine Af hs (wq rfl (qm rfl (qe rfl ?_)))
    obtain rfl := sj h
    refine Af (sm [(1000, 2002)] [(4, oD (.own 1000))] [(1000, .vec 1 (v10.map An))] rfl rfl) (Ap ?_)
    exact ⟨⟨[_], tm, rfl⟩, ⟨rfl, tv⟩⟩
theorem JZ (N : Nat) (p0 : Av) (r : Bool) (h : Fv N p0 = some r) : Ao zA0 42 [.e (.agg (Bj p0))] [] (bD r) := by
 unfold Fv at h
 refine cw (n := 11) (rs := [.tmp 2]) Tryz.func42 fun w0 S0 => ?_
 refine wq rfl (qb rfl (qe rfl ?_))
 refine AP h (fun v1 => mk [(2, bD v1)] []) (fun j1 h => ?_) (fun v1 h => ?_)
 ·refine Ah AA rfl (qf FY rfl (ql Ce rfl (BZ rfl (qm rfl ?_))))
  refine Ew 6 h rfl (fun h => ?_) fun h => ?_
  ·refine qw 3 rfl (qp rfl (qe rfl ?_))
   exact sn [] h
  ·refine qf FY rfl (ql Ce rfl (BZ rfl (qp rfl (qe rfl ?_))))
   exact sn [] h
 ·obtain rfl := sj h
  refine Af (sm [] [(2, bD v1)] [] rfl rfl) (Ap ?_)
  exact ⟨⟨[_], tm, rfl⟩, tv⟩
theorem KR (N : Nat) (p0 : Aa) (r : Ab × Int) (h : F1 N p0 = some r) : Ao zA0 15 [.e (.agg (Ae p0))] [(1, r.1.fc.map An), (1, r.1.fa.map An), (1, r.1.fd.map C3)] (.tup [.agg [.own 0, .own 1, .own 2], .one (iC r.2)]) := by
 unfold F1 at h
 refine cw (n := 50) (rs := [.cell 2 43, .tmp 3]) Tryz.func15 fun w0 S0 => ?_
 refine wq rfl (qb rfl (qz CH rfl (qa rfl (Ac (wp rfl (qL Cz BS rfl ?_))))))
 refine B4 h fun v1 a1 h => Ax [] (Ia N p0 v1 a1) YJ rfl (qa rfl (Ac (wq rfl (qm rfl (BH rfl (Ac ?_))))))
 refine Bc h (fun h => ?_) fun h => ?_
 ·refine wq rfl (AU CH GB rfl (qm rfl (qs AK rfl (qe rfl ?_))))
  obtain rfl := sj h
  refine Af ((Aw 2 0 2001 1 _ rfl rfl rfl rfl).trans ((Aw 2 1 2002 1 _ rfl rfl rfl rfl).trans ((Aw 2 2 2003 1 _ rfl rfl rfl rfl).trans (sm [(1000, 2001), (1001, 2002), (1002, 2003)] [(2, oD (.ptr 2 0)), (3, iD v1)] [(2, .box [.own 1000, .own 1001, .own 1002]), (1000, .vec 1 ((([] : List Int)).map An)), (1001, .vec 1 ((([] : List Int)).map An)), (1002, .vec 1 ((([] : List Int)).map C3))] rfl rfl)))) (Ap ?_)
  exact ⟨⟨[_, _], ⟨.cellN _ _ _ _ _ _ _ rfl rfl A5 AK rfl rfl (Gn rfl), tm⟩, rfl⟩, ⟨rfl, rfl, rfl, tv⟩⟩
 ·refine Al (wq rfl (qf Gj rfl (ql A2 rfl ?_)))
  refine B4 h fun v3 a3 h => Ax [2004] (D7 N p0.fj v3 a3) Vt rfl (Em Az De Kh rfl (qf Gj rfl (ql A2 rfl (AJ Az rfl ?_))))
  refine B4 h fun v4 a4 h => Ej [2005] [17] (JN N (([(-1)] : List Int)) ((p0.fj.length : Int)) v4 a4) bb (IQ (fun _ => rfl) CR) rfl (qf Cg rfl (ql GD rfl (AJ DB rfl ?_)))
  refine Gl h fun c5 h => Jo (.p rfl) rfl rfl rfl Dj F3 Rw (HO rfl) QV rfl rfl rfl c5.1 c5.2.1 c5.2.2 (Oa C3 _ ((0 : Int))) ?_
  refine AU CH GB rfl (qz CH rfl (qs AK rfl (AO (by kernel_rfl) (wp rfl (qf Cg rfl (ql GD rfl (AJ DB rfl (qm rfl (Ac ?_)))))))))
  refine AI (L := Ec N p0) h (fun v6 => mk [(1, oD (.ptr 1 0)), (2, oD (.ptr 2 0)), (5, oD (.ptr 5 0)), (28, pD (.sl (p0.fe.map AV))), (29, iD ((p0.fe.length : Int))), (30, iD v6.2)] [(1, .box (Ae p0)), (2, .box [.pure (.nil0), .pure (.nil0), .pure (.nil0)]), (5, .box [.own 2006, .own 2007, .own 2008]), (2006, .vec 1 (v3.map An)), (2007, .vec 1 (v4.map An)), (2008, .vec 1 (v6.1.map C3))]) (fun v7 => mk [(2, oD (.ptr 2 0)), (5, oD (.ptr 5 0))] [(2, .box [.pure (.nil0), .pure (.nil0), .pure (.nil0)]), (5, .box [.own 2009, .own 2010, .own 2011]), (2009, .vec 1 (v3.map An)), (2010, .vec 1 (v4.map An)), (2011, .vec 1 (v7.map C3))]) (fun _ _ => rfl) (sm [(2006, 2004), (2007, 2005), (2008, 25)] _ _ rfl rfl) (fun j6 n6 v6 h => ?_) (fun v7 s h hs => ?_)
  ·unfold Ec at h
   refine wq rfl (A0 rfl (Ac (AQ ?_)))
   refine Bc h (fun h => ?_) fun h => ?_
   ·refine Al ?_
    refine AP h (fun v9 => mk [(1, oD (.ptr 1 0)), (2, oD (.ptr 2 0)), (5, oD (.ptr 5 0)), (28, pD (.sl (p0.fe.map AV))), (29, iD ((p0.fe.length : Int))), (30, iD v6.2)] [(1, .box (Ae p0)), (2, .box [.pure (.nil0), .pure (.nil0), .pure (.nil0)]), (5, .box [.own 2012, .own 2013, .own 2014]), (2012, .vec 1 (v3.map An)), (2013, .vec 1 (v4.map An)), (2014, .vec 1 (v9.map C3))]) (fun j9 h => ?_) (fun v9 h => ?_)
    ·refine AM (wq rfl (qm rfl ?_))
     refine BV h fun v10 a10 b10 h => qi DB DN a10 (Ag b10) rfl (qK Hp DN rfl (qz JK rfl (qa rfl (qs DN rfl (Ac (wq rfl (qL Hp DN rfl ?_)))))))
     refine B4 h fun v11 a11 h => Ax [] (JZ N v10 v11 a11) X8 rfl (Ac ?_)
     refine Bc h (fun h => ?_) fun h => ?_
     ·refine Ah AA rfl (qf CG rfl (ql G4 rfl (qm rfl (qf Gj rfl (ql A2 rfl (qf Dd rfl (ql Ce rfl ?_)))))))
      refine BV h fun v13 a13 b13 h => qi Az De a13 (Ag b13) rfl (qk Ce rfl ?_)
      refine Gl h fun c14 h => Jl rfl c14 ?_
      refine BV h fun v15 a15 b15 h => qI Dj F3 a15 (Ag b15) rfl ?_
      refine DV rfl rfl rfl rfl (Ag b15) rfl F3 rfl (HO rfl) (DK C3 v6.1 _ ((D3 .u8 1 v13))) ?_
      refine AO (by kernel_rfl) ?_
      exact sn [(2012, 2006), (2013, 2007), (2014, 2008)] h
     ·refine Al ?_
      exact sn [(2012, 2006), (2013, 2007), (2014, 2008)] h
    ·refine Ah AA rfl (A9 rfl (qm rfl (Ac ?_)))
     exact sn [(2006, 2012), (2007, 2013), (2008, 2014)] h
   ·refine AX ?_
    exact sn [(2009, 2006), (2010, 2007), (2011, 2008)] h
  ·refine Af hs (wq rfl (qL A5 AK rfl (qs AK rfl (qe rfl ?_))))
   obtain rfl := sj h
   refine Af (sm [(1000, 2009), (1001, 2010), (1002, 2011)] [(2, oD (.ptr 2 0)), (3, iD 0)] [(2, .box [.own 1000, .own 1001, .own 1002]), (1000, .vec 1 (v3.map An)), (1001, .vec 1 (v4.map An)), (1002, .vec 1 (v7.map C3))] rfl rfl) (Ap ?_)
   exact ⟨⟨[_, _], ⟨.cellN _ _ _ _ _ _ _ rfl rfl A5 AK rfl rfl (Gn rfl), tm⟩, rfl⟩, ⟨rfl, rfl, rfl, tv⟩⟩
theorem Ju (N : Nat) (p0 : Ab) (p1 : Int) (r : Int) (h : E9 N p0 p1 = some r) : Ao zA0 75 [.e (.agg (Ay p0)), iD p1] [] (pD (.val (.int .u8 r))) := by
 unfold E9 at h
 refine cw (n := 27) (rs := [.tmp 4]) Tryz.func75 fun w0 S0 => ?_
 refine wq rfl (qb rfl (qa rfl (Ac (wq rfl (qf CC rfl (ql A2 rfl (qm rfl ?_)))))))
 refine BV h fun v1 a1 b1 h => qi Az De a1 (Ag b1) rfl (qk Ce rfl ?_)
 refine Gl h fun c2 h => Jl rfl c2 (qe rfl ?_)
 refine AP h (fun v3 => mk [(5, pD (.val (.int .u8 v3)))] []) (fun j3 h => ?_) (fun v3 h => ?_)
 ·refine wq rfl (qf Bs rfl (ql A2 rfl (qm rfl ?_)))
  refine BV h fun v4 a4 b4 h => qi Az De a4 (Ag b4) rfl (qk Ce rfl (EO rfl (Ac ?_)))
  refine Bc h (fun h => ?_) fun h => ?_
  ·refine Ah AA rfl (qm rfl (qf Bs rfl (ql A2 rfl (qm rfl ?_))))
   refine BV h fun v6 a6 b6 h => qi Az De a6 (Ag b6) rfl (qk Ce rfl ?_)
   refine Gl h fun c7 h => Jl rfl c7 (Va rfl (qe rfl ?_))
   exact sn [] h
  ·refine Al ?_
   exact sn [] h
 ·refine wq rfl (qm rfl (qe rfl ?_))
  obtain rfl := sj h
  refine Af (sm [] [(4, pD (.val (.int .u8 v3)))] [] rfl rfl) (Ap ?_)
  exact ⟨⟨[_], tm, rfl⟩, tv⟩
theorem Im (N : Nat) (p0 : Aa) (p1 : Ab) (r : Int) (h : EW N p0 p1 = some r) : Ao zA0 47 [.e (.agg (Ae p0)), .e (.agg (Ay p1))] [] (iD r) := by
 unfold EW at h
 refine cw (n := 135) (rs := [.tmp 4]) Tryz.func47 fun w0 S0 => ?_
 refine wq rfl (qb rfl (qb rfl (qa rfl (Ac (wp rfl (qL Cz BS rfl ?_))))))
 refine B4 h fun v1 a1 h => Ax [] (Ia N p0 v1 a1) YJ rfl (qa rfl (Ac (wq rfl (qm rfl (BH rfl (Ac ?_))))))
 refine Bc h (fun h => ?_) fun h => ?_
 ·refine wq rfl (qm rfl (qe rfl ?_))
  obtain rfl := sj h
  refine Af (sm [] [(4, iD v1)] [] rfl rfl) (Ap ?_)
  exact ⟨⟨[_], tm, rfl⟩, tv⟩
 ·refine Al (AQ ?_)
  refine AP h (fun v3 => mk [(2, oD (.ptr 2 0)), (3, oD (.ptr 3 0)), (41, bD v3)] [(2, .box (Ae p0)), (3, .box (Ay p1))]) (fun j3 h => ?_) (fun v3 h => ?_)
  ·refine Ah AA rfl (qf CC rfl (ql A2 rfl (AJ Az rfl (qf Bt rfl (ql A2 rfl (AJ Az rfl (BH rfl (qm rfl ?_))))))))
   refine Ew 24 h rfl (fun h => ?_) fun h => ?_
   ·refine qw 7 rfl (qp rfl (qw 8 rfl (qp rfl (Ac ?_))))
    exact sn [] h
   ·refine qf Bs rfl (ql A2 rfl (AJ Az rfl (qf Bt rfl (ql A2 rfl (AJ Az rfl (BH rfl (qp rfl (qm rfl ?_))))))))
    refine Ew 33 h rfl (fun h => ?_) fun h => ?_
    ·refine qw 7 rfl (qp rfl (Ac ?_))
     exact sn [] h
    ·refine qf CG rfl (ql G4 rfl (AJ Dj rfl (qf Cg rfl (ql GD rfl (AJ DB rfl (BH rfl (qp rfl (Ac ?_))))))))
     exact sn [] h
  ·refine Bc h (fun h => ?_) fun h => ?_
   ·refine wq rfl (qe rfl ?_)
    obtain rfl := sj h
    refine Af (sm [] [(4, iD 6)] [] rfl rfl) (Ap ?_)
    exact ⟨⟨[_], tm, rfl⟩, tv⟩
   ·refine Al (wp rfl (qf Bt rfl (ql A2 rfl (AJ Az rfl (qm rfl (Ac ?_))))))
    refine AI (L := Ee N p0 p1) h (fun v7 => mk [(2, oD (.ptr 2 0)), (3, oD (.ptr 3 0)), (43, pD (.sl (p0.fb.map An))), (44, iD ((p0.fb.length : Int))), (45, iD v7)] [(2, .box (Ae p0)), (3, .box (Ay p1))]) (fun v8 => mk [(2, oD (.ptr 2 0)), (3, oD (.ptr 3 0))] [(2, .box (Ae p0)), (3, .box (Ay p1))]) (fun _ _ => rfl) (sm [] _ _ rfl rfl) (fun j7 n7 v7 h => ?_) (fun v8 s h hs => ?_)
    ·unfold Ee at h
     refine wq rfl (A0 rfl (Ac (AQ ?_)))
     refine Bc h (fun h => ?_) fun h => ?_
     ·refine Al (AQ (AM (wq rfl (qm rfl ?_))))
      refine BV h fun v10 a10 b10 h => qi Az De a10 (Ag b10) rfl (qk Ce rfl (qa rfl (qa rfl (Ac (AQ ?_)))))
      refine AP h (fun v11 => mk [(2, oD (.ptr 2 0)), (3, oD (.ptr 3 0)), (6, iD v7), (43, pD (.sl (p0.fb.map An))), (44, iD ((p0.fb.length : Int))), (45, iD v7), (81, bD v11)] [(2, .box (Ae p0)), (3, .box (Ay p1))]) (fun j11 h => ?_) (fun v11 h => ?_)
      ·refine Ah AA rfl (qf CC rfl (ql A2 rfl (qm rfl ?_)))
       refine BV h fun v12 a12 b12 h => qi Az De a12 (Ag b12) rfl (qk Ce rfl (A0 rfl (qm rfl ?_)))
       refine Ew 56 h rfl (fun h => ?_) fun h => ?_
       ·refine qw 7 rfl (qp rfl (qw 7 rfl (qp rfl (qw 8 rfl (qp rfl (Ac ?_))))))
        exact sn [] h
       ·refine qf CC rfl (ql A2 rfl (qm rfl ?_))
        refine BV h fun v14 a14 b14 h => qi Az De a14 (Ag b14) rfl (qk Ce rfl (qm rfl (EO rfl (qp rfl (qm rfl ?_)))))
        refine Ew 65 h rfl (fun h => ?_) fun h => ?_
        ·refine qw 6 rfl (qp rfl (qw 8 rfl (qp rfl (Ac ?_))))
         exact sn [] h
        ·refine qf Bs rfl (ql A2 rfl (qm rfl ?_))
         refine BV h fun v16 a16 b16 h => qi Az De a16 (Ag b16) rfl (qk Ce rfl (A0 rfl (qp rfl (qm rfl ?_))))
         refine Ew 73 h rfl (fun h => ?_) fun h => ?_
         ·refine qw 7 rfl (qp rfl (Ac ?_))
          exact sn [] h
         ·refine qf Bs rfl (ql A2 rfl (qm rfl ?_))
          refine BV h fun v18 a18 b18 h => qi Az De a18 (Ag b18) rfl (qk Ce rfl (qm rfl (EO rfl (qp rfl (Ac ?_)))))
          exact sn [] h
      ·refine Bc h (fun h => ?_) fun h => ?_
       ·refine wq rfl (qe rfl ?_)
        obtain rfl := sj h
        refine Af (sm [] [(4, iD 7)] [] rfl rfl) (Ap ?_)
        exact ⟨⟨[_], tm, rfl⟩, tv⟩
       ·refine Al (wq rfl (qf CC rfl (ql A2 rfl (qm rfl ?_))))
        refine BV h fun v20 a20 b20 h => qi Az De a20 (Ag b20) rfl (qk Ce rfl (qf Bs rfl (ql A2 rfl (qm rfl ?_))))
        refine BV h fun v21 a21 b21 h => qi Az De a21 (Ag b21) rfl (qk Ce rfl (BZ rfl (AO (by kernel_rfl) ?_)))
        refine Bc h (fun h => ?_) fun h => ?_
        ·refine wq rfl (qe rfl ?_)
         obtain rfl := sj h
         refine Af (sm [] [(4, iD 1)] [] rfl rfl) (Ap ?_)
         exact ⟨⟨[_], tm, rfl⟩, tv⟩
        ·refine Al (Ah AA rfl (A9 rfl (qm rfl (Ac ?_))))
         exact sn [] h
     ·refine AX ?_
      exact sn [] h
    ·refine Af hs (wp rfl (qf Cg rfl (ql GD rfl (AJ DB rfl (qm rfl (Ac ?_))))))
     refine AI (L := DZ N p0 p1) h (fun v23 => mk [(2, oD (.ptr 2 0)), (3, oD (.ptr 3 0)), (95, pD (.sl (p0.fe.map AV))), (96, iD ((p0.fe.length : Int))), (97, iD v23)] [(2, .box (Ae p0)), (3, .box (Ay p1))]) (fun v24 => mk [] []) (fun _ _ => rfl) (sm [] _ _ rfl rfl) (fun j23 n23 v23 h => ?_) (fun v24 s h hs => ?_)
     ·unfold DZ at h
      refine wq rfl (A0 rfl (Ac (AQ ?_)))
      refine Bc h (fun h => ?_) fun h => ?_
      ·refine Al (AQ (AM (wq rfl (qm rfl ?_))))
       refine BV h fun v26 a26 b26 h => qi DB DN a26 (Ag b26) rfl (qK Hp DN rfl (qz JK rfl (qa rfl (qs DN rfl (Ac (wq rfl (qa rfl (qe rfl ?_))))))))
       refine AP h (fun v27 => mk [(2, oD (.ptr 2 0)), (3, oD (.ptr 3 0)), (8, iD v23), (10, pD (.val (.int .u8 v27.1))), (11, pD (.val (.int .u8 v27.2))), (95, pD (.sl (p0.fe.map AV))), (96, iD ((p0.fe.length : Int))), (97, iD v23)] [(2, .box (Ae p0)), (3, .box (Ay p1))]) (fun j27 h => ?_) (fun v27 h => ?_)
       ·refine wq rfl (qL Hp DN rfl ?_)
        refine B4 h fun v28 a28 h => Ax [] (JZ N v26 v28 a28) X8 rfl (Ac ?_)
        refine Bc h (fun h => ?_) fun h => ?_
        ·refine Ah AA rfl (qL A5 AK rfl (qf Dd rfl (ql Ce rfl ?_)))
         refine B4 h fun v30 a30 h => Ax [] (Ju N p1 v26.fg v30 a30) Yn rfl (qf Bt rfl (ql A2 rfl (qf Dd rfl (ql Ce rfl ?_))))
         refine BV h fun v31 a31 b31 h => qi Az De a31 (Ag b31) rfl (qk Ce rfl ?_)
         refine Gl h fun c32 h => Jl rfl c32 (QX rfl (qa rfl (qa rfl (AO (by kernel_rfl) ?_))))
         exact sn [] h
        ·refine Al ?_
         exact sn [] h
       ·refine AP h (fun v33 => mk [(2, oD (.ptr 2 0)), (3, oD (.ptr 3 0)), (95, pD (.sl (p0.fe.map AV))), (96, iD ((p0.fe.length : Int))), (97, iD v23), (133, bD v33)] [(2, .box (Ae p0)), (3, .box (Ay p1))]) (fun j33 h => ?_) (fun v33 h => ?_)
        ·refine Ah AA rfl (qm rfl (qf CG rfl (ql G4 rfl (qm rfl ?_))))
         refine BV h fun v34 a34 b34 h => qi Dj F3 a34 (Ag b34) rfl (qk Kj rfl (I1 rfl (BH rfl (qm rfl ?_))))
         refine Ew 124 h rfl (fun h => ?_) fun h => ?_
         ·refine qw 8 rfl (qp rfl (Ac ?_))
          exact sn [] h
         ·refine qf CG rfl (ql G4 rfl (qm rfl ?_))
          refine BV h fun v36 a36 b36 h => qi Dj F3 a36 (Ag b36) rfl (qk Kj rfl (qm rfl (I1 rfl (BH rfl (qp rfl (Ac ?_))))))
          exact sn [] h
        ·refine Bc h (fun h => ?_) fun h => ?_
         ·refine wq rfl (qe rfl ?_)
          obtain rfl := sj h
          refine Af (sm [] [(4, iD 1)] [] rfl rfl) (Ap ?_)
          exact ⟨⟨[_], tm, rfl⟩, tv⟩
         ·refine Al (Ah AA rfl (A9 rfl (qm rfl (Ac ?_))))
          exact sn [] h
      ·refine AX ?_
       exact sn [] h
     ·refine Af hs (wq rfl (qe rfl ?_))
      obtain rfl := sj h
      refine Af (sm [] [(4, iD 0)] [] rfl rfl) (Ap ?_)
      exact ⟨⟨[_], tm, rfl⟩, tv⟩
theorem FL (N : Nat) (p0 : List Int) (r : (List Int)) (h : BR N p0 = some r) : Ao zA0 76 [pD (.sl (p0.map C3))] [(1, r.map C3)] (oD (.own 0)) := by
 unfold BR at h
 refine cw (n := 8) (rs := [.tmp 2]) Tryz.func76 fun w0 S0 => ?_
 refine wq rfl (qa rfl (Ac (wp rfl (qm rfl ?_))))
 refine TF (.p rfl) rfl Dj ?_
 refine Ac ?_
 refine TG rfl (fun c2 => ?_) ?_
 ·have c2 := List.map_eq_nil_iff.1 c2
  rw [c2] at h
  have h : (some (([] : List Int))) = some r := h
  refine wq rfl (qe rfl ?_)
  obtain rfl := sj h
  refine Af ((BP 2 2001 1 rfl rfl rfl).trans (sm [(1000, 2001)] [(2, oD (.own 1000))] [(1000, .vec 1 ((([] : List Int)).map C3))] rfl rfl)) (Ap ?_)
  exact ⟨⟨[_], tm, rfl⟩, ⟨rfl, tv⟩⟩
 ·refine Al (wq rfl (Em Dj F3 QV rfl (qm rfl ?_)))
  refine Gl h fun c1 h => Iq (f := C3) Dj Dj F3 Rw QV (fun _ => rfl) c1 rfl (qe rfl ?_)
  obtain rfl := sj h
  refine Af (sm [(1000, 7)] [(2, oD (.own 1000))] [(1000, .vec 1 (((([] : List Int)) ++ p0).map C3))] rfl rfl) (Ap ?_)
  exact ⟨⟨[_], tm, rfl⟩, ⟨rfl, tv⟩⟩
theorem QO (N : Nat) (p0 : Aa) (p1 : Ab) (r : (List Ab) × Int) (h : G7 N p0 p1 = some r) : Ao zA0 63 [.e (.agg (Ae p0)), .e (.agg (Ay p1))] [(3, r.1.map CI)] (.tup [.one (.own 0), .one (iC r.2)]) := by
 unfold G7 at h
 refine cw (n := 75) (rs := [.tmp 4, .tmp 5]) Tryz.func63 fun w0 S0 => ?_
 refine wq rfl (qb rfl (qb rfl (qa rfl (qa rfl (Ac (wp rfl (qL Cz BS rfl (qL A5 AK rfl ?_))))))))
 refine B4 h fun v1 a1 h => Ax [] (Im N p0 p1 v1 a1) Uv rfl (qa rfl (Ac (wq rfl (qm rfl (BH rfl (Ac ?_))))))
 refine Bc h (fun h => ?_) fun h => ?_
 ·refine wq rfl (qm rfl (qa rfl (qe rfl ?_)))
  obtain rfl := sj h
  refine Af ((BP 4 2001 3 rfl rfl rfl).trans (sm [(1000, 2001)] [(4, oD (.own 1000)), (5, iD v1)] [(1000, .vec 3 ((([] : List Ab)).map CI))] rfl rfl)) (Ap ?_)
  exact ⟨⟨[_, _], ⟨.tmp _ _ rfl, tm⟩, rfl⟩, ⟨rfl, tv⟩⟩
 ·refine Al (wq rfl (qa rfl (Ac (wp rfl (qf Bs rfl (ql A2 rfl (AJ Az rfl (qm rfl (Ac ?_)))))))))
  refine AI (L := DT N p1) h (fun v3 => mk [(3, oD (.ptr 3 0)), (7, oD (.own 2002)), (22, pD (.sl (p1.fa.map An))), (23, iD ((p1.fa.length : Int))), (24, iD v3.2)] [(3, .box (Ay p1)), (2002, .vec 1 (v3.1.map An))]) (fun v4 => mk [(3, oD (.ptr 3 0)), (7, oD (.own 2003))] [(3, .box (Ay p1)), (2003, .vec 1 (v4.map An))]) (fun _ _ => rfl) ((BP 7 2005 1 rfl rfl rfl).trans (sm [(2002, 2005)] _ _ rfl rfl)) (fun j3 n3 v3 h => ?_) (fun v4 s h hs => ?_)
  ·unfold DT at h
   refine wq rfl (A0 rfl (Ac (AQ ?_)))
   refine Bc h (fun h => ?_) fun h => ?_
   ·refine Al ?_
    refine AP h (fun v6 => mk [(3, oD (.ptr 3 0)), (7, oD (.own 2004)), (22, pD (.sl (p1.fa.map An))), (23, iD ((p1.fa.length : Int))), (24, iD v3.2)] [(3, .box (Ay p1)), (2004, .vec 1 (v6.map An))]) (fun j6 h => ?_) (fun v6 h => ?_)
    ·refine AM (wq rfl (qm rfl ?_))
     refine BV h fun v7 a7 b7 h => qi Az De a7 (Ag b7) rfl (qk Ce rfl (qa rfl (qa rfl (Ac (wq rfl (qm rfl (EO rfl (Ac ?_))))))))
     refine Bc h (fun h => ?_) fun h => ?_
     ·refine Ah AA rfl (qw 2 rfl (Em Az De Kh rfl ?_))
      refine Gl h fun c9 h => DQ (f := An) Az Az De KO Kh c9 rfl (qe rfl ?_)
      exact sn [(2004, 34)] h
     ·refine Al ?_
      exact sn [(2004, 2002)] h
    ·refine Ah AA rfl (A9 rfl (qm rfl (Ac ?_)))
     exact sn [(2002, 2004)] h
   ·refine AX ?_
    exact sn [(2003, 2002)] h
  ·refine Af hs (wq rfl (qa rfl (Ac (wp rfl (qm rfl (F0 Az rfl ?_))))))
   refine Gl h fun c10 h => Jl rfl c10 (qm rfl (Ac ?_))
   refine AI (L := C6 N p1 v4) h (fun v11 => mk [(3, oD (.ptr 3 0)), (7, oD (.own 2006)), (10, oD (.own 2007)), (38, iD ((D3 .i64 1 ((v4.length : Int))))), (39, iD v11.2)] [(3, .box (Ay p1)), (2006, .vec 1 (v4.map An)), (2007, .vec 3 (v11.1.map CI))]) (fun v12 => mk [(10, oD (.own 2008))] [(2008, .vec 3 (v12.map CI))]) (fun _ _ => rfl) ((BP 10 2027 3 rfl rfl rfl).trans (sm [(2006, 2003), (2007, 2027)] _ _ rfl rfl)) (fun j11 n11 v11 h => ?_) (fun v12 s h hs => ?_)
   ·unfold C6 at h
    refine wq rfl (A0 rfl (Ac (AQ ?_)))
    refine Bc h (fun h => ?_) fun h => ?_
    ·refine Al (AQ (AM (wq rfl (qm rfl (qa rfl (Ac (wq rfl (qf CC rfl (ql A2 rfl ?_)))))))))
     refine B4 h fun v14 a14 h => Ax [2009] (D7 N p1.fc v14 a14) Vt rfl (qf Bs rfl (ql A2 rfl ?_))
     refine B4 h fun v15 a15 h => Ax [2010] (D7 N p1.fa v15 a15) Vt rfl (qf CG rfl (ql G4 rfl ?_))
     refine B4 h fun v16 a16 h => Ax [2011] (FL N p1.fd v16 a16) ZQ rfl (AU CH GB rfl (qz CH rfl (qs AK rfl (AO (by kernel_rfl) (wp rfl (qm rfl (F0 Az rfl (qm rfl (Ac ?_)))))))))
     refine AI (L := Da N v4 v11) h (fun v17 => mk [(3, oD (.ptr 3 0)), (7, oD (.own 2015)), (10, oD (.own 2016)), (11, iD v11.2), (12, oD (.ptr 12 0)), (38, iD ((D3 .i64 1 ((v4.length : Int))))), (39, iD v11.2), (52, oD (.own 2015)), (53, iD ((v4.length : Int))), (54, iD v17.2)] [(3, .box (Ay p1)), (12, .box [.own 2012, .own 2013, .own 2014]), (2012, .vec 1 (v14.map An)), (2013, .vec 1 (v17.1.map An)), (2014, .vec 1 (v16.map C3)), (2015, .vec 1 (v4.map An)), (2016, .vec 3 (v11.1.map CI))]) (fun v18 => mk [(3, oD (.ptr 3 0)), (7, oD (.own 2020)), (10, oD (.own 2021)), (12, oD (.ptr 12 0)), (38, iD ((D3 .i64 1 ((v4.length : Int))))), (39, iD v11.2)] [(3, .box (Ay p1)), (12, .box [.own 2017, .own 2018, .own 2019]), (2017, .vec 1 (v14.map An)), (2018, .vec 1 (v18.map An)), (2019, .vec 1 (v16.map C3)), (2020, .vec 1 (v4.map An)), (2021, .vec 3 (v11.1.map CI))]) (fun _ _ => rfl) (sm [(2012, 2009), (2013, 2010), (2014, 2011), (2015, 2006), (2016, 2007)] _ _ rfl rfl) (fun j17 n17 v17 h => ?_) (fun v18 s h hs => ?_)
     ·unfold Da at h
      refine wq rfl (A0 rfl (Ac (AQ ?_)))
      refine Bc h (fun h => ?_) fun h => ?_
      ·refine Al ?_
       refine AP h (fun v20 => mk [(3, oD (.ptr 3 0)), (7, oD (.own 2025)), (10, oD (.own 2026)), (11, iD v11.2), (12, oD (.ptr 12 0)), (38, iD ((D3 .i64 1 ((v4.length : Int))))), (39, iD v11.2), (52, oD (.own 2025)), (53, iD ((v4.length : Int))), (54, iD v17.2)] [(3, .box (Ay p1)), (12, .box [.own 2022, .own 2023, .own 2024]), (2022, .vec 1 (v14.map An)), (2023, .vec 1 (v20.map An)), (2024, .vec 1 (v16.map C3)), (2025, .vec 1 (v4.map An)), (2026, .vec 3 (v11.1.map CI))]) (fun j20 h => ?_) (fun v20 h => ?_)
       ·refine AM (wq rfl (qm rfl ?_))
        refine BV h fun v21 a21 b21 h => qI Az De a21 (Ag b21) rfl (qj Ce (Ag b21) rfl (qa rfl (qa rfl (Ac (wq rfl (qw 2 rfl ?_))))))
        refine Gl h fun c22 h => JJ rfl c22 (NT rfl (BZ rfl (Ac ?_)))
        refine Bc h (fun h => ?_) fun h => ?_
        ·refine Ah AA rfl (qf Bs rfl (ql A2 rfl (qm rfl ?_)))
         refine BV h fun v24 a24 b24 h => qI Az De a24 (Ag b24) rfl ?_
         refine DV rfl rfl rfl rfl (Ag b24) rfl De rfl (HO rfl) (DK An v17.1 _ ((-1))) ?_
         refine Ac ?_
         exact sn [(2022, 2012), (2023, 2013), (2024, 2014), (2025, 2015), (2026, 2016)] h
        ·refine Al ?_
         exact sn [(2022, 2012), (2023, 2013), (2024, 2014), (2025, 2015), (2026, 2016)] h
       ·refine Ah AA rfl (A9 rfl (qm rfl (Ac ?_)))
        exact sn [(2012, 2022), (2013, 2023), (2014, 2024), (2015, 2025), (2016, 2026)] h
      ·refine AX ?_
       exact sn [(2017, 2012), (2018, 2013), (2019, 2014), (2020, 2015), (2021, 2016)] h
     ·refine Af hs (Ah AA rfl (qm rfl (qL A5 AK rfl (C2 (AY 2017 _ _ rfl rfl) (C2 (AY 2018 _ _ rfl rfl) (C2 (AY 2019 _ _ rfl rfl) (Em Hi AK CH rfl ?_)))))))
      refine Gl h fun c25 h => DQ (f := CI) Hi Hi AK Vp CH c25 rfl (qa rfl (Ac (Ah AA rfl (A9 rfl (qm rfl (Ac ?_))))))
      exact sn [(2006, 2020), (2007, 72)] h
    ·refine AX ?_
     exact sn [(2008, 2007)] h
   ·refine Af hs (wq rfl (qm rfl (qa rfl (qe rfl ?_))))
    obtain rfl := sj h
    refine Af (sm [(1000, 2008)] [(4, oD (.own 1000)), (5, iD 0)] [(1000, .vec 3 (v12.map CI))] rfl rfl) (Ap ?_)
    exact ⟨⟨[_, _], ⟨.tmp _ _ rfl, tm⟩, rfl⟩, ⟨rfl, tv⟩⟩
theorem N5 (N : Nat) (p0 : Aa) (p1 : Ab) (r : (List Ai)) (h : FJ N p0 p1 = some r) : Ao zA0 64 [.e (.agg (Ae p0)), .e (.agg (Ay p1))] [(3, r.map AZ)] (oD (.own 0)) := by
 unfold FJ at h
 refine cw (n := 98) (rs := [.tmp 4]) Tryz.func64 fun w0 S0 => ?_
 refine wq rfl (qb rfl (qb rfl (qa rfl (Ac (wq rfl (qa rfl (Ac (wp rfl (qf Cg rfl (ql GD rfl (AJ DB rfl (qm rfl (Ac ?_)))))))))))))
 refine AI (L := Du N p0 p1) h (fun v1 => mk [(3, oD (.ptr 3 0)), (5, oD (.own 2001)), (15, pD (.sl (p0.fe.map AV))), (16, iD ((p0.fe.length : Int))), (17, iD v1.2)] [(3, .box (Ay p1)), (2001, .vec 3 (v1.1.map AZ))]) (fun v2 => mk [(5, oD (.own 2002))] [(2002, .vec 3 (v2.map AZ))]) (fun _ _ => rfl) ((BP 5 2013 3 rfl rfl rfl).trans (sm [(2001, 2013)] _ _ rfl rfl)) (fun j1 n1 v1 h => ?_) (fun v2 s h hs => ?_)
 ·unfold Du at h
  refine wq rfl (A0 rfl (Ac (AQ ?_)))
  refine Bc h (fun h => ?_) fun h => ?_
  ·refine Al (AQ (AM (wq rfl (qm rfl ?_))))
   refine BV h fun v4 a4 b4 h => qi DB DN a4 (Ag b4) rfl (qK Hp DN rfl (qz JK rfl (qa rfl (qs DN rfl (Ac (wq rfl (qL A5 AK rfl (qf Dd rfl (ql Ce rfl ?_)))))))))
   refine B4 h fun v5 a5 h => Ax [] (Ju N p1 v4.fg v5 a5) Yn rfl (qL A5 AK rfl (qf H3 rfl (ql Ce rfl ?_)))
   refine B4 h fun v6 a6 h => Ax [] (Ju N p1 v4.fo v6 a6) Yn rfl (qa rfl (qa rfl (AO (by kernel_rfl) ?_)))
   refine AP h (fun v7 => mk [(3, oD (.ptr 3 0)), (5, oD (.own 2003)), (6, iD v1.2), (7, oD (.ptr 7 0)), (8, pD (.val (.int .u8 v7))), (9, pD (.val (.int .u8 v6))), (15, pD (.sl (p0.fe.map AV))), (16, iD ((p0.fe.length : Int))), (17, iD v1.2)] [(3, .box (Ay p1)), (7, .box (Bj v4)), (2003, .vec 3 (v1.1.map AZ))]) (fun j7 h => ?_) (fun v7 h => ?_)
   ·refine wq rfl (qL Hp DN rfl ?_)
    refine B4 h fun v8 a8 h => Ax [] (JZ N v4 v8 a8) X8 rfl (Ac ?_)
    refine Bc h (fun h => ?_) fun h => ?_
    ·refine Ah AA rfl (qf CG rfl (ql G4 rfl (qm rfl ?_)))
     refine BV h fun v10 a10 b10 h => qi Dj F3 a10 (Ag b10) rfl (qk Kj rfl (qe rfl ?_))
     exact sn [(2003, 2001)] h
    ·refine Al ?_
     exact sn [(2003, 2001)] h
   ·refine wq rfl (qf Jq rfl (ql Kc rfl (AJ FO rfl (qm rfl (Ac ?_)))))
    refine AI (L := Ct N v1 v4 v6 v7) h (fun v11 => mk [(3, oD (.ptr 3 0)), (5, oD (.own 2004)), (6, iD v1.2), (7, oD (.ptr 7 0)), (8, pD (.val (.int .u8 v7))), (9, pD (.val (.int .u8 v6))), (15, pD (.sl (p0.fe.map AV))), (16, iD ((p0.fe.length : Int))), (17, iD v1.2), (39, iD ((v4.fr.length : Int))), (40, iD v11.2)] [(3, .box (Ay p1)), (7, .box (Bj v4)), (2004, .vec 3 (v11.1.map AZ))]) (fun v12 => mk [(3, oD (.ptr 3 0)), (5, oD (.own 2005)), (15, pD (.sl (p0.fe.map AV))), (16, iD ((p0.fe.length : Int))), (17, iD v1.2)] [(3, .box (Ay p1)), (2005, .vec 3 (v12.map AZ))]) (fun _ _ => rfl) (sm [(2004, 2003)] _ _ rfl rfl) (fun j11 n11 v11 h => ?_) (fun v12 s h hs => ?_)
    ·unfold Ct at h
     refine wq rfl (A0 rfl (Ac (AQ ?_)))
     refine Bc h (fun h => ?_) fun h => ?_
     ·refine Al ?_
      refine AP h (fun v14 => mk [(3, oD (.ptr 3 0)), (5, oD (.own 2006)), (6, iD v1.2), (7, oD (.ptr 7 0)), (8, pD (.val (.int .u8 v7))), (9, pD (.val (.int .u8 v6))), (15, pD (.sl (p0.fe.map AV))), (16, iD ((p0.fe.length : Int))), (17, iD v1.2), (39, iD ((v4.fr.length : Int))), (40, iD v11.2)] [(3, .box (Ay p1)), (7, .box (Bj v4)), (2006, .vec 3 (v14.map AZ))]) (fun j14 h => ?_) (fun v14 h => ?_)
      ·refine AM (wq rfl (qm rfl (qa rfl (Ac (wp rfl (qw 2 rfl ?_))))))
       refine Gl h fun c15 h => JJ rfl c15 (NT rfl (BZ rfl (Ac ?_)))
       refine Bc h (fun h => ?_) fun h => ?_
       ·refine AX ?_
        exact sn [(2006, 2004)] h
       ·refine Al (wq rfl (qa rfl (Ac (wp rfl (qf Jq rfl (ql Kc rfl (qm rfl ?_)))))))
        refine BV h fun v17 a17 b17 h => qi FO Lq a17 (Ag b17) rfl (qk L6 rfl (AJ Fa rfl (qm rfl (Ac ?_))))
        refine AI (L := B3 N v1 v4 v6 v11 v17) h (fun v18 => mk [(3, oD (.ptr 3 0)), (5, oD (.own 2007)), (6, iD v1.2), (7, oD (.ptr 7 0)), (8, pD (.val (.int .u8 v7))), (9, pD (.val (.int .u8 v6))), (10, iD v11.2), (11, bD v18.2.1), (15, pD (.sl (p0.fe.map AV))), (16, iD ((p0.fe.length : Int))), (17, iD v1.2), (39, iD ((v4.fr.length : Int))), (40, iD v11.2), (52, pD (.sl (v17.map eB))), (53, iD ((v17.length : Int))), (54, iD v18.2.2)] [(3, .box (Ay p1)), (7, .box (Bj v4)), (2007, .vec 3 (v18.1.map AZ))]) (fun v19 => mk [(3, oD (.ptr 3 0)), (5, oD (.own 2008)), (6, iD v1.2), (7, oD (.ptr 7 0)), (8, pD (.val (.int .u8 v7))), (9, pD (.val (.int .u8 v6))), (10, iD v11.2), (11, bD v19.2), (15, pD (.sl (p0.fe.map AV))), (16, iD ((p0.fe.length : Int))), (17, iD v1.2), (39, iD ((v4.fr.length : Int))), (40, iD v11.2)] [(3, .box (Ay p1)), (7, .box (Bj v4)), (2008, .vec 3 (v19.1.map AZ))]) (fun _ _ => rfl) (sm [(2007, 2004)] _ _ rfl rfl) (fun j18 n18 v18 h => ?_) (fun v19 s h hs => ?_)
        ·unfold B3 at h
         refine wq rfl (A0 rfl (Ac (AQ ?_)))
         refine Bc h (fun h => ?_) fun h => ?_
         ·refine Al ?_
          refine AP h (fun v21 => mk [(3, oD (.ptr 3 0)), (5, oD (.own 2009)), (6, iD v1.2), (7, oD (.ptr 7 0)), (8, pD (.val (.int .u8 v7))), (9, pD (.val (.int .u8 v6))), (10, iD v11.2), (11, bD v21.2), (15, pD (.sl (p0.fe.map AV))), (16, iD ((p0.fe.length : Int))), (17, iD v1.2), (39, iD ((v4.fr.length : Int))), (40, iD v11.2), (52, pD (.sl (v17.map eB))), (53, iD ((v17.length : Int))), (54, iD v18.2.2)] [(3, .box (Ay p1)), (7, .box (Bj v4)), (2009, .vec 3 (v21.1.map AZ))]) (fun j21 h => ?_) (fun v21 h => ?_)
          ·refine AM (wq rfl (qm rfl ?_))
           refine BV h fun v22 a22 b22 h => qi Fa Nb a22 (Ag b22) rfl (qk QW rfl (qa rfl (qa rfl (Ac (wp rfl (qw 2 rfl ?_))))))
           refine Gl h fun c23 h => JJ rfl c23 (NT rfl (BZ rfl (Ac ?_)))
           refine Bc h (fun h => ?_) fun h => ?_
           ·refine AX ?_
            exact sn [(2009, 2007)] h
           ·refine Al ?_
            refine AP h (fun v25 => mk [(3, oD (.ptr 3 0)), (5, oD (.own 2010)), (6, iD v1.2), (7, oD (.ptr 7 0)), (8, pD (.val (.int .u8 v7))), (9, pD (.val (.int .u8 v6))), (10, iD v11.2), (11, bD v25), (12, iD v18.2.2), (13, bD v22), (15, pD (.sl (p0.fe.map AV))), (16, iD ((p0.fe.length : Int))), (17, iD v1.2), (39, iD ((v4.fr.length : Int))), (40, iD v11.2), (52, pD (.sl (v17.map eB))), (53, iD ((v17.length : Int))), (54, iD v18.2.2)] [(3, .box (Ay p1)), (7, .box (Bj v4)), (2010, .vec 3 (v18.1.map AZ))]) (fun j25 h => ?_) (fun v25 h => ?_)
            ·refine Ah AA rfl (qw 2 rfl ?_)
             refine Ew 65 h rfl (fun h => ?_) fun h => ?_
             ·refine qn rfl (qp rfl (qe rfl ?_))
              exact sn [(2010, 2007)] h
             ·refine qm rfl (qp rfl (qe rfl ?_))
              exact sn [(2010, 2007)] h
            ·refine AP h (fun v27 => mk [(3, oD (.ptr 3 0)), (5, oD (.own 2011)), (6, iD v1.2), (7, oD (.ptr 7 0)), (8, pD (.val (.int .u8 v7))), (9, pD (.val (.int .u8 v6))), (10, iD v11.2), (11, bD v25), (12, iD v18.2.2), (15, pD (.sl (p0.fe.map AV))), (16, iD ((p0.fe.length : Int))), (17, iD v1.2), (39, iD ((v4.fr.length : Int))), (40, iD v11.2), (52, pD (.sl (v17.map eB))), (53, iD ((v17.length : Int))), (54, iD v18.2.2), (74, bD v27)] [(3, .box (Ay p1)), (7, .box (Bj v4)), (2011, .vec 3 (v18.1.map AZ))]) (fun j27 h => ?_) (fun v27 h => ?_)
             ·refine Ah AA rfl (qm rfl (CD rfl (qm rfl ?_)))
              refine Ew 70 h rfl (fun h => ?_) fun h => ?_
              ·refine qf IG rfl (ql QW rfl (CD rfl (qp rfl (Ac ?_))))
               exact sn [(2011, 2010)] h
              ·refine qw 3 rfl (qp rfl (Ac ?_))
               exact sn [(2011, 2010)] h
             ·refine Bc h (fun h => ?_) fun h => ?_
              ·refine Ah AA rfl (qw 4 rfl (AU Gm KV rfl (Em Gq Eg Gm rfl ?_)))
               refine Gl h fun c30 h => DQ (f := AZ) Gq Gq Eg TB Gm c30 rfl (qe rfl ?_)
               exact sn [(2009, 81)] h
              ·refine Al ?_
               exact sn [(2009, 2011)] h
          ·refine Ah AA rfl (A9 rfl (qm rfl (Ac ?_)))
           exact sn [(2007, 2009)] h
         ·refine AX ?_
          exact sn [(2008, 2007)] h
        ·refine Af hs ?_
         refine AP h (fun v31 => mk [(3, oD (.ptr 3 0)), (5, oD (.own 2012)), (6, iD v1.2), (7, oD (.ptr 7 0)), (8, pD (.val (.int .u8 v7))), (9, pD (.val (.int .u8 v6))), (10, iD v11.2), (15, pD (.sl (p0.fe.map AV))), (16, iD ((p0.fe.length : Int))), (17, iD v1.2), (39, iD ((v4.fr.length : Int))), (40, iD v11.2), (88, bD v31)] [(3, .box (Ay p1)), (7, .box (Bj v4)), (2012, .vec 3 (v19.1.map AZ))]) (fun j31 h => ?_) (fun v31 h => ?_)
         ·refine Ah AA rfl (qf IG rfl (ql QW rfl (qm rfl ?_)))
          refine Ew 85 h rfl (fun h => ?_) fun h => ?_
          ·refine qm rfl (CD rfl (qp rfl (Ac ?_)))
           exact sn [(2012, 2008)] h
          ·refine qw 2 rfl (qp rfl (Ac ?_))
           exact sn [(2012, 2008)] h
         ·refine Bc h (fun h => ?_) fun h => ?_
          ·refine Ah AA rfl (qw 3 rfl (AU Gm KV rfl (Em Gq Eg Gm rfl ?_)))
           refine Gl h fun c34 h => DQ (f := AZ) Gq Gq Eg TB Gm c34 rfl (qe rfl ?_)
           exact sn [(2006, 94)] h
          ·refine Al ?_
           exact sn [(2006, 2012)] h
      ·refine Ah AA rfl (A9 rfl (qm rfl (Ac ?_)))
       exact sn [(2004, 2006)] h
     ·refine AX ?_
      exact sn [(2005, 2004)] h
    ·refine Af hs (Ah AA rfl (A9 rfl (qm rfl (Ac ?_))))
     exact sn [(2001, 2005)] h
  ·refine AX ?_
   exact sn [(2002, 2001)] h
 ·refine Af hs (wq rfl (qm rfl (qe rfl ?_)))
  obtain rfl := sj h
  refine Af (sm [(1000, 2002)] [(4, oD (.own 1000))] [(1000, .vec 3 (v2.map AZ))] rfl rfl) (Ap ?_)
  exact ⟨⟨[_], tm, rfl⟩, ⟨rfl, tv⟩⟩
theorem Ld (N : Nat) (p0 : Aa) (p1 : Ab) (r : Ab × Ai × Int) (h : F2 N p0 p1 = some r) : Ao zA0 32 [.e (.agg (Ae p0)), .e (.agg (Ay p1))] [] (.tup [.agg (Ay r.1), .agg (E0 r.2.1), .one (iC r.2.2)]) := by
 unfold F2 at h
 refine cw (n := 42) (rs := [.cell 4 43, .cell 5 45, .tmp 6]) Tryz.func32 fun w0 S0 => ?_
 refine wq rfl (qb rfl (qb rfl (qz CH rfl (qz Gm rfl (qa rfl (Ac (wq rfl (qL Cz BS rfl (qL A5 AK rfl ?_)))))))))
 refine B4 h fun v1 a1 h => Ax [2001] (QO N p0 p1 v1 a1) aF rfl (qm rfl (qx rfl (qx rfl (qa rfl (qa rfl (Ac (wp rfl (qm rfl (BH rfl (Ac ?_))))))))))
 refine Bc h (fun h => ?_) fun h => ?_
 ·refine wq rfl (AU CH GB rfl (AU Gm KV rfl (qm rfl (qs AK rfl (qs Eg rfl (qe rfl ?_))))))
  obtain rfl := sj h
  refine Af ((Fk 4 _ rfl).trans (sm [] [(4, oD (.ptr 4 0)), (5, oD (.ptr 5 0)), (6, iD v1.2)] [(4, .box [sC ((([] : List Int)).map An), sC ((([] : List Int)).map An), sC ((([] : List Int)).map C3)]), (5, .box [iC 0, iC 0, iC 0])] rfl rfl)) (Ap ?_)
  exact ⟨⟨[_, _, _], ⟨.cellN _ _ _ _ _ _ _ rfl rfl A5 AK rfl rfl (Gn rfl), ⟨.cellN _ _ _ _ _ _ _ rfl rfl I3 Eg rfl rfl (Gn rfl), tm⟩⟩, rfl⟩, tv⟩
 ·refine Al (wp rfl (qm rfl (F0 Hi rfl (qm rfl (Ac ?_)))))
  refine AI (L := ER N p0 v1) h (fun v3 => mk [(2, oD (.ptr 2 0)), (4, oD (.ptr 4 0)), (5, oD (.ptr 5 0)), (23, oD (.own 2002)), (24, iD ((v1.1.length : Int))), (25, iD v3)] [(2, .box (Ae p0)), (4, .box [.pure (.nil0), .pure (.nil0), .pure (.nil0)]), (5, .box [iC 0, iC 0, iC 0]), (2002, .vec 3 (v1.1.map CI))]) (fun v4 => mk [(4, oD (.ptr 4 0)), (5, oD (.ptr 5 0))] [(4, .box [.pure (.nil0), .pure (.nil0), .pure (.nil0)]), (5, .box [iC 0, iC 0, iC 0])]) (fun _ _ => rfl) (sm [(2002, 2001)] _ _ rfl rfl) (fun j3 n3 v3 h => ?_) (fun v4 s h hs => ?_)
  ·unfold ER at h
   refine wq rfl (A0 rfl (Ac (AQ ?_)))
   refine Bc h (fun h => ?_) fun h => ?_
   ·refine Al (AQ (AM (wq rfl ?_)))
    refine BV h fun v6 a6 b6 h => qI Hi AK a6 (Ag b6) rfl (qJ A5 AK (Ag b6) rfl (qz CH rfl (qs AK rfl (Ac (wq rfl (qL Cz BS rfl (qL A5 AK rfl ?_)))))))
    refine B4 h fun v7 a7 h => Ax [2003] (N5 N p0 v6 v7 a7) aT rfl (qa rfl (Ac (wq rfl (qm rfl (F0 Gq rfl (Gk rfl (Ac ?_)))))))
    refine Bc h (fun h => ?_) fun h => ?_
    ·refine wq rfl (qL A5 AK rfl (qm rfl ?_))
     refine BV h fun v9 a9 b9 h => qI Gq Eg a9 (Ag b9) rfl (qJ I3 Eg (Ag b9) rfl (qs AK rfl (qs Eg rfl (qa rfl (AO (by kernel_rfl) ?_)))))
     obtain rfl := sj h
     refine Af (sm [] [(4, oD (.ptr 4 0)), (5, oD (.ptr 5 0)), (6, iD 0)] [(4, .box (Ay v6)), (5, .box (E0 v9))] rfl rfl) (Ap ?_)
     exact ⟨⟨[_, _, _], ⟨.cellN _ _ _ _ _ _ _ rfl rfl A5 AK rfl rfl (Gn rfl), ⟨.cellN _ _ _ _ _ _ _ rfl rfl I3 Eg rfl rfl (Gn rfl), tm⟩⟩, rfl⟩, tv⟩
    ·refine Al (Ah AA rfl (A9 rfl (qm rfl (Ac ?_))))
     exact sn [] h
   ·refine AX ?_
    exact sn [] h
  ·refine Af hs (wq rfl (AU CH GB rfl (AU Gm KV rfl (qs AK rfl (qs Eg rfl (qe rfl ?_))))))
   obtain rfl := sj h
   refine Af ((Fk 4 _ rfl).trans (sm [] [(4, oD (.ptr 4 0)), (5, oD (.ptr 5 0)), (6, iD 15)] [(4, .box [sC ((([] : List Int)).map An), sC ((([] : List Int)).map An), sC ((([] : List Int)).map C3)]), (5, .box [iC 0, iC 0, iC 0])] rfl rfl)) (Ap ?_)
   exact ⟨⟨[_, _, _], ⟨.cellN _ _ _ _ _ _ _ rfl rfl A5 AK rfl rfl (Gn rfl), ⟨.cellN _ _ _ _ _ _ _ rfl rfl I3 Eg rfl rfl (Gn rfl), tm⟩⟩, rfl⟩, tv⟩
theorem ME (N : Nat) (p0 : Aa) (p1 : Ab) (r : Bool × Int) (h : F8 N p0 p1 = some r) : Ao zA0 45 [.e (.agg (Ae p0)), .e (.agg (Ay p1))] [] (.tup [.one (.pure (.val (.bool r.1))), .one (iC r.2)]) := by
 unfold F8 at h
 refine cw (n := 22) (rs := [.tmp 4, .tmp 5]) Tryz.func45 fun w0 S0 => ?_
 refine wq rfl (qb rfl (qb rfl (qa rfl (qa rfl (Ac (wq rfl (qL Cz BS rfl (qL A5 AK rfl ?_))))))))
 refine B4 h fun v1 a1 h => Ax [] (Ld N p0 p1 v1 a1) XG rfl (qm rfl (qx rfl (qx rfl (qx rfl (qz CH rfl (qz Gm rfl (qs AK rfl (qs Eg rfl (qa rfl (Ac (wq rfl (qm rfl (Ac (AM (wq rfl (BZ rfl (qe rfl ?_)))))))))))))))))
 refine Bc h (fun h => ?_) fun h => ?_
 ·refine wq rfl (qa rfl (qe rfl ?_))
  obtain rfl := sj h
  refine Af (sm [] [(4, bD false), (5, iD 0)] [] rfl rfl) (Ap ?_)
  exact ⟨⟨[_, _], ⟨.tmp _ _ rfl, tm⟩, rfl⟩, tv⟩
 ·refine wq rfl (BZ rfl (qe rfl ?_))
  refine Bc h (fun h => ?_) fun h => ?_
  ·refine wq rfl (qa rfl (qe rfl ?_))
   obtain rfl := sj h
   refine Af (sm [] [(4, bD true), (5, iD 0)] [] rfl rfl) (Ap ?_)
   exact ⟨⟨[_, _], ⟨.tmp _ _ rfl, tm⟩, rfl⟩, tv⟩
  ·refine wq rfl (qm rfl (qa rfl (qe rfl ?_)))
   obtain rfl := sj h
   refine Af (sm [] [(4, bD false), (5, iD v1.2.2)] [] rfl rfl) (Ap ?_)
   exact ⟨⟨[_, _], ⟨.tmp _ _ rfl, tm⟩, rfl⟩, tv⟩
theorem Om (N : Nat) (p0 : Ab) (r : ByteArray) (h : Ho N p0 = some r) : Ao zA0 43 [.e (.agg (Ay p0))] [] (pD (.val (.string r))) := by
 unfold Ho at h
 refine cw (n := 53) (rs := [.tmp 2]) Tryz.func43 fun w0 S0 => ?_
 refine wq rfl (qb rfl (qa rfl (Ac (wq rfl (qf CC rfl (ql A2 rfl (AJ Az rfl (MV rfl (qf CG rfl (ql G4 rfl (AJ Dj rfl (A9 rfl ?_))))))))))))
 refine Gl h fun c1 h => Jo (.p rfl) rfl rfl rfl Kk X9 X4 (HO rfl) Zd rfl rfl rfl c1.1 c1.2.1 c1.2.2 (Oa C3 _ ((0 : Int))) ?_
 refine qa rfl (Ac (wp rfl (qf CC rfl (ql A2 rfl (AJ Az rfl (qm rfl (Ac ?_)))))))
 refine AI (L := ED N p0) h (fun v2 => mk [(1, oD (.ptr 1 0)), (3, oD (.own 2001)), (18, iD ((p0.fc.length : Int))), (19, iD v2.2)] [(1, .box (Ay p0)), (2001, .vec 1 (v2.1.map C3))]) (fun v3 => mk [(1, oD (.ptr 1 0)), (3, oD (.own 2002))] [(1, .box (Ay p0)), (2002, .vec 1 (v3.map C3))]) (fun _ _ => rfl) (sm [(2001, 15)] _ _ rfl rfl) (fun j2 n2 v2 h => ?_) (fun v3 s h hs => ?_)
 ·unfold ED at h
  refine wq rfl (A0 rfl (Ac (AQ ?_)))
  refine Bc h (fun h => ?_) fun h => ?_
  ·refine Al (AQ (AM (wq rfl (qm rfl (qa rfl (Ac (Ah AA rfl (qm rfl (qf CC rfl (ql A2 rfl (qm rfl ?_)))))))))))
   refine BV h fun v5 a5 b5 h => qi Az De a5 (Ag b5) rfl (qk Ce rfl (JE ZT bf rfl (qf Bs rfl (ql A2 rfl (qm rfl ?_)))))
   refine BV h fun v6 a6 b6 h => qi Az De a6 (Ag b6) rfl (qk Ce rfl (A9 rfl (JE ZT bf rfl (Em Kk X9 Zd rfl ?_))))
   refine Gl h fun c7 h => DQ (f := C3) Kk Kk X9 X4 Zd c7 rfl (qa rfl (AO (by kernel_rfl) (Ah AA rfl (A9 rfl (qm rfl (Ac ?_))))))
   exact sn [(2001, 37)] h
  ·refine AX ?_
   exact sn [(2002, 2001)] h
 ·refine Af hs (wp rfl (qf CG rfl (ql G4 rfl (AJ Dj rfl (qm rfl (Ac ?_))))))
  refine AI (L := DL N p0) h (fun v8 => mk [(3, oD (.own 2003)), (40, pD (.sl (p0.fd.map C3))), (41, iD ((p0.fd.length : Int))), (42, iD v8.2)] [(2003, .vec 1 (v8.1.map C3))]) (fun v9 => mk [(3, oD (.own 2004))] [(2004, .vec 1 (v9.map C3))]) (fun _ _ => rfl) (sm [(2003, 2002)] _ _ rfl rfl) (fun j8 n8 v8 h => ?_) (fun v9 s h hs => ?_)
  ·unfold DL at h
   refine wq rfl (A0 rfl (Ac (AQ ?_)))
   refine Bc h (fun h => ?_) fun h => ?_
   ·refine Al (AQ (AM (wq rfl ?_)))
    refine BV h fun v11 a11 b11 h => qi Dj F3 a11 (Ag b11) rfl (qk Kj rfl (qa rfl (Ac (Ah AA rfl (qw 2 rfl (Em Kk X9 Zd rfl ?_))))))
    refine Gl h fun c12 h => DQ (f := C3) Kk Kk X9 X4 Zd c12 rfl (qa rfl (Ac (Ah AA rfl (A9 rfl (qm rfl (Ac ?_))))))
    exact sn [(2003, 49)] h
   ·refine AX ?_
    exact sn [(2004, 2003)] h
  ·refine Af hs (wq rfl (qm rfl ?_))
   refine U2 v9 (.p rfl) rfl (U1 C3 _ _ _) ⟨rfl, tv⟩ rfl ZM YF ?_
   refine qa rfl (Ac ?_)
   obtain rfl := sj h
   refine Af (sm [] [(2, pD (.val (.string ((CF v9)))))] [] rfl rfl) (Ap ?_)
   exact ⟨⟨[_], tm, rfl⟩, tv⟩
theorem Sy (N : Nat) (p0 : Aa) (r : (List Ad)) (h : Ig N p0 = some r) : Ao zA0 72 [.e (.agg (Ae p0))] [(3, r.map Aq)] (oD (.own 0)) := by
 unfold Ig at h
 refine cw (n := 54) (rs := [.tmp 2]) Tryz.func72 fun w0 S0 => ?_
 refine wq rfl (qb rfl (qa rfl (Ac (wq rfl (qa rfl (Ac (wp rfl (qf Bt rfl (ql A2 rfl (AJ Az rfl (qm rfl (Ac ?_))))))))))))
 refine AI (L := Dh N p0) h (fun v1 => mk [(1, oD (.ptr 1 0)), (3, oD (.own 2001)), (10, pD (.sl (p0.fb.map An))), (11, iD ((p0.fb.length : Int))), (12, iD v1.2)] [(1, .box (Ae p0)), (2001, .vec 3 (v1.1.map Aq))]) (fun v2 => mk [(1, oD (.ptr 1 0)), (3, oD (.own 2002))] [(1, .box (Ae p0)), (2002, .vec 3 (v2.map Aq))]) (fun _ _ => rfl) ((BP 3 2005 3 rfl rfl rfl).trans (sm [(2001, 2005)] _ _ rfl rfl)) (fun j1 n1 v1 h => ?_) (fun v2 s h hs => ?_)
 ·unfold Dh at h
  refine wq rfl (A0 rfl (Ac (AQ ?_)))
  refine Bc h (fun h => ?_) fun h => ?_
  ·refine Al (AQ (AM (wq rfl (qm rfl ?_))))
   refine BV h fun v4 a4 b4 h => qi Az De a4 (Ag b4) rfl (qk Ce rfl (qa rfl (qa rfl (Ac (wq rfl (qw 2 rfl (Ac ?_)))))))
   refine AI (L := Ey N v1 v4) h (fun v5 => mk [(1, oD (.ptr 1 0)), (3, oD (.own 2003)), (4, iD v1.2), (10, pD (.sl (p0.fb.map An))), (11, iD ((p0.fb.length : Int))), (12, iD v1.2), (17, iD v4), (18, iD v5.2)] [(1, .box (Ae p0)), (2003, .vec 3 (v5.1.map Aq))]) (fun v6 => mk [(1, oD (.ptr 1 0)), (3, oD (.own 2004)), (10, pD (.sl (p0.fb.map An))), (11, iD ((p0.fb.length : Int))), (12, iD v1.2)] [(1, .box (Ae p0)), (2004, .vec 3 (v6.map Aq))]) (fun _ _ => rfl) (sm [(2003, 2001)] _ _ rfl rfl) (fun j5 n5 v5 h => ?_) (fun v6 s h hs => ?_)
   ·unfold Ey at h
    refine wq rfl (A0 rfl (Ac (AQ ?_)))
    refine Bc h (fun h => ?_) fun h => ?_
    ·refine Al (AQ (AM (wq rfl (qm rfl (qa rfl (Ac (Ah AA rfl (qw 3 rfl (AU HR QE rfl (Em CN Do HR rfl ?_))))))))))
     refine Gl h fun c8 h => DQ (f := Aq) CN CN Do Rt HR c8 rfl (qa rfl (Ac (Ah AA rfl (A9 rfl (qm rfl (Ac ?_))))))
     exact sn [(2003, 26)] h
    ·refine AX ?_
     exact sn [(2004, 2003)] h
   ·refine Af hs (Ah AA rfl (A9 rfl (qm rfl (Ac ?_))))
    exact sn [(2001, 2004)] h
  ·refine AX ?_
   exact sn [(2002, 2001)] h
 ·refine Af hs (wp rfl (qf Bt rfl (ql A2 rfl (AJ Az rfl (qm rfl (Ac ?_))))))
  refine AI (L := Cs N p0) h (fun v9 => mk [(1, oD (.ptr 1 0)), (3, oD (.own 2006)), (31, iD ((p0.fb.length : Int))), (32, iD v9.2)] [(1, .box (Ae p0)), (2006, .vec 3 (v9.1.map Aq))]) (fun v10 => mk [(1, oD (.ptr 1 0)), (3, oD (.own 2007))] [(1, .box (Ae p0)), (2007, .vec 3 (v10.map Aq))]) (fun _ _ => rfl) (sm [(2006, 2002)] _ _ rfl rfl) (fun j9 n9 v9 h => ?_) (fun v10 s h hs => ?_)
  ·unfold Cs at h
   refine wq rfl (A0 rfl (Ac (AQ ?_)))
   refine Bc h (fun h => ?_) fun h => ?_
   ·refine Al (AQ (AM (wq rfl (qm rfl (qa rfl (Ac (Ah AA rfl (qw 2 rfl (AU HR QE rfl (Em CN Do HR rfl ?_))))))))))
    refine Gl h fun c12 h => DQ (f := Aq) CN CN Do Rt HR c12 rfl (qa rfl (Ac (Ah AA rfl (A9 rfl (qm rfl (Ac ?_))))))
    exact sn [(2006, 39)] h
   ·refine AX ?_
    exact sn [(2007, 2006)] h
  ·refine Af hs (wp rfl (qf Cg rfl (ql GD rfl (AJ DB rfl (qm rfl (Ac ?_))))))
   refine AI (L := Bu N p0) h (fun v13 => mk [(3, oD (.own 2008)), (43, iD ((p0.fe.length : Int))), (44, iD v13.2)] [(2008, .vec 3 (v13.1.map Aq))]) (fun v14 => mk [(3, oD (.own 2009))] [(2009, .vec 3 (v14.map Aq))]) (fun _ _ => rfl) (sm [(2008, 2007)] _ _ rfl rfl) (fun j13 n13 v13 h => ?_) (fun v14 s h hs => ?_)
   ·unfold Bu at h
    refine wq rfl (A0 rfl (Ac (AQ ?_)))
    refine Bc h (fun h => ?_) fun h => ?_
    ·refine Al (AQ (AM (wq rfl (qm rfl (qa rfl (Ac (Ah AA rfl (qw 2 rfl (AU HR QE rfl (Em CN Do HR rfl ?_))))))))))
     refine Gl h fun c16 h => DQ (f := Aq) CN CN Do Rt HR c16 rfl (qa rfl (Ac (Ah AA rfl (A9 rfl (qm rfl (Ac ?_))))))
     exact sn [(2008, 51)] h
    ·refine AX ?_
     exact sn [(2009, 2008)] h
   ·refine Af hs (wq rfl (qm rfl (qe rfl ?_)))
    obtain rfl := sj h
    refine Af (sm [(1000, 2009)] [(2, oD (.own 1000))] [(1000, .vec 3 (v14.map Aq))] rfl rfl) (Ap ?_)
    exact ⟨⟨[_], tm, rfl⟩, ⟨rfl, tv⟩⟩
theorem LG (N : Nat) (p0 : Ab) (r : Ab) (h : FE N p0 = some r) : Ao zA0 48 [.e (.agg (Ay p0))] [(1, r.fc.map An), (1, r.fa.map An), (1, r.fd.map C3)] (.e (.agg [.own 0, .own 1, .own 2])) := by
 unfold FE at h
 refine cw (n := 13) (rs := [.cell 2 43]) Tryz.func48 fun w0 S0 => ?_
 refine wq rfl (qb rfl (qz CH rfl (Ac (wq rfl (qf CC rfl (ql A2 rfl ?_))))))
 refine B4 h fun v1 a1 h => Ax [2001] (D7 N p0.fc v1 a1) Vt rfl (qf Bs rfl (ql A2 rfl ?_))
 refine B4 h fun v2 a2 h => Ax [2002] (D7 N p0.fa v2 a2) Vt rfl (qf CG rfl (ql G4 rfl ?_))
 refine B4 h fun v3 a3 h => Ax [2003] (FL N p0.fd v3 a3) ZQ rfl (AU CH GB rfl (qs AK rfl (AO (by kernel_rfl) ?_)))
 obtain rfl := sj h
 refine Af (sm [(1000, 2001), (1001, 2002), (1002, 2003)] [(2, oD (.ptr 2 0))] [(2, .box [.own 1000, .own 1001, .own 1002]), (1000, .vec 1 (v1.map An)), (1001, .vec 1 (v2.map An)), (1002, .vec 1 (v3.map C3))] rfl rfl) (Ap ?_)
 exact ⟨⟨[_], ⟨.cellN _ _ _ _ _ _ _ rfl rfl A5 AK rfl rfl (Gn rfl), tv⟩, rfl⟩, ⟨rfl, rfl, rfl, tv⟩⟩
theorem LN (N : Nat) (p0 : Av) (r : Bool) (h : FP N p0 = some r) : Ao zA0 105 [.e (.agg (Bj p0))] [] (bD r) := by
 unfold FP at h
 refine cw (n := 11) (rs := [.tmp 2]) Tryz.func105 fun w0 S0 => ?_
 refine wq rfl (qb rfl (qe rfl ?_))
 refine AP h (fun v1 => mk [(2, bD v1)] []) (fun j1 h => ?_) (fun v1 h => ?_)
 ·refine Ah AA rfl (qf FY rfl (ql Ce rfl (BZ rfl (qm rfl ?_))))
  refine Ew 6 h rfl (fun h => ?_) fun h => ?_
  ·refine qw 3 rfl (qp rfl (qe rfl ?_))
   exact sn [] h
  ·refine qf FY rfl (ql Ce rfl (BZ rfl (qp rfl (qe rfl ?_))))
   exact sn [] h
 ·obtain rfl := sj h
  refine Af (sm [] [(2, bD v1)] [] rfl rfl) (Ap ?_)
  exact ⟨⟨[_], tm, rfl⟩, tv⟩
theorem Qk (N : Nat) (p0 : Aa) (p1 : Ab) (p2 : Ad) (r : Bool × (List Int) × (List Int)) (h : H4 N p0 p1 p2 = some r) : EP zA0 95 [.e (.agg (Ae p0)), oD (.ptr 90000 0), .e (.agg (Dk p2))] [(.box [.own 90001, .own 90002, .own 90003], .box [.own 90001, .own 90002, .own 90003]), (.vec 1 (p1.fc.map An), .vec 1 (p1.fc.map An)), (.vec 1 (p1.fa.map An), .vec 1 (r.2.1.map An)), (.vec 1 (p1.fd.map C3), .vec 1 (r.2.2.map C3))] [] (bD r.1) := by
 unfold H4 at h
 refine E3 (n := 70) (rs := [.tmp 6]) Tryz.func95 rfl rfl rfl (HO rfl) (HO rfl) rfl rfl (HO rfl) rfl (HO rfl) fun w0 S0 GL => ?_
 refine Af (sm [] [(0, .e (.agg (Ae p0))), (1, oD (.ptr 90000 0)), (2, .e (.agg (Dk p2)))] [(90000, .box [.own 90001, .own 90002, .own 90003]), (90001, .vec 1 (p1.fc.map An)), (90002, .vec 1 (p1.fa.map An)), (90003, .vec 1 (p1.fd.map C3))] rfl rfl) (wq rfl (qb rfl (qb rfl (qa rfl (Ac (AQ ?_))))))
 refine AP h (fun v1 => mk [(1, oD (.ptr 90000 0)), (3, oD (.ptr 3 0)), (5, oD (.ptr 5 0)), (30, bD v1)] [(3, .box (Ae p0)), (5, .box (Dk p2)), (90000, .box [.own 90001, .own 90002, .own 90003]), (90001, .vec 1 (p1.fc.map An)), (90002, .vec 1 (p1.fa.map An)), (90003, .vec 1 (p1.fd.map C3))]) (fun j1 h => ?_) (fun v1 h => ?_)
 ·refine Ah AA rfl (qm rfl (Wt rfl (qf Bs rfl (ql A2 rfl (qf Fe rfl (ql Ce rfl ?_))))))
  refine BV h fun v2 a2 b2 h => qI Az De a2 (Ag b2) rfl (qj Ce (Ag b2) rfl (EO rfl (qm rfl ?_)))
  refine Ew 18 h rfl (fun h => ?_) fun h => ?_
  ·refine qw 11 rfl (qp rfl (AO (by kernel_rfl) ?_))
   exact sn [] h
  ·refine qm rfl (Wt rfl (qf CC rfl (ql A2 rfl (qf Fe rfl (ql Ce rfl ?_)))))
   refine BV h fun v4 a4 b4 h => qI Az De a4 (Ag b4) rfl (qj Ce (Ag b4) rfl (qf Ha rfl (ql Ce rfl (BZ rfl (qp rfl (AO (by kernel_rfl) ?_))))))
   exact sn [] h
 ·refine Bc h (fun h => ?_) fun h => ?_
  ·refine wq rfl (qe rfl ?_)
   obtain rfl := sj h
   refine Af (sm [] [(6, bD false)] [(90000, .box [.own 90001, .own 90002, .own 90003]), (90001, .vec 1 (p1.fc.map An)), (90002, .vec 1 (p1.fa.map An)), (90003, .vec 1 (p1.fd.map C3))] rfl rfl) (Ap ?_)
   exact ⟨⟨[_], tm, rfl⟩, ⟨rfl, rfl, rfl, rfl, tv⟩, tv⟩
  ·refine Al (wq rfl (qm rfl (Wt rfl (qf Bs rfl (ql A2 rfl (qf Fe rfl (ql Ce rfl (qf Ha rfl (ql Ce rfl ?_)))))))))
   refine BV h fun v6 a6 b6 h => qI Az De a6 (Ag b6) rfl ?_
   refine DV rfl rfl rfl rfl (Ag b6) rfl De rfl (HO rfl) (DK An p1.fa _ p2.fk) ?_
   refine AO (by kernel_rfl) (wp rfl (qf Cg rfl (ql GD rfl (AJ DB rfl (qm rfl (Ac ?_))))))
   refine AI (L := DU N p0 p2) h (fun v7 => mk [(1, oD (.ptr 90000 0)), (5, oD (.ptr 5 0)), (41, pD (.sl (p0.fe.map AV))), (42, iD ((p0.fe.length : Int))), (43, iD v7.2)] [(5, .box (Dk p2)), (90000, .box [.own 90001, .own 90002, .own 90003]), (90001, .vec 1 (p1.fc.map An)), (90002, .vec 1 ((p1.fa.set ((p2.fi).toNat) p2.fk).map An)), (90003, .vec 1 (v7.1.map C3))]) (fun v8 => mk [] [(90000, .box [.own 90001, .own 90002, .own 90003]), (90001, .vec 1 (p1.fc.map An)), (90002, .vec 1 ((p1.fa.set ((p2.fi).toNat) p2.fk).map An)), (90003, .vec 1 (v8.map C3))]) (fun _ _ => rfl) (sm [] _ _ rfl rfl) (fun j7 n7 v7 h => ?_) (fun v8 s h hs => ?_)
   ·unfold DU at h
    refine wq rfl (A0 rfl (Ac (AQ ?_)))
    refine Bc h (fun h => ?_) fun h => ?_
    ·refine Al ?_
     refine AP h (fun v10 => mk [(1, oD (.ptr 90000 0)), (5, oD (.ptr 5 0)), (41, pD (.sl (p0.fe.map AV))), (42, iD ((p0.fe.length : Int))), (43, iD v7.2)] [(5, .box (Dk p2)), (90000, .box [.own 90001, .own 90002, .own 90003]), (90001, .vec 1 (p1.fc.map An)), (90002, .vec 1 ((p1.fa.set ((p2.fi).toNat) p2.fk).map An)), (90003, .vec 1 (v10.map C3))]) (fun j10 h => ?_) (fun v10 h => ?_)
     ·refine AM (wq rfl (qm rfl ?_))
      refine BV h fun v11 a11 b11 h => qi DB DN a11 (Ag b11) rfl (qK Hp DN rfl (qz JK rfl (qa rfl (qs DN rfl (Ac ?_)))))
      refine AP h (fun v12 => mk [(1, oD (.ptr 90000 0)), (5, oD (.ptr 5 0)), (7, iD v7.2), (41, pD (.sl (p0.fe.map AV))), (42, iD ((p0.fe.length : Int))), (43, iD v7.2), (56, bD v12)] [(5, .box (Dk p2)), (90000, .box [.own 90001, .own 90002, .own 90003]), (90001, .vec 1 (p1.fc.map An)), (90002, .vec 1 ((p1.fa.set ((p2.fi).toNat) p2.fk).map An)), (90003, .vec 1 (v7.1.map C3))]) (fun j12 h => ?_) (fun v12 h => ?_)
      ·refine Ah AA rfl (qf Dd rfl (ql Ce rfl (qf Fe rfl (ql Ce rfl (BZ rfl (qm rfl ?_))))))
       refine Ew 53 h rfl (fun h => ?_) fun h => ?_
       ·refine qL Hp DN rfl ?_
        refine B4 h fun v14 a14 h => Ax [] (LN N v11 v14 a14) Xq rfl (qp rfl (Ac ?_))
        exact sn [] h
       ·refine qw 2 rfl (qp rfl (Ac ?_))
        exact sn [] h
      ·refine Bc h (fun h => ?_) fun h => ?_
       ·refine Ah AA rfl (qm rfl (Wt rfl (qf CG rfl (ql G4 rfl (qm rfl ?_)))))
        refine BV h fun v16 a16 b16 h => qI Dj F3 a16 (Ag b16) rfl (qj Kj (Ag b16) rfl (qf Ha rfl (ql Ce rfl ?_)))
        refine Gl h fun c17 h => Jl rfl c17 (Va rfl ?_)
        refine BV h fun v18 a18 b18 h => qI Dj F3 a18 (Ag b18) rfl ?_
        refine DV rfl rfl rfl rfl (Ag b18) rfl F3 rfl (HO rfl) (DK C3 v7.1 _ ((O9 .u8 v16 ((D3 .u8 1 p2.fk))))) ?_
        refine AO (by kernel_rfl) ?_
        exact sn [] h
       ·refine Al ?_
        exact sn [] h
     ·refine Ah AA rfl (A9 rfl (qm rfl (Ac ?_)))
      exact sn [] h
    ·refine AX ?_
     exact sn [] h
   ·refine Af hs (wq rfl (qe rfl ?_))
    obtain rfl := sj h
    refine Af (sm [] [(6, bD true)] [(90000, .box [.own 90001, .own 90002, .own 90003]), (90001, .vec 1 (p1.fc.map An)), (90002, .vec 1 ((p1.fa.set ((p2.fi).toNat) p2.fk).map An)), (90003, .vec 1 (v8.map C3))] rfl rfl) (Ap ?_)
    exact ⟨⟨[_], tm, rfl⟩, ⟨rfl, rfl, rfl, rfl, tv⟩, tv⟩
theorem OX (N : Nat) (p0 : Ab) (p1 : Int) (r : Int) (h : F4 N p0 p1 = some r) : Ao zA0 106 [.e (.agg (Ay p0)), iD p1] [] (pD (.val (.int .u8 r))) := by
 unfold F4 at h
 refine cw (n := 27) (rs := [.tmp 4]) Tryz.func106 fun w0 S0 => ?_
 refine wq rfl (qb rfl (qa rfl (Ac (wq rfl (qf CC rfl (ql A2 rfl (qm rfl ?_)))))))
 refine BV h fun v1 a1 b1 h => qi Az De a1 (Ag b1) rfl (qk Ce rfl ?_)
 refine Gl h fun c2 h => Jl rfl c2 (qe rfl ?_)
 refine AP h (fun v3 => mk [(5, pD (.val (.int .u8 v3)))] []) (fun j3 h => ?_) (fun v3 h => ?_)
 ·refine wq rfl (qf Bs rfl (ql A2 rfl (qm rfl ?_)))
  refine BV h fun v4 a4 b4 h => qi Az De a4 (Ag b4) rfl (qk Ce rfl (EO rfl (Ac ?_)))
  refine Bc h (fun h => ?_) fun h => ?_
  ·refine Ah AA rfl (qm rfl (qf Bs rfl (ql A2 rfl (qm rfl ?_))))
   refine BV h fun v6 a6 b6 h => qi Az De a6 (Ag b6) rfl (qk Ce rfl ?_)
   refine Gl h fun c7 h => Jl rfl c7 (Va rfl (qe rfl ?_))
   exact sn [] h
  ·refine Al ?_
   exact sn [] h
 ·refine wq rfl (qm rfl (qe rfl ?_))
  obtain rfl := sj h
  refine Af (sm [] [(4, pD (.val (.int .u8 v3)))] [] rfl rfl) (Ap ?_)
  exact ⟨⟨[_], tm, rfl⟩, tv⟩
theorem I9 (N : Nat) (p0 : Int) (r : Int) (h : C7 N p0 = some r) : Ao zA0 112 [pD (.val (.int .u8 p0))] [] (iD r) := by
 unfold C7 at h
 refine cw (n := 6) (rs := [.tmp 2]) Tryz.func112 fun w0 S0 => ?_
 refine wq rfl (qa rfl (Ac (wq rfl (qm rfl ?_))))
 refine B4 h fun v1 a1 h => TJ (.p rfl) rfl rfl YF a1 ?_
 refine JE Yx Xj rfl (qe rfl ?_)
 obtain rfl := sj h
 refine Af (sm [] [(2, iD ((wI .i64 v1)))] [] rfl rfl) (Ap ?_)
 exact ⟨⟨[_], tm, rfl⟩, tv⟩
theorem MR (N : Nat) (p0 : Av) (p1 : Int) (p2 : Int) (r : Bool) (h : FZ N p0 p1 p2 = some r) : Ao zA0 107 [.e (.agg (Bj p0)), pD (.val (.int .u8 p1)), iD p2] [] (bD r) := by
 unfold FZ at h
 refine cw (n := 25) (rs := [.tmp 6]) Tryz.func107 fun w0 S0 => ?_
 refine wq rfl (qb rfl (qa rfl (Ac (wp rfl (qm rfl (qe rfl ?_))))))
 refine AI (L := DF N p0 p2) h (fun v1 => mk [(2, iD p2), (3, oD (.ptr 3 0)), (7, pD (.val (.int .u8 v1)))] [(3, .box (Bj p0))]) (fun v2 => mk [] []) (fun _ _ => rfl) (sm [] _ _ rfl rfl) (fun j1 n1 v1 h => ?_) (fun v2 s h hs => ?_)
 ·unfold DF at h
  refine wp rfl (qm rfl (BH rfl (Ac ?_)))
  refine Bc h (fun h => ?_) fun h => ?_
  ·refine Al (AQ (AM (wq rfl (qf GG rfl (ql Kc rfl (qm rfl ?_))))))
   refine B4 h fun v4 a4 h => Ax [] (I9 N v1 v4 a4) Zn rfl ?_
   refine BV h fun v5 a5 b5 h => qi FO Lq a5 (Ag b5) rfl (qk L6 rfl (qm rfl ?_))
   refine BV h fun v6 a6 b6 h => qi Fa Nb a6 (Ag b6) rfl (qk QW rfl (CD rfl (AO (by kernel_rfl) ?_)))
   refine Bc h (fun h => ?_) fun h => ?_
   ·refine wq rfl (qe rfl ?_)
    obtain rfl := sj h
    refine Af (sm [] [(6, bD false)] [] rfl rfl) (Ap ?_)
    exact ⟨⟨[_], tm, rfl⟩, tv⟩
   ·refine Al (Ah AA rfl (qw 2 rfl (QX rfl (NT rfl (qe rfl ?_)))))
    exact sn [] h
  ·refine AX ?_
   exact sn [] h
 ·refine Af hs (wq rfl (qe rfl ?_))
  obtain rfl := sj h
  refine Af (sm [] [(6, bD true)] [] rfl rfl) (Ap ?_)
  exact ⟨⟨[_], tm, rfl⟩, tv⟩
theorem Qg (N : Nat) (p0 : Aa) (p1 : Ab) (p2 : Int) (r : Bool × (List Int)) (h : GX N p0 p1 p2 = some r) : EP zA0 96 [.e (.agg (Ae p0)), oD (.ptr 90000 0), iD p2] [(.box [.own 90001, .own 90002, .own 90003], .box [.own 90001, .own 90002, .own 90003]), (.vec 1 (p1.fc.map An), .vec 1 (p1.fc.map An)), (.vec 1 (p1.fa.map An), .vec 1 (p1.fa.map An)), (.vec 1 (p1.fd.map C3), .vec 1 (r.2.map C3))] [] (bD r.1) := by
 unfold GX at h
 refine E3 (n := 68) (rs := [.tmp 6]) Tryz.func96 rfl rfl rfl (HO rfl) (HO rfl) rfl rfl (HO rfl) rfl (HO rfl) fun w0 S0 GL => ?_
 refine Af (sm [] [(0, .e (.agg (Ae p0))), (1, oD (.ptr 90000 0)), (2, iD p2)] [(90000, .box [.own 90001, .own 90002, .own 90003]), (90001, .vec 1 (p1.fc.map An)), (90002, .vec 1 (p1.fa.map An)), (90003, .vec 1 (p1.fd.map C3))] rfl rfl) (wq rfl (qb rfl (qa rfl (Ac (wq rfl (qf Cg rfl (ql GD rfl (qm rfl ?_))))))))
 refine BV h fun v1 a1 b1 h => qi DB DN a1 (Ag b1) rfl (qK Hp DN rfl (qz JK rfl (qs DN rfl (Ac (wp rfl (qL Hp DN rfl ?_))))))
 refine B4 h fun v2 a2 h => Ax [] (LN N v1 v2 a2) Xq rfl (CD rfl (Ac ?_))
 refine Bc h (fun h => ?_) fun h => ?_
 ·refine wq rfl (qe rfl ?_)
  obtain rfl := sj h
  refine Af (sm [] [(6, bD false)] [(90000, .box [.own 90001, .own 90002, .own 90003]), (90001, .vec 1 (p1.fc.map An)), (90002, .vec 1 (p1.fa.map An)), (90003, .vec 1 (p1.fd.map C3))] rfl rfl) (Ap ?_)
  exact ⟨⟨[_], tm, rfl⟩, ⟨rfl, rfl, rfl, rfl, tv⟩, tv⟩
 ·refine Al (wq rfl (qm rfl (Wt rfl (qL A5 AK rfl (qf Dd rfl (ql Ce rfl ?_))))))
  refine B4 h fun v4 a4 h => Ej [] [90001, 90002, 90003] (OX N p1 v1.fg v4 a4) YM CR rfl (qa rfl (AO (by kernel_rfl) (wq rfl (qm rfl (Wt rfl (qf CG rfl (ql G4 rfl (qm rfl ?_))))))))
  refine BV h fun v5 a5 b5 h => qI Dj F3 a5 (Ag b5) rfl (qj Kj (Ag b5) rfl (qm rfl (I1 rfl (qa rfl (Ac (AQ ?_))))))
  refine AP h (fun v6 => mk [(1, oD (.ptr 90000 0)), (2, iD p2), (8, pD (.val (.int .u8 v4))), (60, bD v6)] [(90000, .box [.own 90001, .own 90002, .own 90003]), (90001, .vec 1 (p1.fc.map An)), (90002, .vec 1 (p1.fa.map An)), (90003, .vec 1 (p1.fd.map C3))]) (fun j6 h => ?_) (fun v6 h => ?_)
  ·refine Ah AA rfl (qm rfl (Wt rfl (qf CG rfl (ql G4 rfl (qm rfl ?_)))))
   refine BV h fun v7 a7 b7 h => qI Dj F3 a7 (Ag b7) rfl (qj Kj (Ag b7) rfl (qm rfl (BZ rfl (qm rfl ?_))))
   refine Ew 42 h rfl (fun h => ?_) fun h => ?_
   ·refine qw 4 rfl (qu rfl (qu rfl (qu rfl (qu rfl (qu rfl (qu rfl (qu rfl (qu rfl (qu rfl (qu rfl (qu rfl (qu rfl (qn rfl (qp rfl (AO (by kernel_rfl) ?_)))))))))))))))
    exact sn [] h
   ·refine qf FY rfl (ql Ce rfl (BZ rfl (qm rfl ?_)))
    refine Ew 46 h rfl (fun h => ?_) fun h => ?_
    ·refine qL Hp DN rfl (qw 2 rfl (Wt rfl (qf CC rfl (ql A2 rfl (qf Dd rfl (ql Ce rfl ?_))))))
     refine BV h fun v10 a10 b10 h => qI Az De a10 (Ag b10) rfl (qj Ce (Ag b10) rfl ?_)
     refine B4 h fun v11 a11 h => Ax [] (MR N v1 ((Dn .u8 v5 v4)) v10 v11 a11) Y8 rfl (CD rfl (qp rfl (qp rfl (AO (by kernel_rfl) ?_))))
     exact sn [] h
    ·refine qw 12 rfl (qp rfl (qp rfl (AO (by kernel_rfl) ?_)))
     exact sn [] h
  ·refine Bc h (fun h => ?_) fun h => ?_
   ·refine wq rfl (qe rfl ?_)
    obtain rfl := sj h
    refine Af (sm [] [(6, bD false)] [(90000, .box [.own 90001, .own 90002, .own 90003]), (90001, .vec 1 (p1.fc.map An)), (90002, .vec 1 (p1.fa.map An)), (90003, .vec 1 (p1.fd.map C3))] rfl rfl) (Ap ?_)
    exact ⟨⟨[_], tm, rfl⟩, ⟨rfl, rfl, rfl, rfl, tv⟩, tv⟩
   ·refine Al (wq rfl (qm rfl (Wt rfl (qf CG rfl (ql G4 rfl (qw 2 rfl ?_))))))
    refine BV h fun v13 a13 b13 h => qI Dj F3 a13 (Ag b13) rfl ?_
    refine DV rfl rfl rfl rfl (Ag b13) rfl F3 rfl (HO rfl) (DK C3 p1.fd _ v4) ?_
    refine Ac (wq rfl (qe rfl ?_))
    obtain rfl := sj h
    refine Af (sm [] [(6, bD true)] [(90000, .box [.own 90001, .own 90002, .own 90003]), (90001, .vec 1 (p1.fc.map An)), (90002, .vec 1 (p1.fa.map An)), (90003, .vec 1 ((p1.fd.set ((p2).toNat) v4).map C3))] rfl rfl) (Ap ?_)
    exact ⟨⟨[_], tm, rfl⟩, ⟨rfl, rfl, rfl, rfl, tv⟩, tv⟩
theorem MN (N : Nat) (p0 : Aa) (p1 : Ab) (p2 : Ad) (r : Ab × Bool) (h : Fu N p0 p1 p2 = some r) : Ao zA0 74 [.e (.agg (Ae p0)), .e (.agg (Ay p1)), .e (.agg (Dk p2))] [(1, r.1.fc.map An), (1, r.1.fa.map An), (1, r.1.fd.map C3)] (.tup [.agg [.own 0, .own 1, .own 2], .one (.pure (.val (.bool r.2)))]) := by
 unfold Fu at h
 refine cw (n := 51) (rs := [.cell 6 43, .tmp 7]) Tryz.func74 fun w0 S0 => ?_
 refine wq rfl (qb rfl (qb rfl (qb rfl (qz CH rfl (qa rfl (Ac (wq rfl (qL A5 AK rfl ?_))))))))
 refine B4 h fun v1 a1 h => Ax [2001, 2002, 2003] (LG N p1 v1 a1) YZ rfl (qz CH rfl (qs AK rfl (Ac (wp rfl (qf Fq rfl (ql Ce rfl (Ac (AM (wq rfl (BZ rfl (qe rfl ?_)))))))))))
 refine Bc h (fun h => ?_) fun h => ?_
 ·refine wq rfl (qL A5 AK rfl (qL Cz BS rfl (qL Hr Do rfl ?_)))
  refine B4 h fun v3 a3 h => Lk (ds0 := [_, _, _]) [8, 2001, 2002, 2003] [] [false, false, true, true] (Qk N p0 v1 p2 v3 a3) (.p rfl) ax rfl ⟨rfl, rfl, rfl, tv⟩ rfl rfl (by decide) ⟨rfl, rfl, rfl, rfl, tv⟩ rfl (GA rfl) tv ⟨(fun _ => rfl), (fun _ => rfl), (fun h => by cases h), (fun h => by cases h), tv⟩ rfl rfl rfl ?_
  refine qs AK rfl (qa rfl (AO (by kernel_rfl) ?_))
  obtain rfl := sj h
  refine Af (sm [(1000, 2001), (1001, 2002), (1002, 2003)] [(6, oD (.ptr 6 0)), (7, bD v3.1)] [(6, .box [.own 1000, .own 1001, .own 1002]), (1000, .vec 1 (v1.fc.map An)), (1001, .vec 1 (v3.2.1.map An)), (1002, .vec 1 (v3.2.2.map C3))] rfl rfl) (Ap ?_)
  exact ⟨⟨[_, _], ⟨.cellN _ _ _ _ _ _ _ rfl rfl A5 AK rfl rfl (Gn rfl), tm⟩, rfl⟩, ⟨rfl, rfl, rfl, tv⟩⟩
 ·refine wq rfl (BZ rfl (qe rfl ?_))
  refine Bc h (fun h => ?_) fun h => ?_
  ·refine wq rfl (qL A5 AK rfl (qL Cz BS rfl (qf Fe rfl (ql Ce rfl ?_))))
   refine B4 h fun v5 a5 h => Lk (ds0 := [_, _, _]) [8, 2001, 2002, 2003] [] [false, false, false, true] (Qg N p0 v1 p2.fi v5 a5) (.p rfl) aI rfl ⟨rfl, rfl, rfl, tv⟩ rfl rfl (by decide) ⟨rfl, rfl, rfl, rfl, tv⟩ rfl (GA rfl) tv ⟨(fun _ => rfl), (fun _ => rfl), (fun _ => rfl), (fun h => by cases h), tv⟩ rfl rfl rfl ?_
   refine qs AK rfl (qa rfl (AO (by kernel_rfl) ?_))
   obtain rfl := sj h
   refine Af (sm [(1000, 2001), (1001, 2002), (1002, 2003)] [(6, oD (.ptr 6 0)), (7, bD v5.1)] [(6, .box [.own 1000, .own 1001, .own 1002]), (1000, .vec 1 (v1.fc.map An)), (1001, .vec 1 (v1.fa.map An)), (1002, .vec 1 (v5.2.map C3))] rfl rfl) (Ap ?_)
   exact ⟨⟨[_, _], ⟨.cellN _ _ _ _ _ _ _ rfl rfl A5 AK rfl rfl (Gn rfl), tm⟩, rfl⟩, ⟨rfl, rfl, rfl, tv⟩⟩
  ·refine Al (wq rfl (qf Bs rfl (ql A2 rfl (qf Fe rfl (ql Ce rfl ?_)))))
   refine BV h fun v6 a6 b6 h => qI Az De a6 (Ag b6) rfl (qj Ce (Ag b6) rfl (qa rfl (Ac (wp rfl (qm rfl (A0 rfl (Ac ?_)))))))
   refine Bc h (fun h => ?_) fun h => ?_
   ·refine wq rfl (qL A5 AK rfl (qs AK rfl (qe rfl ?_)))
    obtain rfl := sj h
    refine Af (sm [(1000, 2001), (1001, 2002), (1002, 2003)] [(6, oD (.ptr 6 0)), (7, bD false)] [(6, .box [.own 1000, .own 1001, .own 1002]), (1000, .vec 1 (v1.fc.map An)), (1001, .vec 1 (v1.fa.map An)), (1002, .vec 1 (v1.fd.map C3))] rfl rfl) (Ap ?_)
    exact ⟨⟨[_, _], ⟨.cellN _ _ _ _ _ _ _ rfl rfl A5 AK rfl rfl (Gn rfl), tm⟩, rfl⟩, ⟨rfl, rfl, rfl, tv⟩⟩
   ·refine Al (wq rfl (qf Bs rfl (ql A2 rfl (qf Fe rfl (ql Ce rfl ?_)))))
    refine BV h fun v8 a8 b8 h => qI Az De a8 (Ag b8) rfl ?_
    refine DV rfl rfl rfl rfl (Ag b8) rfl De rfl (HO rfl) (DK An v1.fa _ ((-1))) ?_
    refine Ac ?_
    refine AP h (fun v9 => mk [(6, oD (.ptr 6 0)), (8, oD (.ptr 8 0))] [(6, .box [.pure (.nil0), .pure (.nil0), .pure (.nil0)]), (8, .box [.own 2004, .own 2005, .own 2006]), (2004, .vec 1 (v9.map An)), (2005, .vec 1 ((v1.fa.set ((p2.fi).toNat) ((-1))).map An)), (2006, .vec 1 (v1.fd.map C3))]) (fun j9 h => ?_) (fun v9 h => ?_)
    ·refine wq rfl (qf Fq rfl (ql Ce rfl (BZ rfl (Ac ?_))))
     refine Bc h (fun h => ?_) fun h => ?_
     ·refine Ah AA rfl (qf CC rfl (ql A2 rfl (qf Fe rfl (ql Ce rfl (qm rfl ?_)))))
      refine BV h fun v11 a11 b11 h => qI Az De a11 (Ag b11) rfl ?_
      refine DV rfl rfl rfl rfl (Ag b11) rfl De rfl (HO rfl) (DK An v1.fc _ v6) ?_
      refine Ac ?_
      exact sn [(2004, 2001), (2005, 2002), (2006, 2003)] h
     ·refine Al ?_
      exact sn [(2004, 2001), (2005, 2002), (2006, 2003)] h
    ·refine wq rfl (qL A5 AK rfl (qs AK rfl (qe rfl ?_)))
     obtain rfl := sj h
     refine Af (sm [(1000, 2004), (1001, 2005), (1002, 2006)] [(6, oD (.ptr 6 0)), (7, bD true)] [(6, .box [.own 1000, .own 1001, .own 1002]), (1000, .vec 1 (v9.map An)), (1001, .vec 1 ((v1.fa.set ((p2.fi).toNat) ((-1))).map An)), (1002, .vec 1 (v1.fd.map C3))] rfl rfl) (Ap ?_)
     exact ⟨⟨[_, _], ⟨.cellN _ _ _ _ _ _ _ rfl rfl A5 AK rfl rfl (Gn rfl), tm⟩, rfl⟩, ⟨rfl, rfl, rfl, tv⟩⟩
theorem Nk (N : Nat) (p0 : Ad) (p1 : List Int) (p2 : List Int) (p3 : List Int) (p4 : List Av) (p5 : List Int) (p6 : List Int) (p7 : List Int) (r : Bool) (h : DC N p0 p1 p2 p3 p4 p5 p6 p7 = some r) : Ao zA0 73 [.e (.agg (Dk p0)), oD (.rop [.sl (p1.map An), .sl (p2.map An), .sl (p3.map An), .sl (p4.map AV)]), oD (.rop [.sl (p5.map An), .sl (p6.map An), .sl (p7.map C3)])] [] (bD r) := by
 unfold DC at h
 refine cw (n := 16) (rs := [.tmp 4]) Tryz.func73 fun w0 S0 => ?_
 refine wq rfl (qb rfl (qa rfl (Ac (wq rfl (qK Cz BS rfl (qK A5 AK rfl (qL Hr Do rfl ?_)))))))
 refine B4 h fun v1 a1 h => Ax [2001, 2002, 2003] (MN N ((Aa.mk p1 p2 p3 p4)) ((Ab.mk p5 p6 p7)) p0 v1 a1) YD rfl (qm rfl (qx rfl (qx rfl (qz CH rfl (qs AK rfl (qa rfl (Ac (wq rfl (qm rfl (CD rfl (qe rfl ?_)))))))))))
 obtain rfl := sj h
 refine Af (sm [] [(4, bD ((!v1.2)))] [] rfl rfl) (Ap ?_)
 exact ⟨⟨[_], tm, rfl⟩, tv⟩
theorem GO (N : Nat) (p0 : List Ad) (p1 : Ad → Option Bool) (r : Int) (h : BI N p0 p1 = some r) : Ao zA0 94 [pD (.sl (p0.map Aq)), oD (.clo (Jd (NX true Aq) tB p1))] [] (iD r) := by
 unfold BI at h
 refine cw (n := 19) (rs := [.tmp 4]) Tryz.func94 fun w0 S0 => ?_
 refine wq rfl (qa rfl (Ac (wp rfl (qm rfl (AJ CN rfl (qm rfl (Ac ?_)))))))
 refine AI (L := A1 N p0 p1) h (fun v1 => mk [(0, pD (.sl (p0.map Aq))), (1, oD (.clo (Jd (NX true Aq) tB p1))), (7, iD ((p0.length : Int))), (8, iD v1)] []) (fun v2 => mk [] []) (fun _ _ => rfl) (sm [] _ _ rfl rfl) (fun j1 n1 v1 h => ?_) (fun v2 s h hs => ?_)
 ·unfold A1 at h
  refine wq rfl (A0 rfl (Ac (AQ ?_)))
  refine Bc h (fun h => ?_) fun h => ?_
  ·refine Al (AQ (AM (wq rfl (qm rfl (qa rfl (Ac (wq rfl (qw 3 rfl ?_))))))))
   refine BV h fun v4 a4 b4 h => qi CN Do a4 (Ag b4) rfl (qK Hr Do rfl ?_)
   refine B4 h fun v5 a5 h => MU (ds0 := [_]) (ar := (NX true Aq) v4) (.p rfl) rfl rfl ⟨rfl, tv⟩ rfl rfl rfl (Mf (MW _ _ OQ) a5) ?_
   refine Ac ?_
   refine Bc h (fun h => ?_) fun h => ?_
   ·refine wq rfl (qm rfl (qe rfl ?_))
    obtain rfl := sj h
    refine Af (sm [] [(4, iD v1)] [] rfl rfl) (Ap ?_)
    exact ⟨⟨[_], tm, rfl⟩, tv⟩
   ·refine Al (Ah AA rfl (A9 rfl (qm rfl (Ac ?_))))
    exact sn [] h
  ·refine AX ?_
   exact sn [] h
 ·refine Af hs (wq rfl (qe rfl ?_))
  obtain rfl := sj h
  refine Af (sm [] [(4, iD ((-1)))] [] rfl rfl) (Ap ?_)
  exact ⟨⟨[_], tm, rfl⟩, tv⟩
theorem GH (N : Nat) (p0 : List Ad) (p1 : Ad → Option Bool) (r : Nat × (List Ad)) (h : BG N p0 p1 = some r) : EP zA0 71 [oD (.own 90000), oD (.clo (Jd (NX true Aq) tB p1))] [(.vec 3 (p0.map Aq), .vec 3 (r.2.map Aq))] [] (oD (.view 90000 3 0 r.1)) := by
 unfold BG at h
 refine E3 (n := 42) (rs := [.tmp 4]) Tryz.func71 rfl rfl rfl (HO rfl) (HO rfl) rfl rfl (HO rfl) rfl (HO rfl) fun w0 S0 GL => ?_
 refine Af (sm [] [(0, oD (.own 90000)), (1, oD (.clo (Jd (NX true Aq) tB p1)))] [(90000, .vec 3 (p0.map Aq))] rfl rfl) (wq rfl (qa rfl (Ac (wq rfl (qw 2 rfl ?_)))))
 refine B4 h fun v1 a1 h => Ej [] [90000] (GO N p0 p1 v1 a1) aZ CR rfl (qa rfl (Ac (wp rfl (qm rfl (BZ rfl (Ac ?_))))))
 refine Bc h (fun h => ?_) fun h => ?_
 ·refine wq rfl (qm rfl (qe rfl ?_))
  obtain rfl := sj h
  refine Af ((W3 Aq p0 4 90000 3 rfl rfl).trans (sm [] [(4, oD (.view 90000 3 0 p0.length))] [(90000, .vec 3 (p0.map Aq))] rfl rfl)) (Ap ?_)
  exact ⟨⟨[_], tm, rfl⟩, ⟨rfl, tv⟩, tv⟩
 ·refine Al (wp rfl (qm rfl (A9 rfl (qe rfl ?_))))
  refine AI (L := AW N p1) h (fun v3 => mk [(0, oD (.own 90000)), (1, oD (.clo (Jd (NX true Aq) tB p1))), (5, iD v3.2.1), (6, iD v3.2.2)] [(90000, .vec 3 (v3.1.map Aq))]) (fun v4 => mk [(0, oD (.own 90000)), (5, iD v4.2)] [(90000, .vec 3 (v4.1.map Aq))]) (fun _ _ => rfl) (sm [] _ _ rfl rfl) (fun j3 n3 v3 h => ?_) (fun v4 s h hs => ?_)
  ·unfold AW at h
   refine wp rfl (qw 2 rfl (F0 CN rfl (A0 rfl (Ac ?_))))
   refine Bc h (fun h => ?_) fun h => ?_
   ·refine Al ?_
    refine AP h (fun v6 => mk [(0, oD (.own 90000)), (1, oD (.clo (Jd (NX true Aq) tB p1))), (5, iD v6.2), (6, iD v3.2.2)] [(90000, .vec 3 (v6.1.map Aq))]) (fun j6 h => ?_) (fun v6 h => ?_)
    ·refine AM (wq rfl (qw 2 rfl ?_))
     refine BV h fun v7 a7 b7 h => qI CN Do a7 (Ag b7) rfl (qJ Hr Do (Ag b7) rfl (qz HR rfl (qs Do rfl (Ac (wq rfl (qm rfl (qL Hr Do rfl ?_)))))))
     refine B4 h fun v8 a8 h => MU (ds0 := [_]) (ar := (NX true Aq) v7) (.p rfl) rfl rfl ⟨rfl, tv⟩ rfl rfl rfl (Mf (MW _ _ OQ) a8) ?_
     refine CD rfl (Ac ?_)
     refine Bc h (fun h => ?_) fun h => ?_
     ·refine wq rfl (qw 2 rfl (qL Hr Do rfl ?_))
      refine BV h fun v10 a10 b10 h => qI CN Do a10 (Ag b10) rfl ?_
      refine DV rfl rfl rfl rfl (Ag b10) rfl Do rfl (HO rfl) (DK Aq v3.1 _ v7) ?_
      refine Ac (Ah AA rfl (qm rfl (A9 rfl (qe rfl ?_))))
      exact sn [] h
     ·refine Al ?_
      exact sn [] h
    ·refine Ah AA rfl (qm rfl (A9 rfl (qe rfl ?_)))
     exact sn [] h
   ·refine AX ?_
    exact sn [] h
  ·refine Af hs (wq rfl (qw 2 rfl ?_))
   obtain ⟨c11, h⟩ := IW h
   have w12 : ((v4.2).toNat) + ((v4.1.length - (v4.2).toNat)) ≤ v4.1.length := by have := c11.2.1; have := c11.2.2; omega
   refine ML Aq v4.1 (.p rfl) rfl (Kv Aq _ _ v4.1) rfl CN Do (.some _ _ _ _ c11.1) (.none _) ⟨rfl, tv⟩ tv c11.2.1 (by rw [zA4]; exact c11.2.2) (zA4 _) rfl ?_
   have w13 : (JC v4.1 ((v4.2).toNat) (zA5 ((v4.1.length - (v4.2).toNat)) ((Ad.mk 0 0 0)))).length = v4.1.length := J3 (by rw [List.length_replicate]; exact w12)
   refine VF Aq v4.1 ((Ad.mk 0 0 0)) rfl rfl (Pz Aq _ _ ((v4.2).toNat) ((v4.1.length - (v4.2).toNat)) v4.1 w12) rfl CN HR rfl rfl rfl rfl ?_
   refine Ac (wq rfl (qw 2 rfl ?_))
   obtain ⟨c14, h⟩ := IW h
   have w15 : 0 + ((v4.2).toNat) ≤ (JC v4.1 ((v4.2).toNat) (zA5 ((v4.1.length - (v4.2).toNat)) ((Ad.mk 0 0 0)))).length := by have := c14.2.1; have := c14.2.2; omega
   refine ML Aq (JC v4.1 ((v4.2).toNat) (zA5 ((v4.1.length - (v4.2).toNat)) ((Ad.mk 0 0 0)))) (.p rfl) rfl (Kv Aq _ _ (JC v4.1 ((v4.2).toNat) (zA5 ((v4.1.length - (v4.2).toNat)) ((Ad.mk 0 0 0))))) rfl CN Do (.none _) (.some _ _ _ _ c14.1) tv ⟨rfl, tv⟩ c14.2.1 (by rw [zA4]; exact c14.2.2) (zA4 _) rfl ?_
   refine qa rfl (Ac ?_)
   obtain rfl := sj h
   refine Af (sm [] [(4, oD (.view 90000 3 0 ((v4.2).toNat)))] [(90000, .vec 3 ((JC v4.1 ((v4.2).toNat) (zA5 ((v4.1.length - (v4.2).toNat)) ((Ad.mk 0 0 0)))).map Aq))] rfl rfl) (Ap ?_)
   exact ⟨⟨[_], tm, rfl⟩, ⟨rfl, tv⟩, tv⟩
theorem O8 (N : Nat) (p0 : Aa) (p1 : Ab) (r : (List Ad) × Int) (h : F5 N p0 p1 = some r) : Ao zA0 44 [.e (.agg (Ae p0)), .e (.agg (Ay p1))] [(3, r.1.map Aq)] (.tup [.one (.own 0), .one (iC r.2)]) := by
 unfold F5 at h
 refine cw (n := 17) (rs := [.tmp 4, .tmp 5]) Tryz.func44 fun w0 S0 => ?_
 refine wq rfl (qb rfl (qb rfl (qa rfl (qa rfl (Ac (wp rfl (qL Cz BS rfl (qL A5 AK rfl ?_))))))))
 refine B4 h fun v1 a1 h => Ax [] (Im N p0 p1 v1 a1) Uv rfl (qa rfl (Ac (wq rfl (qm rfl (BH rfl (Ac ?_))))))
 refine Bc h (fun h => ?_) fun h => ?_
 ·refine wq rfl (qm rfl (qa rfl (qe rfl ?_)))
  obtain rfl := sj h
  refine Af ((BP 4 2001 3 rfl rfl rfl).trans (sm [(1000, 2001)] [(4, oD (.own 1000)), (5, iD v1)] [(1000, .vec 3 ((([] : List Ad)).map Aq))] rfl rfl)) (Ap ?_)
  exact ⟨⟨[_, _], ⟨.tmp _ _ rfl, tm⟩, rfl⟩, ⟨rfl, tv⟩⟩
 ·refine Al (wq rfl (qL Cz BS rfl ?_))
  refine B4 h fun v3 a3 h => Ax [2002] (Sy N p0 v3 a3) ae rfl (C2 (K3 2 [.sl (p0.fb.map An), .sl (p0.fj.map An), .sl (p0.fm.map An), .sl (p0.fe.map AV)] rfl rfl) (C2 (K3 3 [.sl (p1.fc.map An), .sl (p1.fa.map An), .sl (p1.fd.map C3)] rfl rfl) ?_))
  refine JW (capD := [_, _]) (Jd (NX true Aq) tB ((fun (x : Ad) => DC N x p0.fb p0.fj p0.fm p0.fe p1.fc p1.fa p1.fd))) (.p rfl) aS rfl ⟨rfl, rfl, tv⟩ rfl (fun ar t ht => by obtain ⟨x, r, rfl, hq, rfl⟩ := IJ ht; exact Nk N x p0.fb p0.fj p0.fm p0.fe p1.fc p1.fa p1.fd r hq) ?_
  obtain ⟨v4, a4, h⟩ := bind_some h
  obtain ⟨c5, h⟩ := IW h
  have w6 : 0 + v4.1 ≤ v4.2.length := by rw [zA4]; exact c5
  refine Lk (ds0 := [_, _]) [2002] [] [true] (GH N v3 ((fun (x : Ad) => DC N x p0.fb p0.fj p0.fm p0.fe p1.fc p1.fa p1.fd)) v4 a4) (.p rfl) Z5 rfl ⟨rfl, rfl, tv⟩ rfl rfl (by decide) ⟨rfl, tv⟩ rfl (GA rfl) tv ⟨(fun h => by cases h), tv⟩ rfl rfl rfl ?_
  refine C2 (XW Aq v4.2 16 2002 2003 3 v4.1 rfl rfl rfl rfl rfl c5) (qa rfl (qe rfl ?_))
  obtain rfl := sj h
  refine Af (sm [(1000, 2003)] [(4, oD (.own 1000)), (5, iD 0)] [(1000, .vec 3 ((v4.2.take v4.1).map Aq))] rfl rfl) (Ap ?_)
  exact ⟨⟨[_, _], ⟨.tmp _ _ rfl, tm⟩, rfl⟩, ⟨rfl, tv⟩⟩
theorem QI (N : Nat) (p0 : Ad) (r : Bool) (h : G8 N p0 = some r) : Ao zA0 77 [.e (.agg (Dk p0))] [] (bD r) := by
 unfold G8 at h
 refine cw (n := 27) (rs := [.tmp 2]) Tryz.func77 fun w0 S0 => ?_
 refine wq rfl (qb rfl (qa rfl (Ac (AQ ?_))))
 refine AP h (fun v1 => mk [(1, oD (.ptr 1 0)), (18, bD v1)] [(1, .box (Dk p0))]) (fun j1 h => ?_) (fun v1 h => ?_)
 ·refine Ah AA rfl (qf Fe rfl (ql Ce rfl (qf Ha rfl (ql Ce rfl ?_))))
  refine ZL (.p rfl) rfl rfl ?_
  refine A0 rfl (qm rfl ?_)
  refine Ew 9 h rfl (fun h => ?_) fun h => ?_
  ·refine qw 3 rfl (qp rfl (qw 4 rfl (qp rfl (Ac ?_))))
   exact sn [] h
  ·refine qf Fq rfl (ql Ce rfl (A0 rfl (qp rfl (qm rfl ?_))))
   refine Ew 14 h rfl (fun h => ?_) fun h => ?_
   ·refine qw 3 rfl (qp rfl (Ac ?_))
    exact sn [] h
   ·refine qf Fq rfl (ql Ce rfl (Gk rfl (qp rfl (Ac ?_))))
    exact sn [] h
 ·refine Bc h (fun h => ?_) fun h => ?_
  ·refine wq rfl (qe rfl ?_)
   obtain rfl := sj h
   refine Af (sm [] [(2, bD false)] [] rfl rfl) (Ap ?_)
   exact ⟨⟨[_], tm, rfl⟩, tv⟩
  ·refine Al ?_
   refine AP h (fun v5 => mk [(2, bD v5)] []) (fun j5 h => ?_) (fun v5 h => ?_)
   ·refine Ah AA rfl (qf Fq rfl (ql Ce rfl (BZ rfl (qm rfl ?_))))
    refine Ew 22 h rfl (fun h => ?_) fun h => ?_
    ·refine qw 3 rfl (qp rfl (qe rfl ?_))
     exact sn [] h
    ·refine qf Ha rfl (ql Ce rfl (BZ rfl (qp rfl (qe rfl ?_))))
     exact sn [] h
   ·obtain rfl := sj h
    refine Af (sm [] [(2, bD v5)] [] rfl rfl) (Ap ?_)
    exact ⟨⟨[_], tm, rfl⟩, tv⟩
theorem Pj (N : Nat) (p0 : Aa) (p1 : Ad) (r : Bool) (h : Gz N p0 p1 = some r) : Ao zA0 78 [.e (.agg (Ae p0)), .e (.agg (Dk p1))] [] (bD r) := by
 unfold Gz at h
 refine cw (n := 36) (rs := [.tmp 4]) Tryz.func78 fun w0 S0 => ?_
 refine wq rfl (qb rfl (qb rfl (qa rfl (Ac (wp rfl (qf Fq rfl (ql Ce rfl (BZ rfl (Ac ?_)))))))))
 refine Bc h (fun h => ?_) fun h => ?_
 ·refine wq rfl (qf Fe rfl (ql Ce rfl (qf Cg rfl (ql GD rfl (AJ DB rfl (A0 rfl (qe rfl ?_)))))))
  obtain rfl := sj h
  refine Af (sm [] [(4, bD ((decide (p1.fi < (p0.fe.length : Int)))))] [] rfl rfl) (Ap ?_)
  exact ⟨⟨[_], tm, rfl⟩, tv⟩
 ·refine Al ?_
  refine AP h (fun v2 => mk [(4, bD v2)] []) (fun j2 h => ?_) (fun v2 h => ?_)
  ·refine Ah AA rfl (qf Fe rfl (ql Ce rfl (qf Bt rfl (ql A2 rfl (AJ Az rfl (A0 rfl (qm rfl ?_)))))))
   refine Ew 20 h rfl (fun h => ?_) fun h => ?_
   ·refine qf Fq rfl (ql Ce rfl (BH rfl (qm rfl ?_)))
    refine Ew 24 h rfl (fun h => ?_) fun h => ?_
    ·refine qw 9 rfl (qp rfl (qp rfl (qa rfl (AO (by kernel_rfl) ?_))))
     exact sn [] h
    ·refine qf Ha rfl (ql Ce rfl (qf Bt rfl (ql A2 rfl (qf Fe rfl (ql Ce rfl ?_)))))
     refine BV h fun v5 a5 b5 h => qi Az De a5 (Ag b5) rfl (qk Ce rfl (A0 rfl (qp rfl (qp rfl (qa rfl (AO (by kernel_rfl) ?_))))))
     exact sn [] h
   ·refine qw 4 rfl (qu rfl (qu rfl (qu rfl (qu rfl (qu rfl (qu rfl (qu rfl (qu rfl (qu rfl (qn rfl (qp rfl (qa rfl (AO (by kernel_rfl) ?_)))))))))))))
    exact sn [] h
  ·obtain rfl := sj h
   refine Af (sm [] [(4, bD v2)] [] rfl rfl) (Ap ?_)
   exact ⟨⟨[_], tm, rfl⟩, tv⟩
theorem MM (N : Nat) (p0 : Aa) (p1 : Ab) (p2 : Ad) (r : Ab × Int) (h : Ga N p0 p1 p2 = some r) : Ao zA0 49 [.e (.agg (Ae p0)), .e (.agg (Ay p1)), .e (.agg (Dk p2))] [(1, r.1.fc.map An), (1, r.1.fa.map An), (1, r.1.fd.map C3)] (.tup [.agg [.own 0, .own 1, .own 2], .one (iC r.2)]) := by
 unfold Ga at h
 refine cw (n := 32) (rs := [.cell 6 43, .tmp 7]) Tryz.func49 fun w0 S0 => ?_
 refine wq rfl (qb rfl (qb rfl (qb rfl (qz CH rfl (qa rfl (Ac (AQ (AM (wq rfl (qL Hr Do rfl ?_))))))))))
 refine B4 h fun v1 a1 h => Ax [] (QI N p2 v1 a1) Z4 rfl (CD rfl (qe rfl ?_))
 refine Bc h (fun h => ?_) fun h => ?_
 ·refine wq rfl (AU CH GB rfl (qs AK rfl (qe rfl ?_)))
  obtain rfl := sj h
  refine Af ((Aw 6 0 2001 1 _ rfl rfl rfl rfl).trans ((Aw 6 1 2002 1 _ rfl rfl rfl rfl).trans ((Aw 6 2 2003 1 _ rfl rfl rfl rfl).trans (sm [(1000, 2001), (1001, 2002), (1002, 2003)] [(6, oD (.ptr 6 0)), (7, iD 1)] [(6, .box [.own 1000, .own 1001, .own 1002]), (1000, .vec 1 ((([] : List Int)).map An)), (1001, .vec 1 ((([] : List Int)).map An)), (1002, .vec 1 ((([] : List Int)).map C3))] rfl rfl)))) (Ap ?_)
  exact ⟨⟨[_, _], ⟨.cellN _ _ _ _ _ _ _ rfl rfl A5 AK rfl rfl (Gn rfl), tm⟩, rfl⟩, ⟨rfl, rfl, rfl, tv⟩⟩
 ·refine wq rfl (qL Cz BS rfl (qL Hr Do rfl ?_))
  refine B4 h fun v3 a3 h => Ax [] (Pj N p0 p2 v3 a3) au rfl (CD rfl (qe rfl ?_))
  refine Bc h (fun h => ?_) fun h => ?_
  ·refine wq rfl (AU CH GB rfl (qs AK rfl (qe rfl ?_)))
   obtain rfl := sj h
   refine Af ((Aw 6 0 2004 1 _ rfl rfl rfl rfl).trans ((Aw 6 1 2005 1 _ rfl rfl rfl rfl).trans ((Aw 6 2 2006 1 _ rfl rfl rfl rfl).trans (sm [(1000, 2004), (1001, 2005), (1002, 2006)] [(6, oD (.ptr 6 0)), (7, iD 4)] [(6, .box [.own 1000, .own 1001, .own 1002]), (1000, .vec 1 ((([] : List Int)).map An)), (1001, .vec 1 ((([] : List Int)).map An)), (1002, .vec 1 ((([] : List Int)).map C3))] rfl rfl)))) (Ap ?_)
   exact ⟨⟨[_, _], ⟨.cellN _ _ _ _ _ _ _ rfl rfl A5 AK rfl rfl (Gn rfl), tm⟩, rfl⟩, ⟨rfl, rfl, rfl, tv⟩⟩
  ·refine Al (wq rfl (qL Cz BS rfl (qL A5 AK rfl (qL Hr Do rfl ?_))))
   refine B4 h fun v5 a5 h => Ax [2007, 2008, 2009] (MN N p0 p1 p2 v5 a5) YD rfl (qm rfl (qx rfl (qx rfl (qz CH rfl (qs AK rfl (qa rfl (Ac (wp rfl (qm rfl (CD rfl (Ac ?_)))))))))))
   refine Bc h (fun h => ?_) fun h => ?_
   ·refine wq rfl (AU CH GB rfl (qs AK rfl (qe rfl ?_)))
    obtain rfl := sj h
    refine Af ((Aw 6 0 2010 1 _ rfl rfl rfl rfl).trans ((Aw 6 1 2011 1 _ rfl rfl rfl rfl).trans ((Aw 6 2 2012 1 _ rfl rfl rfl rfl).trans (sm [(1000, 2010), (1001, 2011), (1002, 2012)] [(6, oD (.ptr 6 0)), (7, iD 11)] [(6, .box [.own 1000, .own 1001, .own 1002]), (1000, .vec 1 ((([] : List Int)).map An)), (1001, .vec 1 ((([] : List Int)).map An)), (1002, .vec 1 ((([] : List Int)).map C3))] rfl rfl)))) (Ap ?_)
    exact ⟨⟨[_, _], ⟨.cellN _ _ _ _ _ _ _ rfl rfl A5 AK rfl rfl (Gn rfl), tm⟩, rfl⟩, ⟨rfl, rfl, rfl, tv⟩⟩
   ·refine Al (wq rfl (qL A5 AK rfl (qs AK rfl (qe rfl ?_))))
    obtain rfl := sj h
    refine Af (sm [(1000, 2007), (1001, 2008), (1002, 2009)] [(6, oD (.ptr 6 0)), (7, iD 0)] [(6, .box [.own 1000, .own 1001, .own 1002]), (1000, .vec 1 (v5.1.fc.map An)), (1001, .vec 1 (v5.1.fa.map An)), (1002, .vec 1 (v5.1.fd.map C3))] rfl rfl) (Ap ?_)
    exact ⟨⟨[_, _], ⟨.cellN _ _ _ _ _ _ _ rfl rfl A5 AK rfl rfl (Gn rfl), tm⟩, rfl⟩, ⟨rfl, rfl, rfl, tv⟩⟩
theorem Ml (N : Nat) (p0 : Aa) (p1 : Ab) (p2 : Ad) (r : Ab × Int) (h : F7 N p0 p1 p2 = some r) : Ao zA0 33 [.e (.agg (Ae p0)), .e (.agg (Ay p1)), .e (.agg (Dk p2))] [(1, r.1.fc.map An), (1, r.1.fa.map An), (1, r.1.fd.map C3)] (.tup [.agg [.own 0, .own 1, .own 2], .one (iC r.2)]) := by
 unfold F7 at h
 refine cw (n := 22) (rs := [.cell 6 43, .tmp 7]) Tryz.func33 fun w0 S0 => ?_
 refine wq rfl (qb rfl (qb rfl (qb rfl (qz CH rfl (qa rfl (Ac (wp rfl (qL Cz BS rfl (qL A5 AK rfl ?_)))))))))
 refine B4 h fun v1 a1 h => Ax [] (Im N p0 p1 v1 a1) Uv rfl (qa rfl (Ac (wq rfl (qm rfl (BH rfl (Ac ?_))))))
 refine Bc h (fun h => ?_) fun h => ?_
 ·refine wq rfl (AU CH GB rfl (qm rfl (qs AK rfl (qe rfl ?_))))
  obtain rfl := sj h
  refine Af ((Aw 6 0 2001 1 _ rfl rfl rfl rfl).trans ((Aw 6 1 2002 1 _ rfl rfl rfl rfl).trans ((Aw 6 2 2003 1 _ rfl rfl rfl rfl).trans (sm [(1000, 2001), (1001, 2002), (1002, 2003)] [(6, oD (.ptr 6 0)), (7, iD v1)] [(6, .box [.own 1000, .own 1001, .own 1002]), (1000, .vec 1 ((([] : List Int)).map An)), (1001, .vec 1 ((([] : List Int)).map An)), (1002, .vec 1 ((([] : List Int)).map C3))] rfl rfl)))) (Ap ?_)
  exact ⟨⟨[_, _], ⟨.cellN _ _ _ _ _ _ _ rfl rfl A5 AK rfl rfl (Gn rfl), tm⟩, rfl⟩, ⟨rfl, rfl, rfl, tv⟩⟩
 ·refine Al (wq rfl (qL Cz BS rfl (qL A5 AK rfl (qL Hr Do rfl ?_))))
  refine B4 h fun v3 a3 h => Ax [2004, 2005, 2006] (MM N p0 p1 p2 v3 a3) Y4 rfl (qx rfl (qx rfl (qs AK rfl (qe rfl ?_))))
  obtain rfl := sj h
  refine Af (sm [(1000, 2004), (1001, 2005), (1002, 2006)] [(6, oD (.ptr 6 0)), (7, iD v3.2)] [(6, .box [.own 1000, .own 1001, .own 1002]), (1000, .vec 1 (v3.1.fc.map An)), (1001, .vec 1 (v3.1.fa.map An)), (1002, .vec 1 (v3.1.fd.map C3))] rfl rfl) (Ap ?_)
  exact ⟨⟨[_, _], ⟨.cellN _ _ _ _ _ _ _ rfl rfl A5 AK rfl rfl (Gn rfl), tm⟩, rfl⟩, ⟨rfl, rfl, rfl, tv⟩⟩
theorem LF (N : Nat) (p0 : Aa) (p1 : Ab) (r : (List Ar) × Int) (h : FN N p0 p1 = some r) : Ao zA0 16 [.e (.agg (Ae p0)), .e (.agg (Ay p1))] [] (.tup [.one (sC (r.1.map AR)), .one (iC r.2)]) := by
 unfold FN at h
 refine cw (n := 119) (rs := [.tmp 4, .tmp 5]) Tryz.func16 fun w0 S0 => ?_
 refine wq rfl (qb rfl (qb rfl (qa rfl (qa rfl (Ac (wq rfl (qL A5 AK rfl (AU S6 YV rfl ?_))))))))
 refine LK [(0, .tmp 21, _)] (.p rfl) rfl ⟨rfl, tv⟩ rfl GV Kp S6 rfl rfl (HO rfl) rfl rfl ?_
 refine C2 (P6 22 8 [.s, .s, .s, .s, .s, .s, .s, .x 1 []] _ ((([(Ar.mk p1 ((-1)) ((Ad.mk 0 0 0)) (([] : List Int)))] : List Ar)).map AR) rfl rfl) (qa rfl (Ac (wq rfl ?_)))
 refine TT (.p rfl) rfl ?_
 refine qL A5 AK rfl ?_
 refine B4 h fun v1 a1 h => Ax [] (Om N p1 v1 a1) YT rfl ?_
 refine Q3 (kv := Value.string) (vt := Po) (m := ([] : List (ByteArray × Int))) (k := v1) (v := 0) rfl (.inr rfl) rfl rfl rfl rfl (Nv Tf Yc) rfl ?_
 refine qm rfl (qa rfl (Ac (wp rfl (qe rfl ?_))))
 refine AI (L := DD N p0) h (fun v2 => mk [(2, oD (.ptr 2 0)), (6, oD (.own 2001)), (7, oD (.mref 2002)), (8, iD v2.2.2)] [(2, .box (Ae p0)), (2001, .dvec 8 [.s, .s, .s, .s, .s, .s, .s, .x 1 []] (v2.1.map AR)), (2002, .mp (Ie Value.string Po v2.2.1))]) (fun v3 => mk [(6, oD (.own 2003))] [(2003, .dvec 8 [.s, .s, .s, .s, .s, .s, .s, .x 1 []] (v3.map AR))]) (fun _ _ => rfl) (sm [(2001, 22), (2002, 23)] _ _ rfl rfl) (fun j2 n2 v2 h => ?_) (fun v3 s h hs => ?_)
 ·unfold DD at h
  refine wp rfl (qw 2 rfl ?_)
  refine SP (.p rfl) rfl rfl (Lh AR v2.1 _ _) GV ?_
  refine A0 rfl (Ac ?_)
  refine Bc h (fun h => ?_) fun h => ?_
  ·refine Al (AQ (AM (wq rfl (qL Cz BS rfl (qw 2 rfl ?_)))))
   refine BV h fun v5 a5 b5 h => My (.p rfl) rfl rfl rfl (Lh AR v2.1 _ _) GV Kp a5 (AF b5) ?_
   refine qh Ll rfl ?_
   refine R8 (.p rfl) rfl A5 AK rfl (Ag b5) rfl rfl (by decide) rfl ?_
   refine B4 h fun v6 a6 h => Ax [2004] (O8 N p0 ((Ab.mk v5.fh.fc v5.fh.fa v5.fh.fd)) v6 a6) ay rfl (qm rfl (qx rfl (qx rfl (qa rfl (qa rfl (AO (by kernel_rfl) (wp rfl (qm rfl (BH rfl (Ac ?_))))))))))
   refine Bc h (fun h => ?_) fun h => ?_
   ·refine wq rfl (qm rfl (qa rfl (qe rfl ?_)))
    obtain rfl := sj h
    refine Af ((O5 4 _ rfl).trans (sm [] [(4, pD (.sl ((([] : List Ar)).map AR))), (5, iD v6.2)] [] rfl rfl)) (Ap ?_)
    exact ⟨⟨[_, _], ⟨.tmp _ _ rfl, tm⟩, rfl⟩, tv⟩
   ·refine Al (wq rfl (qm rfl (F0 CN rfl (qm rfl (Ac ?_)))))
    refine AI (L := Cr N p0 v2 v6) h (fun v8 => mk [(2, oD (.ptr 2 0)), (6, oD (.own 2005)), (7, oD (.mref 2006)), (8, iD v2.2.2), (46, oD (.own 2007)), (47, iD ((v6.1.length : Int))), (48, iD v8.2.2)] [(2, .box (Ae p0)), (2005, .dvec 8 [.s, .s, .s, .s, .s, .s, .s, .x 1 []] (v8.1.map AR)), (2006, .mp (Ie Value.string Po v8.2.1)), (2007, .vec 3 (v6.1.map Aq))]) (fun v9 => mk [(2, oD (.ptr 2 0)), (6, oD (.own 2008)), (7, oD (.mref 2009)), (8, iD v2.2.2)] [(2, .box (Ae p0)), (2008, .dvec 8 [.s, .s, .s, .s, .s, .s, .s, .x 1 []] (v9.1.map AR)), (2009, .mp (Ie Value.string Po v9.2))]) (fun _ _ => rfl) (sm [(2005, 2001), (2006, 2002), (2007, 2004)] _ _ rfl rfl) (fun j8 n8 v8 h => ?_) (fun v9 s h hs => ?_)
    ·unfold Cr at h
     refine wq rfl (A0 rfl (Ac (AQ ?_)))
     refine Bc h (fun h => ?_) fun h => ?_
     ·refine Al (AQ (AM (wq rfl ?_)))
      refine BV h fun v11 a11 b11 h => qI CN Do a11 (Ag b11) rfl (qJ Hr Do (Ag b11) rfl (qz HR rfl (qs Do rfl (Ac (wq rfl (qL Cz BS rfl (qw 2 rfl ?_)))))))
      refine BV h fun v12 a12 b12 h => My (.p rfl) rfl rfl rfl (Lh AR v8.1 _ _) GV Kp a12 (AF b12) ?_
      refine qh Ll rfl ?_
      refine R8 (.p rfl) rfl A5 AK rfl (Ag b12) rfl rfl (by decide) rfl ?_
      refine qL Hr Do rfl ?_
      refine B4 h fun v13 a13 h => Ax [2010, 2011, 2012] (Ml N p0 ((Ab.mk v12.fh.fc v12.fh.fa v12.fh.fd)) v11 v13 a13) Zj rfl (qm rfl (qx rfl (qx rfl (qz CH rfl (qs AK rfl (qa rfl (AO (by kernel_rfl) (wp rfl (qm rfl (BH rfl (Ac ?_)))))))))))
      refine Bc h (fun h => ?_) fun h => ?_
      ·refine wq rfl (qm rfl (qa rfl (qe rfl ?_)))
       obtain rfl := sj h
       refine Af ((O5 4 _ rfl).trans (sm [] [(4, pD (.sl ((([] : List Ar)).map AR))), (5, iD v13.2)] [] rfl rfl)) (Ap ?_)
       exact ⟨⟨[_, _], ⟨.tmp _ _ rfl, tm⟩, rfl⟩, tv⟩
      ·refine Al (wq rfl (qL A5 AK rfl ?_))
       refine B4 h fun v15 a15 h => Ej [] [2010, 2011, 2012] (Om N v13.1 v15 a15) YT CR rfl (qa rfl (Ac (wq rfl (qw 2 rfl ?_))))
       refine Vj (kv := Value.string) (vt := Po) (m := v8.2.1) (dv := 0) (.p rfl) rfl rfl rfl (Nv Tf Yc) (by rw [Tf]; rfl) Kh rfl rfl rfl ?_
       refine qm rfl (qx rfl (qx rfl (qa rfl (qe rfl ?_))))
       refine AP h (fun v16 => mk [(2, oD (.ptr 2 0)), (6, oD (.own 2013)), (7, oD (.mref 2014)), (8, iD v2.2.2), (16, iD v16.2.2), (46, oD (.own 2015)), (47, iD ((v6.1.length : Int))), (48, iD v8.2.2)] [(2, .box (Ae p0)), (2013, .dvec 8 [.s, .s, .s, .s, .s, .s, .s, .x 1 []] (v16.1.map AR)), (2014, .mp (Ie Value.string Po v16.2.1)), (2015, .vec 3 (v6.1.map Aq))]) (fun j16 h => ?_) (fun v16 h => ?_)
       ·refine wq rfl (qm rfl (CD rfl (Ac ?_)))
        refine Bc h (fun h => ?_) fun h => ?_
        ·refine AP h (fun v18 => mk [(2, oD (.ptr 2 0)), (6, oD (.own 2016)), (7, oD (.mref 2017)), (8, iD v2.2.2), (15, pD (.val (.string v15))), (16, iD v18.2), (46, oD (.own 2018)), (47, iD ((v6.1.length : Int))), (48, iD v8.2.2)] [(2, .box (Ae p0)), (2016, .dvec 8 [.s, .s, .s, .s, .s, .s, .s, .x 1 []] (v18.1.map AR)), (2017, .mp (Ie Value.string Po v8.2.1)), (2018, .vec 3 (v6.1.map Aq))]) (fun j18 h => ?_) (fun v18 h => ?_)
         ·refine wq rfl (qL Cz BS rfl (qL A5 AK rfl ?_))
          refine B4 h fun v19 a19 h => Ej [] [2010, 2011, 2012] (ME N p0 v13.1 v19 a19) Zg CR rfl (qm rfl (qx rfl (qx rfl (qa rfl (qe rfl ?_)))))
          refine AP h (fun v20 => mk [(2, oD (.ptr 2 0)), (6, oD (.own 2022)), (7, oD (.mref 2023)), (8, iD v2.2.2), (12, oD (.ptr 12 0)), (13, oD (.ptr 13 0)), (15, pD (.val (.string v15))), (46, oD (.own 2024)), (47, iD ((v6.1.length : Int))), (48, iD v8.2.2), (87, bD v20)] [(2, .box (Ae p0)), (12, .box (Dk v11)), (13, .box [.own 2019, .own 2020, .own 2021]), (2019, .vec 1 (v13.1.fc.map An)), (2020, .vec 1 (v13.1.fa.map An)), (2021, .vec 1 (v13.1.fd.map C3)), (2022, .dvec 8 [.s, .s, .s, .s, .s, .s, .s, .x 1 []] (v8.1.map AR)), (2023, .mp (Ie Value.string Po v8.2.1)), (2024, .vec 3 (v6.1.map Aq))]) (fun j20 h => ?_) (fun v20 h => ?_)
          ·refine Ah AA rfl (qm rfl (BH rfl (qm rfl ?_)))
           refine Ew 84 h rfl (fun h => ?_) fun h => ?_
           ·refine qw 2 rfl (qp rfl (Ac ?_))
            exact sn [(2019, 2010), (2020, 2011), (2021, 2012), (2022, 2005), (2023, 2006), (2024, 2007)] h
           ·refine qm rfl (CD rfl (qp rfl (Ac ?_)))
            exact sn [(2019, 2010), (2020, 2011), (2021, 2012), (2022, 2005), (2023, 2006), (2024, 2007)] h
          ·refine Bc h (fun h => ?_) fun h => ?_
           ·refine Ah AA rfl (qe rfl ?_)
            exact sn [(2016, 2022), (2017, 2023), (2018, 2024)] h
           ·refine wq rfl (qm rfl ?_)
            refine SP (.p rfl) rfl rfl (Lh AR v8.1 _ _) GV ?_
            refine qa rfl (Ac (Ah AA rfl (qm rfl (qL A5 AK rfl (qm rfl (qL Hr Do rfl (AU S6 YV rfl (C2 (AY 2019 _ _ rfl rfl) (C2 (AY 2020 _ _ rfl rfl) (C2 (AY 2021 _ _ rfl rfl) ?_))))))))))
            refine LK [(0, .tmp 94, _)] (.p rfl) rfl ⟨rfl, tv⟩ rfl GV Kp S6 rfl rfl (HO rfl) rfl rfl ?_
            refine C2 (P6 95 8 [.s, .s, .s, .s, .s, .s, .s, .x 1 []] _ ((([(Ar.mk v13.1 v2.2.2 v11 (([] : List Int)))] : List Ar)).map AR) rfl rfl) ?_
            refine Gl h fun c23 h => TM (.p rfl) rfl rfl rfl rfl rfl (by decide) GV GV Kp YH (HO rfl) S6 rfl (WQ (f := AR) (g := AR) (xs := v8.1) (ys := (([(Ar.mk v13.1 v2.2.2 v11 (([] : List Int)))] : List Ar))) c23) (Wy AR v8.1 (([(Ar.mk v13.1 v2.2.2 v11 (([] : List Int)))] : List Ar))) rfl rfl ?_
            refine qa rfl (Ac ?_)
            exact sn [(2016, 96), (2017, 2023), (2018, 2024)] h
         ·refine Ah AA rfl (qw 3 rfl ?_)
          refine Q3 (kv := Value.string) (vt := Po) (m := v8.2.1) (k := v15) (v := v18.2) rfl (.inl rfl) rfl rfl rfl rfl (Nv Tf Yc) rfl ?_
          refine Ac ?_
          exact sn [(2013, 2016), (2014, 2017), (2015, 2018)] h
        ·refine Al ?_
         exact sn [(2013, 2005), (2014, 2006), (2015, 2007)] h
       ·refine AP h (fun v24 => mk [(2, oD (.ptr 2 0)), (6, oD (.own 2025)), (7, oD (.mref 2026)), (8, iD v2.2.2), (46, oD (.own 2027)), (47, iD ((v6.1.length : Int))), (48, iD v8.2.2)] [(2, .box (Ae p0)), (2025, .dvec 8 [.s, .s, .s, .s, .s, .s, .s, .x 1 []] (v24.map AR)), (2026, .mp (Ie Value.string Po v16.2.1)), (2027, .vec 3 (v6.1.map Aq))]) (fun j24 h => ?_) (fun v24 h => ?_)
        ·refine wq rfl (qm rfl (EO rfl (Ac ?_)))
         refine Bc h (fun h => ?_) fun h => ?_
         ·refine Ah AA rfl (qw 4 rfl ?_)
          refine BV h fun v26 a26 b26 h => My (.p rfl) rfl rfl rfl (Lh AR v16.1 _ _) GV Kp a26 (AF b26) ?_
          refine qh Qm rfl ?_
          refine XX (.p rfl) rfl A2 rfl (Ag b26) rfl rfl rfl rfl ?_
          refine qm rfl (Em Az De Kh rfl ?_)
          refine Gl h fun c27 h => DQ (f := An) Az Az De KO Kh c27 rfl ?_
          refine BV h fun v28 a28 b28 h => My (.p rfl) rfl rfl rfl (XH AR v16.1 _ _ _ _ _) GV Kp a28 (AF b28) ?_
          refine qh Qm rfl ?_
          refine U7 rfl rfl rfl rfl (rows2 := (v26.fa ++ (([v16.2.2] : List Int))).map An) (cols2 := []) rfl rfl (Ag b28) (by decide) TI rfl rfl (DK AR v16.1 _ ((Ar.mk ((Ab.mk v28.fh.fc v28.fh.fa v28.fh.fd)) v28.fg ((Ad.mk v28.ft.ff v28.ft.fi v28.ft.fk)) (v26.fa ++ (([v16.2.2] : List Int)))))) ?_
          refine Ac ?_
          exact sn [(2025, 2013), (2026, 2014), (2027, 2015)] h
         ·refine Al ?_
          exact sn [(2025, 2013), (2026, 2014), (2027, 2015)] h
        ·refine wq rfl (qm rfl ?_)
         refine SP (.p rfl) rfl rfl (Lh AR v24 _ _) GV ?_
         refine Gk rfl (Ac ?_)
         refine Bc h (fun h => ?_) fun h => ?_
         ·refine wq rfl (qa rfl (qe rfl ?_))
          obtain rfl := sj h
          refine Af ((O5 4 _ rfl).trans (sm [] [(4, pD (.sl ((([] : List Ar)).map AR))), (5, iD 3)] [] rfl rfl)) (Ap ?_)
          exact ⟨⟨[_, _], ⟨.tmp _ _ rfl, tm⟩, rfl⟩, tv⟩
         ·refine Al (Ah AA rfl (A9 rfl (qm rfl (Ac ?_))))
          exact sn [(2005, 2025), (2006, 2026), (2007, 2027)] h
     ·refine AX ?_
      exact sn [(2008, 2005), (2009, 2006)] h
    ·refine Af hs (Ah AA rfl (qm rfl (A9 rfl (qe rfl ?_))))
     exact sn [(2001, 2008), (2002, 2009)] h
  ·refine AX ?_
   exact sn [(2003, 2001)] h
 ·refine Af hs (wq rfl (qm rfl (qa rfl (qe rfl ?_))))
  obtain rfl := sj h
  refine Af ((Uc 2003 _ _ _ rfl rfl).trans (sm [] [(4, pD (.sl (v3.map AR))), (5, iD 0)] [] rfl rfl)) (Ap ?_)
  exact ⟨⟨[_, _], ⟨.tmp _ _ rfl, tm⟩, rfl⟩, tv⟩
theorem HD (N : Nat) (p0 : List Int) (p1 : List Int) (r : Bool) (h : Db N p0 p1 = some r) : Ao zA0 17 [pD (.sl (p0.map An)), pD (.sl (p1.map An))] [] (bD r) := by
 unfold Db at h
 refine cw (n := 26) (rs := [.tmp 4]) Tryz.func17 fun w0 S0 => ?_
 refine wq rfl (qa rfl (Ac (wp rfl (qm rfl (AJ Az rfl (qm rfl (AJ Az rfl (BH rfl (Ac ?_)))))))))
 refine Bc h (fun h => ?_) fun h => ?_
 ·refine wq rfl (qe rfl ?_)
  obtain rfl := sj h
  refine Af (sm [] [(4, bD false)] [] rfl rfl) (Ap ?_)
  exact ⟨⟨[_], tm, rfl⟩, tv⟩
 ·refine Al (wp rfl (qm rfl (AJ Az rfl (qm rfl (Ac ?_)))))
  refine AI (L := B8 N p0 p1) h (fun v2 => mk [(0, pD (.sl (p0.map An))), (1, pD (.sl (p1.map An))), (12, iD ((p0.length : Int))), (13, iD v2)] []) (fun v3 => mk [] []) (fun _ _ => rfl) (sm [] _ _ rfl rfl) (fun j2 n2 v2 h => ?_) (fun v3 s h hs => ?_)
  ·unfold B8 at h
   refine wq rfl (A0 rfl (Ac (AQ ?_)))
   refine Bc h (fun h => ?_) fun h => ?_
   ·refine Al (AQ (AM (wq rfl (qm rfl (qa rfl (Ac (wq rfl (qw 2 rfl ?_))))))))
    refine BV h fun v5 a5 b5 h => qi Az De a5 (Ag b5) rfl (qk Ce rfl (qw 2 rfl ?_))
    refine BV h fun v6 a6 b6 h => qi Az De a6 (Ag b6) rfl (qk Ce rfl (BH rfl (AO (by kernel_rfl) ?_)))
    refine Bc h (fun h => ?_) fun h => ?_
    ·refine wq rfl (qe rfl ?_)
     obtain rfl := sj h
     refine Af (sm [] [(4, bD false)] [] rfl rfl) (Ap ?_)
     exact ⟨⟨[_], tm, rfl⟩, tv⟩
    ·refine Al (Ah AA rfl (A9 rfl (qm rfl (Ac ?_))))
     exact sn [] h
   ·refine AX ?_
    exact sn [] h
  ·refine Af hs (wq rfl (qe rfl ?_))
   obtain rfl := sj h
   refine Af (sm [] [(4, bD true)] [] rfl rfl) (Ap ?_)
   exact ⟨⟨[_], tm, rfl⟩, tv⟩
theorem CK (N : Nat) (p0 : List Int) (p1 : Int → Option Bool) (r : Int) (h : D2 N p0 p1 = some r) : Ao zA0 46 [pD (.sl (p0.map An)), oD (.clo (Jd (NX false An) tB p1))] [] (iD r) := by
 unfold D2 at h
 refine cw (n := 19) (rs := [.tmp 4]) Tryz.func46 fun w0 S0 => ?_
 refine wq rfl (qa rfl (Ac (wp rfl (qm rfl (AJ Az rfl (qm rfl (Ac ?_)))))))
 refine AI (L := Bh N p0 p1) h (fun v1 => mk [(0, pD (.sl (p0.map An))), (1, oD (.clo (Jd (NX false An) tB p1))), (7, iD ((p0.length : Int))), (8, iD v1)] []) (fun v2 => mk [] []) (fun _ _ => rfl) (sm [] _ _ rfl rfl) (fun j1 n1 v1 h => ?_) (fun v2 s h hs => ?_)
 ·unfold Bh at h
  refine wq rfl (A0 rfl (Ac (AQ ?_)))
  refine Bc h (fun h => ?_) fun h => ?_
  ·refine Al (AQ (AM (wq rfl (qm rfl (qa rfl (Ac (wq rfl (qw 3 rfl ?_))))))))
   refine BV h fun v4 a4 b4 h => qi Az De a4 (Ag b4) rfl (qk Ce rfl ?_)
   refine B4 h fun v5 a5 h => MU (ds0 := [_]) (ar := (NX false An) v4) (.p rfl) rfl rfl ⟨rfl, tv⟩ rfl rfl rfl (Mf (MW _ _ QQ) a5) ?_
   refine Ac ?_
   refine Bc h (fun h => ?_) fun h => ?_
   ·refine wq rfl (qm rfl (qe rfl ?_))
    obtain rfl := sj h
    refine Af (sm [] [(4, iD v1)] [] rfl rfl) (Ap ?_)
    exact ⟨⟨[_], tm, rfl⟩, tv⟩
   ·refine Al (Ah AA rfl (A9 rfl (qm rfl (Ac ?_))))
    exact sn [] h
  ·refine AX ?_
   exact sn [] h
 ·refine Af hs (wq rfl (qe rfl ?_))
  obtain rfl := sj h
  refine Af (sm [] [(4, iD ((-1)))] [] rfl rfl) (Ap ?_)
  exact ⟨⟨[_], tm, rfl⟩, tv⟩
theorem Bl (N : Nat) (p0 : List Int) (p1 : Int → Option Bool) (r : Bool) (h : B5 N p0 p1 = some r) : Ao zA0 18 [pD (.sl (p0.map An)), oD (.clo (Jd (NX false An) tB p1))] [] (bD r) := by
 unfold B5 at h
 refine cw (n := 9) (rs := [.tmp 4]) Tryz.func18 fun w0 S0 => ?_
 refine wq rfl (qa rfl (Ac (wq rfl (qw 2 rfl ?_))))
 refine B4 h fun v1 a1 h => Ax [] (CK N p0 p1 v1 a1) YK rfl (EO rfl (qe rfl ?_))
 obtain rfl := sj h
 refine Af (sm [] [(4, bD ((decide (0 ≤ v1))))] [] rfl rfl) (Ap ?_)
 exact ⟨⟨[_], tm, rfl⟩, tv⟩
theorem QT (N : Nat) (p0 : Int) (r : Bool) (h : GU N p0 = some r) : Ao zA0 65 [iD p0] [] (bD r) := by
 unfold GU at h
 refine cw (n := 5) (rs := [.tmp 2]) Tryz.func65 fun w0 S0 => ?_
 refine wq rfl (qa rfl (Ac (wq rfl (qm rfl (EO rfl (qe rfl ?_))))))
 obtain rfl := sj h
 refine Af (sm [] [(2, bD ((decide (0 ≤ p0))))] [] rfl rfl) (Ap ?_)
 exact ⟨⟨[_], tm, rfl⟩, tv⟩
theorem OY (N : Nat) (p0 : Aa) (p1 : Ab) (r : Bool) (h : Gu N p0 p1 = some r) : Ao zA0 34 [.e (.agg (Ae p0)), .e (.agg (Ay p1))] [] (bD r) := by
 unfold Gu at h
 refine cw (n := 22) (rs := [.tmp 4]) Tryz.func34 fun w0 S0 => ?_
 refine wq rfl (qb rfl (qb rfl (qe rfl ?_)))
 refine AP h (fun v1 => mk [(4, bD v1)] []) (fun j1 h => ?_) (fun v1 h => ?_)
 ·refine Ah AA rfl (qL Cz BS rfl (qL A5 AK rfl ?_))
  refine B4 h fun v2 a2 h => Ax [] (Im N p0 p1 v2 a2) Uv rfl (BZ rfl (qm rfl ?_))
  refine Ew 9 h rfl (fun h => ?_) fun h => ?_
  ·refine qf CC rfl (ql A2 rfl (qf H5 rfl (ql A2 rfl ?_)))
   refine B4 h fun v4 a4 h => Ax [] (HD N p1.fc p0.fm v4 a4) Zq rfl (qp rfl (qm rfl ?_))
   refine Ew 16 h rfl (fun h => ?_) fun h => ?_
   ·refine qf Bs rfl (ql A2 rfl ?_)
    refine B4 h fun v6 a6 h => Ax [] (Ao.weak (ds' := [pD (.sl (p1.fa.map An)), oD (.fnc 65)]) (Bl N p1.fa ((fun (x : Int) => GU N x)) v6 a6) ⟨(fun _ _ _ hh => hh), (fun _ _ _ hh => Tp ai (fun ar t ht => by obtain ⟨x, r, rfl, hq, rfl⟩ := IJ ht; exact QT N x r hq) hh), tv⟩) XC rfl ?_
    refine CD rfl (qp rfl (qe rfl ?_))
    exact sn [] h
   ·refine qw 4 rfl (qp rfl (qe rfl ?_))
    exact sn [] h
  ·refine qw 5 rfl (qp rfl (qw 5 rfl (qp rfl (qe rfl ?_))))
   exact sn [] h
 ·obtain rfl := sj h
  refine Af (sm [] [(4, bD v1)] [] rfl rfl) (Ap ?_)
  exact ⟨⟨[_], tm, rfl⟩, tv⟩
theorem Pc (N : Nat) (p0 : Ar) (p1 : List Int) (p2 : List Int) (p3 : List Int) (p4 : List Av) (r : Bool) (h : Gw N p0 p1 p2 p3 p4 = some r) : Ao zA0 61 [.e (.agg (PZ p0)), oD (.rop [.sl (p1.map An), .sl (p2.map An), .sl (p3.map An), .sl (p4.map AV)])] [] (bD r) := by
 unfold Gw at h
 refine cw (n := 8) (rs := [.tmp 3]) Tryz.func61 fun w0 S0 => ?_
 refine wq rfl (qb rfl (qa rfl (Ac (wq rfl (qK Cz BS rfl (qf Ll rfl (qL A5 AK rfl ?_)))))))
 refine B4 h fun v1 a1 h => Ax [] (OY N ((Aa.mk p1 p2 p3 p4)) ((Ab.mk p0.fh.fc p0.fh.fa p0.fh.fd)) v1 a1) YP rfl (qe rfl ?_)
 obtain rfl := sj h
 refine Af (sm [] [(3, bD v1)] [] rfl rfl) (Ap ?_)
 exact ⟨⟨[_], tm, rfl⟩, tv⟩
theorem EL (N : Nat) (p0 : List Ar) (p1 : Ar → Option Bool) (r : Int) (h : Bd N p0 p1 = some r) : Ao zA0 22 [pD (.sl (p0.map AR)), oD (.clo (Jd (NX true AR) tB p1))] [] (iD r) := by
 unfold Bd at h
 refine cw (n := 19) (rs := [.tmp 4]) Tryz.func22 fun w0 S0 => ?_
 refine wq rfl (qa rfl (Ac (wp rfl (qm rfl (AJ GV rfl (qm rfl (Ac ?_)))))))
 refine AI (L := A6 N p0 p1) h (fun v1 => mk [(0, pD (.sl (p0.map AR))), (1, oD (.clo (Jd (NX true AR) tB p1))), (7, iD ((p0.length : Int))), (8, iD v1)] []) (fun v2 => mk [] []) (fun _ _ => rfl) (sm [] _ _ rfl rfl) (fun j1 n1 v1 h => ?_) (fun v2 s h hs => ?_)
 ·unfold A6 at h
  refine wq rfl (A0 rfl (Ac (AQ ?_)))
  refine Bc h (fun h => ?_) fun h => ?_
  ·refine Al (AQ (AM (wq rfl (qm rfl (qa rfl (Ac (wq rfl (qw 3 rfl ?_))))))))
   refine BV h fun v4 a4 b4 h => qi GV Kp a4 (Ag b4) rfl (qK XY Kp rfl ?_)
   refine B4 h fun v5 a5 h => MU (ds0 := [_]) (ar := (NX true AR) ((Ar.mk ((Ab.mk v4.fh.fc v4.fh.fa v4.fh.fd)) v4.fg ((Ad.mk v4.ft.ff v4.ft.fi v4.ft.fk)) v4.fa))) (.p rfl) rfl rfl ⟨rfl, tv⟩ rfl rfl rfl (Mf (MW _ _ RW) a5) ?_
   refine Ac ?_
   refine Bc h (fun h => ?_) fun h => ?_
   ·refine wq rfl (qm rfl (qe rfl ?_))
    obtain rfl := sj h
    refine Af (sm [] [(4, iD v1)] [] rfl rfl) (Ap ?_)
    exact ⟨⟨[_], tm, rfl⟩, tv⟩
   ·refine Al (Ah AA rfl (A9 rfl (qm rfl (Ac ?_))))
    exact sn [] h
  ·refine AX ?_
   exact sn [] h
 ·refine Af hs (wq rfl (qe rfl ?_))
  obtain rfl := sj h
  refine Af (sm [] [(4, iD ((-1)))] [] rfl rfl) (Ap ?_)
  exact ⟨⟨[_], tm, rfl⟩, tv⟩
theorem Hf (N : Nat) (p0 : List Ad) (r : (List Ad)) (h : DM N p0 = some r) : EP zA0 87 [oD (.own 90000)] [(.vec 3 (p0.map Aq), .vec 3 (r.map Aq))] [] (.tup []) := by
 unfold DM at h
 refine E3 (n := 28) (rs := []) Tryz.func87 rfl rfl rfl (HO rfl) (HO rfl) rfl rfl (HO rfl) rfl (HO rfl) fun w0 S0 GL => YC ?_
 refine Af (sm [] [(0, oD (.own 90000))] [(90000, .vec 3 (p0.map Aq))] rfl rfl) (wq rfl (qm rfl (F0 CN rfl (QX rfl (qa rfl (qe rfl ?_))))))
 refine AI (L := Cw N) h (fun v1 => mk [(0, oD (.own 90000)), (2, iD v1.2.1), (3, iD v1.2.2)] [(90000, .vec 3 (v1.1.map Aq))]) (fun v2 => mk [] [(90000, .vec 3 (v2.map Aq))]) (fun _ _ => rfl) (sm [] _ _ rfl rfl) (fun j1 n1 v1 h => ?_) (fun v2 s h hs => ?_)
 ·unfold Cw at h
  refine wp rfl (qw 2 rfl (A0 rfl (Ac ?_)))
  refine Bc h (fun h => ?_) fun h => ?_
  ·refine Al (AQ (AM (Ah AA rfl (qw 6 rfl ?_))))
   refine BV h fun v4 a4 b4 h => qI CN Do a4 (Ag b4) rfl (qJ Hr Do (Ag b4) rfl (qw 2 rfl ?_))
   refine BV h fun v5 a5 b5 h => qI CN Do a5 (Ag b5) rfl (qJ Hr Do (Ag b5) rfl ?_)
   refine BV h fun v6 a6 b6 h => qI CN Do a6 (Ag b6) rfl ?_
   refine DV rfl rfl rfl rfl (Ag b6) rfl Do rfl (HO rfl) (DK Aq v1.1 _ v4) ?_
   refine BV h fun v7 a7 b7 h => qI CN Do a7 (Ag b7) rfl ?_
   refine DV rfl rfl rfl rfl (Ag b7) rfl Do rfl (HO rfl) (DK Aq (v1.1.set ((v1.2.1).toNat) v4) _ v5) ?_
   refine AO (by kernel_rfl) (Ah AA rfl (qm rfl (A9 rfl (qm rfl (QX rfl (qa rfl (qe rfl ?_)))))))
   exact sn [] h
  ·refine AX ?_
   exact sn [] h
 ·obtain rfl := sj h
  refine ⟨_, hs.trans (sm [] [] [(90000, .vec 3 (v2.map Aq))] rfl rfl), ?_⟩
  exact ⟨⟨[], tv, rfl⟩, ⟨rfl, tv⟩, tv⟩
theorem Sr (N : Nat) (p0 : List Ar) (p1 : Int) (r : (List Ad)) (h : Kw N p0 p1 = some r) : Ao zA0 62 [pD (.sl (p0.map AR)), iD p1] [(3, r.map Aq)] (oD (.own 0)) := by
 unfold Kw at h
 refine cw (n := 28) (rs := [.tmp 4]) Tryz.func62 fun w0 S0 => ?_
 refine wq rfl (qa rfl (Ac (wq rfl (qa rfl (Ac (AQ ?_))))))
 refine AI (L := HC N p0) h (fun v1 => mk [(0, pD (.sl (p0.map AR))), (1, iD v1.1), (5, oD (.own 2001))] [(2001, .vec 3 (v1.2.map Aq))]) (fun v2 => mk [(5, oD (.own 2002))] [(2002, .vec 3 (v2.map Aq))]) (fun _ _ => rfl) ((BP 5 2003 3 rfl rfl rfl).trans (sm [(2001, 2003)] _ _ rfl rfl)) (fun j1 n1 v1 h => ?_) (fun v2 s h hs => ?_)
 ·unfold HC at h
  refine wp rfl (qw 2 rfl ?_)
  refine BV h fun v3 a3 b3 h => qi GV Kp a3 (Ag b3) rfl (qg Tl rfl (qk Ce rfl (EO rfl (Ac ?_))))
  refine Bc h (fun h => ?_) fun h => ?_
  ·refine Al (AQ (AM (Ah AA rfl (qw 3 rfl ?_))))
   refine BV h fun v5 a5 b5 h => qi GV Kp a5 (Ag b5) rfl (qg WW rfl (qK Hr Do rfl (Em CN Do HR rfl ?_)))
   refine Gl h fun c6 h => DQ (f := Aq) CN CN Do Rt HR c6 rfl (qa rfl (Ac (Ah AA rfl (qw 2 rfl ?_))))
   refine BV h fun v7 a7 b7 h => qi GV Kp a7 (Ag b7) rfl (qg Tl rfl (qk Ce rfl (qe rfl ?_)))
   exact sn [(2001, 24)] h
  ·refine AX ?_
   exact sn [(2002, 2001)] h
 ·refine Af hs (wq rfl (qm rfl ?_))
  refine B4 h fun v8 a8 h => Lk (ds0 := [_]) [2002] [] [true] (Hf N v2 v8 a8) (.p rfl) ah rfl ⟨rfl, tv⟩ rfl rfl (by decide) ⟨rfl, tv⟩ rfl (GA rfl) tv ⟨(fun h => by cases h), tv⟩ rfl rfl rfl ?_
  refine Ac (wq rfl (qm rfl (qe rfl ?_)))
  obtain rfl := sj h
  refine Af (sm [(1000, 2002)] [(4, oD (.own 1000))] [(1000, .vec 3 (v8.map Aq))] rfl rfl) (Ap ?_)
  exact ⟨⟨[_], tm, rfl⟩, ⟨rfl, tv⟩⟩
theorem RC (N : Nat) (p0 : Aa) (p1 : Ab) (r : (List Ad) × Int) (h : J1 N p0 p1 = some r) : Ao zA0 31 [.e (.agg (Ae p0)), .e (.agg (Ay p1))] [(3, r.1.map Aq)] (.tup [.one (.own 0), .one (iC r.2)]) := by
 unfold J1 at h
 refine cw (n := 38) (rs := [.tmp 4, .tmp 5]) Tryz.func31 fun w0 S0 => ?_
 refine wq rfl (qb rfl (qb rfl (qa rfl (qa rfl (Ac (wq rfl (qL Cz BS rfl (qL A5 AK rfl ?_))))))))
 refine B4 h fun v1 a1 h => Ax [] (ME N p0 p1 v1 a1) Zg rfl (qm rfl (qx rfl (qx rfl (qa rfl (qa rfl (Ac (wp rfl (qm rfl (BH rfl (Ac ?_))))))))))
 refine Bc h (fun h => ?_) fun h => ?_
 ·refine wq rfl (qm rfl (qa rfl (qe rfl ?_)))
  obtain rfl := sj h
  refine Af ((BP 4 2001 3 rfl rfl rfl).trans (sm [(1000, 2001)] [(4, oD (.own 1000)), (5, iD v1.2)] [(1000, .vec 3 ((([] : List Ad)).map Aq))] rfl rfl)) (Ap ?_)
  exact ⟨⟨[_, _], ⟨.tmp _ _ rfl, tm⟩, rfl⟩, ⟨rfl, tv⟩⟩
 ·refine Al (wp rfl (qm rfl (CD rfl (Ac ?_))))
  refine Bc h (fun h => ?_) fun h => ?_
  ·refine wq rfl (qa rfl (qe rfl ?_))
   obtain rfl := sj h
   refine Af ((BP 4 2002 3 rfl rfl rfl).trans (sm [(1000, 2002)] [(4, oD (.own 1000)), (5, iD 13)] [(1000, .vec 3 ((([] : List Ad)).map Aq))] rfl rfl)) (Ap ?_)
   exact ⟨⟨[_, _], ⟨.tmp _ _ rfl, tm⟩, rfl⟩, ⟨rfl, tv⟩⟩
  ·refine Al (wq rfl (qL Cz BS rfl (qL A5 AK rfl ?_)))
   refine B4 h fun v4 a4 h => Ax [] (LF N p0 p1 v4 a4) Zh rfl (qm rfl (qx rfl (qx rfl (qa rfl (qa rfl (Ac (wp rfl (qm rfl (BH rfl (Ac ?_))))))))))
   refine Bc h (fun h => ?_) fun h => ?_
   ·refine wq rfl (qm rfl (qa rfl (qe rfl ?_)))
    obtain rfl := sj h
    refine Af ((BP 4 2003 3 rfl rfl rfl).trans (sm [(1000, 2003)] [(4, oD (.own 1000)), (5, iD v4.2)] [(1000, .vec 3 ((([] : List Ad)).map Aq))] rfl rfl)) (Ap ?_)
    exact ⟨⟨[_, _], ⟨.tmp _ _ rfl, tm⟩, rfl⟩, ⟨rfl, tv⟩⟩
   ·refine Al (wq rfl (qm rfl (C2 (K3 2 [.sl (p0.fb.map An), .sl (p0.fj.map An), .sl (p0.fm.map An), .sl (p0.fe.map AV)] rfl rfl) ?_)))
    refine JW (capD := [_]) (Jd (NX true AR) tB ((fun (x : Ar) => Gw N x p0.fb p0.fj p0.fm p0.fe))) (.p rfl) Z2 rfl ⟨rfl, tv⟩ rfl (fun ar t ht => by obtain ⟨x, r, rfl, hq, rfl⟩ := IJ ht; exact Pc N x p0.fb p0.fj p0.fm p0.fe r hq) ?_
    refine B4 h fun v6 a6 h => Ax [] (EL N v4.1 ((fun (x : Ar) => Gw N x p0.fb p0.fj p0.fm p0.fe)) v6 a6) Zv rfl (qa rfl (Ac (wp rfl (qm rfl (A0 rfl (Ac ?_))))))
    refine Bc h (fun h => ?_) fun h => ?_
    ·refine wq rfl (qa rfl (qe rfl ?_))
     obtain rfl := sj h
     refine Af ((BP 4 2004 3 rfl rfl rfl).trans (sm [(1000, 2004)] [(4, oD (.own 1000)), (5, iD 14)] [(1000, .vec 3 ((([] : List Ad)).map Aq))] rfl rfl)) (Ap ?_)
     exact ⟨⟨[_, _], ⟨.tmp _ _ rfl, tm⟩, rfl⟩, ⟨rfl, tv⟩⟩
    ·refine Al (wq rfl (qw 2 rfl ?_))
     refine B4 h fun v8 a8 h => Ax [2005] (Sr N v4.1 v6 v8 a8) aM rfl (qa rfl (qe rfl ?_))
     obtain rfl := sj h
     refine Af (sm [(1000, 2005)] [(4, oD (.own 1000)), (5, iD 0)] [(1000, .vec 3 (v8.map Aq))] rfl rfl) (Ap ?_)
     exact ⟨⟨[_, _], ⟨.tmp _ _ rfl, tm⟩, rfl⟩, ⟨rfl, tv⟩⟩
theorem KG (N : Nat) (p0 : Aa) (r : (List Ad) × Int) (h : Hz N p0 = some r) : Ao zA0 8 [.e (.agg (Ae p0))] [(3, r.1.map Aq)] (.tup [.one (.own 0), .one (iC r.2)]) := by
 unfold Hz at h
 refine cw (n := 19) (rs := [.tmp 2, .tmp 3]) Tryz.func8 fun w0 S0 => ?_
 refine wq rfl (qb rfl (qa rfl (qa rfl (Ac (wq rfl (qL Cz BS rfl ?_))))))
 refine B4 h fun v1 a1 h => Ax [2001, 2002, 2003] (KR N p0 v1 a1) XN rfl (qm rfl (qx rfl (qx rfl (qz CH rfl (qs AK rfl (qa rfl (Ac (wp rfl (qm rfl (BH rfl (Ac ?_)))))))))))
 refine Bc h (fun h => ?_) fun h => ?_
 ·refine wq rfl (qm rfl (qa rfl (qe rfl ?_)))
  obtain rfl := sj h
  refine Af ((BP 2 2004 3 rfl rfl rfl).trans (sm [(1000, 2004)] [(2, oD (.own 1000)), (3, iD v1.2)] [(1000, .vec 3 ((([] : List Ad)).map Aq))] rfl rfl)) (Ap ?_)
  exact ⟨⟨[_, _], ⟨.tmp _ _ rfl, tm⟩, rfl⟩, ⟨rfl, tv⟩⟩
 ·refine Al (wq rfl (qL Cz BS rfl (qL A5 AK rfl ?_)))
  refine B4 h fun v3 a3 h => Ej [2005] [2001, 2002, 2003] (RC N p0 v1.1 v3 a3) ZW (IQ (fun _ => rfl) CR) rfl (qx rfl (qx rfl (qa rfl (qe rfl ?_))))
  obtain rfl := sj h
  refine Af (sm [(1000, 2005)] [(2, oD (.own 1000)), (3, iD v3.2)] [(1000, .vec 3 (v3.1.map Aq))] rfl rfl) (Ap ?_)
  exact ⟨⟨[_, _], ⟨.tmp _ _ rfl, tm⟩, rfl⟩, ⟨rfl, tv⟩⟩
theorem K9 (N : Nat) (p0 : Aa) (p1 : List Ad) (r : Int × Ab × Ai × Int) (h : Fl N p0 p1 = some r) : Ao zA0 10 [.e (.agg (Ae p0)), pD (.sl (p1.map Aq))] [] (.tup [.one (iC r.1), .agg (Ay r.2.1), .agg (E0 r.2.2.1), .one (iC r.2.2.2)]) := by
 unfold Fl at h
 refine cw (n := 89) (rs := [.tmp 4, .cell 5 43, .cell 6 45, .tmp 7]) Tryz.func10 fun w0 S0 => ?_
 refine wq rfl (qb rfl (qa rfl (qz CH rfl (qz Gm rfl (qa rfl (Ac (wq rfl (qL Cz BS rfl ?_))))))))
 refine B4 h fun v1 a1 h => Ax [2001, 2002, 2003] (KR N p0 v1 a1) XN rfl (qm rfl (qx rfl (qx rfl (qz CH rfl (qs AK rfl (qa rfl (Ac (wp rfl (qm rfl (BH rfl (Ac ?_)))))))))))
 refine Bc h (fun h => ?_) fun h => ?_
 ·refine wq rfl (AU CH GB rfl (AU Gm KV rfl (qm rfl (qa rfl (qs AK rfl (qs Eg rfl (qe rfl ?_)))))))
  obtain rfl := sj h
  refine Af ((Fk 5 _ rfl).trans (sm [] [(4, iD 0), (5, oD (.ptr 5 0)), (6, oD (.ptr 6 0)), (7, iD v1.2)] [(5, .box [sC ((([] : List Int)).map An), sC ((([] : List Int)).map An), sC ((([] : List Int)).map C3)]), (6, .box [iC 0, iC 0, iC 0])] rfl rfl)) (Ap ?_)
  exact ⟨⟨[_, _, _, _], ⟨.tmp _ _ rfl, ⟨.cellN _ _ _ _ _ _ _ rfl rfl A5 AK rfl rfl (Gn rfl), ⟨.cellN _ _ _ _ _ _ _ rfl rfl I3 Eg rfl rfl (Gn rfl), tm⟩⟩⟩, rfl⟩, tv⟩
 ·refine Al (wp rfl (qL Cz BS rfl (qL A5 AK rfl (C2 (AY 2001 _ _ rfl rfl) (C2 (AY 2002 _ _ rfl rfl) (C2 (AY 2003 _ _ rfl rfl) ?_))))))
  refine B4 h fun v3 a3 h => Ax [] (Ld N p0 v1.1 v3 a3) XG rfl (qm rfl (qx rfl (qx rfl (qx rfl (qz CH rfl (qz Gm rfl (qs AK rfl (qs Eg rfl (qa rfl (Ac (wq rfl (qm rfl (BZ rfl (Ac ?_))))))))))))))
  refine Bc h (fun h => ?_) fun h => ?_
  ·refine wq rfl (qL A5 AK rfl (qL I3 Eg rfl (qa rfl (qs AK rfl (qs Eg rfl (qa rfl (AO (by kernel_rfl) ?_)))))))
   obtain rfl := sj h
   refine Af (sm [] [(4, iD ((-1))), (5, oD (.ptr 5 0)), (6, oD (.ptr 6 0)), (7, iD 0)] [(5, .box (Ay v3.1)), (6, .box (E0 v3.2.1))] rfl rfl) (Ap ?_)
   exact ⟨⟨[_, _, _, _], ⟨.tmp _ _ rfl, ⟨.cellN _ _ _ _ _ _ _ rfl rfl A5 AK rfl rfl (Gn rfl), ⟨.cellN _ _ _ _ _ _ _ rfl rfl I3 Eg rfl rfl (Gn rfl), tm⟩⟩⟩, rfl⟩, tv⟩
  ·refine Al (wp rfl (qm rfl (AJ CN rfl (qm rfl (Ac ?_)))))
   refine AI (L := Et N p0 p1) h (fun v5 => mk [(1, pD (.sl (p1.map Aq))), (2, oD (.ptr 2 0)), (5, oD (.ptr 5 0)), (6, oD (.ptr 6 0)), (8, oD (.ptr 8 0)), (41, pD (.sl (p1.map Aq))), (42, iD ((p1.length : Int))), (43, iD v5.2)] [(2, .box (Ae p0)), (5, .box [.pure (.nil0), .pure (.nil0), .pure (.nil0)]), (6, .box [iC 0, iC 0, iC 0]), (8, .box (Ay v5.1))]) (fun v6 => mk [(1, pD (.sl (p1.map Aq))), (2, oD (.ptr 2 0)), (5, oD (.ptr 5 0)), (6, oD (.ptr 6 0)), (8, oD (.ptr 8 0))] [(2, .box (Ae p0)), (5, .box [.pure (.nil0), .pure (.nil0), .pure (.nil0)]), (6, .box [iC 0, iC 0, iC 0]), (8, .box (Ay v6))]) (fun _ _ => rfl) (sm [] _ _ rfl rfl) (fun j5 n5 v5 h => ?_) (fun v6 s h hs => ?_)
   ·unfold Et at h
    refine wq rfl (A0 rfl (Ac (AQ ?_)))
    refine Bc h (fun h => ?_) fun h => ?_
    ·refine Al (AQ (AM (wq rfl (qm rfl ?_))))
     refine BV h fun v8 a8 b8 h => qi CN Do a8 (Ag b8) rfl (qK Hr Do rfl (qz HR rfl (qa rfl (qs Do rfl (Ac (wq rfl (qL Cz BS rfl (qL A5 AK rfl (qL Hr Do rfl ?_)))))))))
     refine B4 h fun v9 a9 h => Ax [2004, 2005, 2006] (Ml N p0 v5.1 v8 v9 a9) Zj rfl (qm rfl (qx rfl (qx rfl (qz CH rfl (qs AK rfl (qa rfl (Ac (AQ ?_))))))))
     refine AP h (fun v10 => mk [(1, pD (.sl (p1.map Aq))), (2, oD (.ptr 2 0)), (5, oD (.ptr 5 0)), (6, oD (.ptr 6 0)), (8, oD (.ptr 8 0)), (13, iD v5.2), (15, oD (.ptr 15 0)), (41, pD (.sl (p1.map Aq))), (42, iD ((p1.length : Int))), (43, iD v5.2), (61, bD v10)] [(2, .box (Ae p0)), (5, .box [.pure (.nil0), .pure (.nil0), .pure (.nil0)]), (6, .box [iC 0, iC 0, iC 0]), (8, .box (Ay v5.1)), (15, .box [.own 2007, .own 2008, .own 2009]), (2007, .vec 1 (v9.1.fc.map An)), (2008, .vec 1 (v9.1.fa.map An)), (2009, .vec 1 (v9.1.fd.map C3))]) (fun j10 h => ?_) (fun v10 h => ?_)
     ·refine Ah AA rfl (qm rfl (BH rfl (qm rfl ?_)))
      refine Ew 57 h rfl (fun h => ?_) fun h => ?_
      ·refine qw 3 rfl (qp rfl (Ac ?_))
       exact sn [(2007, 2004), (2008, 2005), (2009, 2006)] h
      ·refine qf Fq rfl (ql Ce rfl (BZ rfl (qp rfl (Ac ?_))))
       exact sn [(2007, 2004), (2008, 2005), (2009, 2006)] h
     ·refine Bc h (fun h => ?_) fun h => ?_
      ·refine wq rfl (qm rfl (AU CH GB rfl (AU Gm KV rfl (qa rfl (qs AK rfl (qs Eg rfl (qe rfl ?_)))))))
       obtain rfl := sj h
       refine Af ((Fk 5 _ rfl).trans (sm [] [(4, iD v5.2), (5, oD (.ptr 5 0)), (6, oD (.ptr 6 0)), (7, iD 0)] [(5, .box [sC ((([] : List Int)).map An), sC ((([] : List Int)).map An), sC ((([] : List Int)).map C3)]), (6, .box [iC 0, iC 0, iC 0])] rfl rfl)) (Ap ?_)
       exact ⟨⟨[_, _, _, _], ⟨.tmp _ _ rfl, ⟨.cellN _ _ _ _ _ _ _ rfl rfl A5 AK rfl rfl (Gn rfl), ⟨.cellN _ _ _ _ _ _ _ rfl rfl I3 Eg rfl rfl (Gn rfl), tm⟩⟩⟩, rfl⟩, tv⟩
      ·refine Al (wp rfl (qL Cz BS rfl (qL A5 AK rfl (C2 (AY 2007 _ _ rfl rfl) (C2 (AY 2008 _ _ rfl rfl) (C2 (AY 2009 _ _ rfl rfl) ?_))))))
       refine B4 h fun v13 a13 h => Ax [] (Ld N p0 v9.1 v13 a13) XG rfl (qm rfl (qx rfl (qx rfl (qx rfl (qz CH rfl (qz Gm rfl (qs AK rfl (qs Eg rfl (qa rfl (Ac (wq rfl (qm rfl (BZ rfl (Ac ?_))))))))))))))
       refine Bc h (fun h => ?_) fun h => ?_
       ·refine wq rfl (qm rfl (qL A5 AK rfl (qL I3 Eg rfl (qa rfl (qs AK rfl (qs Eg rfl (qa rfl (AO (by kernel_rfl) ?_))))))))
        obtain rfl := sj h
        refine Af (sm [] [(4, iD v5.2), (5, oD (.ptr 5 0)), (6, oD (.ptr 6 0)), (7, iD 0)] [(5, .box (Ay v13.1)), (6, .box (E0 v13.2.1))] rfl rfl) (Ap ?_)
        exact ⟨⟨[_, _, _, _], ⟨.tmp _ _ rfl, ⟨.cellN _ _ _ _ _ _ _ rfl rfl A5 AK rfl rfl (Gn rfl), ⟨.cellN _ _ _ _ _ _ _ rfl rfl I3 Eg rfl rfl (Gn rfl), tm⟩⟩⟩, rfl⟩, tv⟩
       ·refine Al (Ah AA rfl (qL A5 AK rfl (qs AK rfl (Ac (Ah AA rfl (A9 rfl (qm rfl (Ac ?_))))))))
        exact sn [] h
    ·refine AX ?_
     exact sn [] h
   ·refine Af hs (wp rfl (qL Cz BS rfl (qL A5 AK rfl ?_)))
    refine B4 h fun v15 a15 h => Ax [] (OY N p0 v6 v15 a15) YP rfl (CD rfl (Ac ?_))
    refine Bc h (fun h => ?_) fun h => ?_
    ·refine wq rfl (qm rfl (AJ CN rfl (AU CH GB rfl (AU Gm KV rfl (qa rfl (qs AK rfl (qs Eg rfl (qe rfl ?_))))))))
     obtain rfl := sj h
     refine Af ((Fk 5 _ rfl).trans (sm [] [(4, iD ((p1.length : Int))), (5, oD (.ptr 5 0)), (6, oD (.ptr 6 0)), (7, iD 14)] [(5, .box [sC ((([] : List Int)).map An), sC ((([] : List Int)).map An), sC ((([] : List Int)).map C3)]), (6, .box [iC 0, iC 0, iC 0])] rfl rfl)) (Ap ?_)
     exact ⟨⟨[_, _, _, _], ⟨.tmp _ _ rfl, ⟨.cellN _ _ _ _ _ _ _ rfl rfl A5 AK rfl rfl (Gn rfl), ⟨.cellN _ _ _ _ _ _ _ rfl rfl I3 Eg rfl rfl (Gn rfl), tm⟩⟩⟩, rfl⟩, tv⟩
    ·refine Al (wq rfl (AU CH GB rfl (AU Gm KV rfl (qa rfl (qs AK rfl (qs Eg rfl (qe rfl ?_)))))))
     obtain rfl := sj h
     refine Af ((Fk 5 _ rfl).trans (sm [] [(4, iD 0), (5, oD (.ptr 5 0)), (6, oD (.ptr 6 0)), (7, iD 15)] [(5, .box [sC ((([] : List Int)).map An), sC ((([] : List Int)).map An), sC ((([] : List Int)).map C3)]), (6, .box [iC 0, iC 0, iC 0])] rfl rfl)) (Ap ?_)
     exact ⟨⟨[_, _, _, _], ⟨.tmp _ _ rfl, ⟨.cellN _ _ _ _ _ _ _ rfl rfl A5 AK rfl rfl (Gn rfl), ⟨.cellN _ _ _ _ _ _ _ rfl rfl I3 Eg rfl rfl (Gn rfl), tm⟩⟩⟩, rfl⟩, tv⟩
theorem L9 (N : Nat) (p0 : List Ad) (p1 : List Ad) (r : Bool) (h : GR N p0 p1 = some r) : Ao zA0 11 [pD (.sl (p0.map Aq)), pD (.sl (p1.map Aq))] [] (bD r) := by
 unfold GR at h
 refine cw (n := 26) (rs := [.tmp 4]) Tryz.func11 fun w0 S0 => ?_
 refine wq rfl (qa rfl (Ac (wp rfl (qm rfl (AJ CN rfl (qm rfl (AJ CN rfl (BH rfl (Ac ?_)))))))))
 refine Bc h (fun h => ?_) fun h => ?_
 ·refine wq rfl (qe rfl ?_)
  obtain rfl := sj h
  refine Af (sm [] [(4, bD false)] [] rfl rfl) (Ap ?_)
  exact ⟨⟨[_], tm, rfl⟩, tv⟩
 ·refine Al (wp rfl (qe rfl ?_))
  refine AI (L := EY N p0 p1) h (fun v2 => mk [(0, pD (.sl (p0.map Aq))), (1, pD (.sl (p1.map Aq))), (5, iD v2)] []) (fun v3 => mk [] []) (fun _ _ => rfl) (sm [] _ _ rfl rfl) (fun j2 n2 v2 h => ?_) (fun v3 s h hs => ?_)
  ·unfold EY at h
   refine wp rfl (qw 2 rfl (AJ CN rfl (A0 rfl (Ac ?_))))
   refine Bc h (fun h => ?_) fun h => ?_
   ·refine Al (AQ (AM (wq rfl (qw 2 rfl ?_))))
    refine BV h fun v5 a5 b5 h => qi CN Do a5 (Ag b5) rfl (qK Hr Do rfl (qw 2 rfl ?_))
    refine BV h fun v6 a6 b6 h => qi CN Do a6 (Ag b6) rfl (qK Hr Do rfl ?_)
    refine ZK [.int .i64 v5.ff, .int .i64 v5.fi, .int .i64 v5.fk] [.int .i64 v6.ff, .int .i64 v6.fi, .int .i64 v6.fk] (.p rfl) rfl rfl YI rfl ?_
    refine AO (by kernel_rfl) ?_
    refine Bc h (fun h => ?_) fun h => ?_
    ·refine wq rfl (qe rfl ?_)
     obtain rfl := sj h
     refine Af (sm [] [(4, bD false)] [] rfl rfl) (Ap ?_)
     exact ⟨⟨[_], tm, rfl⟩, tv⟩
    ·refine Al (Ah AA rfl (qm rfl (A9 rfl (qe rfl ?_))))
     exact sn [] h
   ·refine AX ?_
    exact sn [] h
  ·refine Af hs (wq rfl (qe rfl ?_))
   obtain rfl := sj h
   refine Af (sm [] [(4, bD true)] [] rfl rfl) (Ap ?_)
   exact ⟨⟨[_], tm, rfl⟩, tv⟩
theorem M2 (N : Nat) (p0 : Aa) (p1 : List Ad) (r : Bool) (h : F9 N p0 p1 = some r) : Ao zA0 12 [.e (.agg (Ae p0)), pD (.sl (p1.map Aq))] [] (bD r) := by
 unfold F9 at h
 refine cw (n := 19) (rs := [.tmp 4]) Tryz.func12 fun w0 S0 => ?_
 refine wq rfl (qb rfl (qa rfl (Ac (wq rfl (qL Cz BS rfl (qm rfl ?_))))))
 refine B4 h fun v1 a1 h => Ax [] (K9 N p0 p1 v1 a1) ZO rfl (qm rfl (qx rfl (qx rfl (qx rfl (qx rfl (qz CH rfl (qz Gm rfl (qa rfl (qs AK rfl (qs Eg rfl (qa rfl (Ac (wq rfl (qm rfl (BZ rfl (qe rfl ?_))))))))))))))))
 obtain rfl := sj h
 refine Af (sm [] [(4, bD ((v1.2.2.2 == 15)))] [] rfl rfl) (Ap ?_)
 exact ⟨⟨[_], tm, rfl⟩, tv⟩
theorem Iw (N : Nat) (r : Bool) (h : EA N = some r) : Ao zA0 4 [] [] (bD r) := by
 unfold EA at h
 refine cw (n := 74) (rs := [.tmp 0]) Tryz.func4 fun w0 S0 => ?_
 refine wq rfl (qa rfl (Ac (wq rfl ?_)))
 refine B4 h fun v1 a1 h => Ax [2001, 2002, 2003, 2004] (Er N false false v1 a1) ZD rfl ?_
 refine B4 h fun v2 a2 h => Ej [2005] [2001, 2002, 2003, 2004] (KG N v1 v2 a2) aE (IQ (fun _ => rfl) CR) rfl (qm rfl (qx rfl (qx rfl (qa rfl (qa rfl (Ac (wq rfl ?_)))))))
 refine B4 h fun v3 a3 h => Ax [2006, 2007, 2008, 2009] (Er N true false v3 a3) ZD rfl ?_
 refine B4 h fun v4 a4 h => Ej [2010] [2006, 2007, 2008, 2009] (KG N v3 v4 a4) aE (IQ (fun _ => rfl) CR) rfl (qm rfl (qx rfl (qx rfl (qa rfl (qa rfl (Ac (wq rfl ?_)))))))
 refine B4 h fun v5 a5 h => Ax [2011, 2012, 2013, 2014] (Er N true true v5 a5) ZD rfl ?_
 refine B4 h fun v6 a6 h => Ej [2015] [2011, 2012, 2013, 2014] (KG N v5 v6 a6) aE (IQ (fun _ => rfl) CR) rfl (qm rfl (qx rfl (qx rfl (qa rfl (qa rfl (Ac (wq rfl ?_)))))))
 refine B4 h fun v7 a7 h => Ax [2016, 2017, 2018, 2019] (Er N false false v7 a7) ZD rfl (AU HR QE rfl (Em CN Do HR rfl (C2 (AY 2016 _ _ rfl rfl) (C2 (AY 2017 _ _ rfl rfl) (C2 (AY 2018 _ _ rfl rfl) (C2 (AY 2019 _ _ rfl rfl) (C2 (AY 30 _ _ rfl rfl) ?_)))))))
 refine B4 h fun v8 a8 h => Ax [] (K9 N v7 (([(Ad.mk 1 0 1)] : List Ad)) v8 a8) ZO rfl (qm rfl (qx rfl (qx rfl (qx rfl (qx rfl (qz CH rfl (qz Gm rfl (qa rfl (qs AK rfl (qs Eg rfl (qa rfl (Ac (wq rfl (AU HR QE rfl (AU HR QE rfl (AU HR QE rfl (AU HR QE rfl (Em CN Do HR rfl (qe rfl ?_)))))))))))))))))))
 refine AP h (fun v9 => mk [(0, bD v9)] []) (fun j9 h => ?_) (fun v9 h => ?_)
 ·refine Ah AA rfl (qm rfl (BZ rfl (qm rfl ?_)))
  refine Ew 43 h rfl (fun h => ?_) fun h => ?_
  ·refine qw 2 rfl ?_
   refine B4 h fun v11 a11 h => Ej [] [2005, 40] (L9 N v2.1 (([(Ad.mk 1 1 1), (Ad.mk 2 1 0), (Ad.mk 1 0 1), (Ad.mk 2 0 0)] : List Ad)) v11 a11) ad CR rfl (qp rfl (qm rfl ?_))
   refine Ew 48 h rfl (fun h => ?_) fun h => ?_
   ·refine qm rfl (BZ rfl (qp rfl (qm rfl ?_)))
    refine Ew 52 h rfl (fun h => ?_) fun h => ?_
    ·refine qm rfl (BZ rfl (qp rfl (qm rfl ?_)))
     refine Ew 56 h rfl (fun h => ?_) fun h => ?_
     ·refine qm rfl (BZ rfl (qp rfl (qm rfl ?_)))
      refine Ew 60 h rfl (fun h => ?_) fun h => ?_
      ·refine qm rfl (BZ rfl (qp rfl (qm rfl ?_)))
       refine Ew 64 h rfl (fun h => ?_) fun h => ?_
       ·refine qL I3 Eg rfl (AU Gm KV rfl ?_)
        refine YW [.int .i64 v8.2.2.1.fA, .int .i64 v8.2.2.1.fB, .int .i64 v8.2.2.1.fC] [.int .i64 0, .int .i64 1, .int .i64 0] (.g rfl rfl) rfl rfl YS rfl ?_
        refine qp rfl (qm rfl ?_)
        refine Ew 69 h rfl (fun h => ?_) fun h => ?_
        ·refine B4 h fun v18 a18 h => Ax [2020, 2021, 2022, 2023] (Er N false false v18 a18) ZD rfl (qm rfl ?_)
         refine B4 h fun v19 a19 h => Ej [] [2020, 2021, 2022, 2023, 40] (M2 N v18 (([(Ad.mk 1 1 1), (Ad.mk 2 1 0), (Ad.mk 1 0 1), (Ad.mk 2 0 0)] : List Ad)) v19 a19) YQ CR rfl (qp rfl (qe rfl ?_))
         exact sn [] h
        ·refine qw 3 rfl (qp rfl (qe rfl ?_))
         exact sn [] h
       ·refine qw 3 rfl (qp rfl (qw 4 rfl (qp rfl (qe rfl ?_))))
        exact sn [] h
      ·refine qw 2 rfl (qp rfl (qw 4 rfl (qp rfl (qw 4 rfl (qp rfl (qe rfl ?_))))))
       exact sn [] h
     ·refine qw 2 rfl (qp rfl (qw 3 rfl (qp rfl (qw 4 rfl (qp rfl (qw 4 rfl (qp rfl (qe rfl ?_))))))))
      exact sn [] h
    ·refine qw 2 rfl (qp rfl (qw 3 rfl (qp rfl (qw 3 rfl (qp rfl (qw 4 rfl (qp rfl (qw 4 rfl (qp rfl (qe rfl ?_))))))))))
     exact sn [] h
   ·refine qw 2 rfl (qp rfl (qw 3 rfl (qp rfl (qw 3 rfl (qp rfl (qw 3 rfl (qp rfl (qw 4 rfl (qp rfl (qw 4 rfl (qp rfl (qe rfl ?_))))))))))))
    exact sn [] h
  ·refine qw 3 rfl (qp rfl (qw 3 rfl (qp rfl (qw 3 rfl (qp rfl (qw 3 rfl (qp rfl (qw 3 rfl (qp rfl (qw 4 rfl (qp rfl (qw 4 rfl (qp rfl (qe rfl ?_))))))))))))))
   exact sn [] h
 ·obtain rfl := sj h
  refine Af (sm [] [(0, bD v9)] [] rfl rfl) (Ap ?_)
  exact ⟨⟨[_], tm, rfl⟩, tv⟩
theorem I4 (N : Nat) (p0 : List Int) (p1 : Int) (r : Int) (h : Eb N p0 p1 = some r) : Ao zA0 35 [pD (.sl (p0.map C3)), iD p1] [] (iD r) := by
 unfold Eb at h
 refine cw (n := 14) (rs := [.tmp 4]) Tryz.func35 fun w0 S0 => ?_
 refine wq rfl (qa rfl (Ac (wp rfl (qw 2 rfl (AJ Kk rfl (A0 rfl (Ac ?_)))))))
 refine Bc h (fun h => ?_) fun h => ?_
 ·refine wq rfl (qw 2 rfl ?_)
  refine BV h fun v2 a2 b2 h => qi Kk X9 a2 (Ag b2) rfl (qk YX rfl (JE Yx Xj rfl (qe rfl ?_)))
  obtain rfl := sj h
  refine Af (sm [] [(4, iD ((wI .i64 v2)))] [] rfl rfl) (Ap ?_)
  exact ⟨⟨[_], tm, rfl⟩, tv⟩
 ·refine Al (wq rfl (qe rfl ?_))
  obtain rfl := sj h
  refine Af (sm [] [(4, iD 0)] [] rfl rfl) (Ap ?_)
  exact ⟨⟨[_], tm, rfl⟩, tv⟩
theorem Cl (N : Nat) (p0 : Av) (r : Bool) (h : A4 N p0 = some r) : Ao zA0 36 [.e (.agg (Bj p0))] [] (bD r) := by
 unfold A4 at h
 refine cw (n := 11) (rs := [.tmp 2]) Tryz.func36 fun w0 S0 => ?_
 refine wq rfl (qb rfl (qe rfl ?_))
 refine AP h (fun v1 => mk [(2, bD v1)] []) (fun j1 h => ?_) (fun v1 h => ?_)
 ·refine Ah AA rfl (qf FY rfl (ql Ce rfl (BZ rfl (qm rfl ?_))))
  refine Ew 6 h rfl (fun h => ?_) fun h => ?_
  ·refine qw 3 rfl (qp rfl (qe rfl ?_))
   exact sn [] h
  ·refine qf FY rfl (ql Ce rfl (BZ rfl (qp rfl (qe rfl ?_))))
   exact sn [] h
 ·obtain rfl := sj h
  refine Af (sm [] [(2, bD v1)] [] rfl rfl) (Ap ?_)
  exact ⟨⟨[_], tm, rfl⟩, tv⟩
theorem I0 (N : Nat) (p0 : Int) (p1 : Int) (p2 : Int) (p3 : Bool) (r : (List (List Bool))) (h : Ea N p0 p1 p2 p3 = some r) : Ao zA0 37 [iD p0, iD p1, pD (.val (.int .u16 p2)), bD p3] [(1, r.map (JG eB))] (oD (.own 0)) := by
 unfold Ea at h
 refine cw (n := 47) (rs := [.tmp 8]) Tryz.func37 fun w0 S0 => ?_
 refine wq rfl (qa rfl (Ac (wq rfl (qa rfl (Ac (wp rfl (qe rfl ?_)))))))
 refine AI (L := Cq N p0 p1 p2 p3) h (fun v1 => mk [(0, iD p0), (1, iD p1), (2, pD (.val (.int .u16 p2))), (3, bD p3), (9, oD (.own 2001)), (10, iD v1.2)] [(2001, .vec 1 (v1.1.map (JG eB)))]) (fun v2 => mk [(9, oD (.own 2002))] [(2002, .vec 1 (v2.map (JG eB)))]) (fun _ _ => rfl) ((BP 9 2010 1 rfl rfl rfl).trans (sm [(2001, 2010)] _ _ rfl rfl)) (fun j1 n1 v1 h => ?_) (fun v2 s h hs => ?_)
 ·unfold Cq at h
  refine wp rfl (qw 2 rfl (A0 rfl (Ac ?_)))
  refine Bc h (fun h => ?_) fun h => ?_
  ·refine Al (AQ (AM (wq rfl (qa rfl (Ac (wp rfl (qe rfl ?_)))))))
   refine AI (L := Ck N p1 p2 p3 v1) h (fun v4 => mk [(0, iD p0), (1, iD p1), (2, pD (.val (.int .u16 p2))), (3, bD p3), (9, oD (.own 2003)), (10, iD v1.2), (11, oD (.own 2004)), (12, iD v4.2)] [(2003, .vec 1 (v1.1.map (JG eB))), (2004, .vec 1 (v4.1.map eB))]) (fun v5 => mk [(0, iD p0), (1, iD p1), (2, pD (.val (.int .u16 p2))), (3, bD p3), (9, oD (.own 2005)), (10, iD v1.2), (11, oD (.own 2006))] [(2005, .vec 1 (v1.1.map (JG eB))), (2006, .vec 1 (v5.map eB))]) (fun _ _ => rfl) ((BP 11 2009 1 rfl rfl rfl).trans (sm [(2003, 2001), (2004, 2009)] _ _ rfl rfl)) (fun j4 n4 v4 h => ?_) (fun v5 s h hs => ?_)
   ·unfold Ck at h
    refine wp rfl (qw 2 rfl (A0 rfl (Ac ?_)))
    refine Bc h (fun h => ?_) fun h => ?_
    ·refine Al ?_
     refine AP h (fun v7 => mk [(0, iD p0), (1, iD p1), (2, pD (.val (.int .u16 p2))), (3, bD p3), (9, oD (.own 2007)), (10, iD v1.2), (11, oD (.own 2008)), (12, iD v4.2)] [(2007, .vec 1 (v1.1.map (JG eB))), (2008, .vec 1 (v7.map eB))]) (fun j7 h => ?_) (fun v7 h => ?_)
     ·refine AM (Ah AA rfl (qw 3 rfl ?_))
      refine Ew 25 h rfl (fun h => ?_) fun h => ?_
      ·refine qw 2 rfl (BZ rfl (qp rfl (qm rfl ?_)))
       refine Ew 30 h rfl (fun h => ?_) fun h => ?_
       ·refine qw 8 rfl (qp rfl (Em Fa Nb UT rfl ?_))
        refine Gl h fun c10 h => DQ (f := eB) Fa Fa Nb VH UT c10 rfl (qe rfl ?_)
        exact sn [(2007, 2003), (2008, 41)] h
       ·refine qw 2 rfl (MV rfl (qm rfl (A9 rfl ?_)))
        refine Gl h fun c11 h => JJ rfl c11 (MY rfl (by decide) (BZ rfl (qp rfl (Em Fa Nb UT rfl ?_))))
        refine Gl h fun c12 h => DQ (f := eB) Fa Fa Nb VH UT c12 rfl (qe rfl ?_)
        exact sn [(2007, 2003), (2008, 41)] h
      ·refine qw 3 rfl (qp rfl (qw 3 rfl (MV rfl (qm rfl (A9 rfl ?_)))))
       refine Gl h fun c13 h => JJ rfl c13 (MY rfl (by decide) (BZ rfl (qp rfl (Em Fa Nb UT rfl ?_))))
       refine Gl h fun c14 h => DQ (f := eB) Fa Fa Nb VH UT c14 rfl (qe rfl ?_)
       exact sn [(2007, 2003), (2008, 41)] h
     ·refine Ah AA rfl (qm rfl (A9 rfl (qe rfl ?_)))
      exact sn [(2003, 2007), (2004, 2008)] h
    ·refine AX ?_
     exact sn [(2005, 2003), (2006, 2004)] h
   ·refine Af hs (Ah AA rfl (qw 2 rfl (C2 (AY 2006 _ _ rfl rfl) (Em FO Lq TN rfl ?_))))
    refine Gl h fun c15 h => DQ (f := (JG eB)) FO FO Lq Xo TN c15 rfl (qa rfl (Ac (Ah AA rfl (qm rfl (A9 rfl (qe rfl ?_))))))
    exact sn [(2001, 45)] h
  ·refine AX ?_
   exact sn [(2002, 2001)] h
 ·refine Af hs (wq rfl (qm rfl (qe rfl ?_)))
  obtain rfl := sj h
  refine Af (sm [(1000, 2002)] [(8, oD (.own 1000))] [(1000, .vec 1 (v2.map (JG eB)))] rfl rfl) (Ap ?_)
  exact ⟨⟨[_], tm, rfl⟩, ⟨rfl, tv⟩⟩
theorem Ng (N : Nat) (p0 : BA) (r : Aa × Bool) (h : Fn N p0 = some r) : Ao zA0 13 [.e (.agg (Cp p0))] [(1, r.1.fb.map An), (1, r.1.fj.map An), (1, r.1.fm.map An), (6, r.1.fe.map AV)] (.tup [.agg [.own 0, .own 1, .own 2, .own 3], .one (.pure (.val (.bool r.2)))]) := by
 unfold Fn at h
 refine cw (n := 152) (rs := [.cell 2 31, .tmp 3]) Tryz.func13 fun w0 S0 => ?_
 refine wq rfl (qb rfl (qz L2 rfl (qa rfl (Ac (AQ ?_)))))
 refine AP h (fun v1 => mk [(1, oD (.ptr 1 0)), (2, oD (.ptr 2 0)), (19, bD v1)] [(1, .box (Cp p0)), (2, .box [.pure (.nil0), .pure (.nil0), .pure (.nil0), .pure (.nil0)])]) (fun j1 h => ?_) (fun v1 h => ?_)
 ·refine Ah AA rfl (qf Qj rfl (ql Vc rfl (AJ Kk rfl (Gk rfl (qm rfl ?_)))))
  refine Ew 14 h rfl (fun h => ?_) fun h => ?_
  ·refine qw 4 rfl (qp rfl (Ac ?_))
   exact sn [] h
  ·refine qf Qx rfl (ql Xx rfl (AJ Vm rfl (Gk rfl (qp rfl (Ac ?_)))))
   exact sn [] h
 ·refine Bc h (fun h => ?_) fun h => ?_
  ·refine wq rfl (AU L2 UP rfl (qs BS rfl (qe rfl ?_)))
   obtain rfl := sj h
   refine Af ((Aw 2 0 2001 1 _ rfl rfl rfl rfl).trans ((Aw 2 1 2002 1 _ rfl rfl rfl rfl).trans ((Aw 2 2 2003 1 _ rfl rfl rfl rfl).trans ((Aw 2 3 2004 6 _ rfl rfl rfl rfl).trans (sm [(1000, 2001), (1001, 2002), (1002, 2003), (1003, 2004)] [(2, oD (.ptr 2 0)), (3, bD false)] [(2, .box [.own 1000, .own 1001, .own 1002, .own 1003]), (1000, .vec 1 ((([] : List Int)).map An)), (1001, .vec 1 ((([] : List Int)).map An)), (1002, .vec 1 ((([] : List Int)).map An)), (1003, .vec 6 ((([] : List Av)).map AV))] rfl rfl))))) (Ap ?_)
   exact ⟨⟨[_, _], ⟨.cellN _ _ _ _ _ _ _ rfl rfl Cz BS rfl rfl (Gn rfl), tm⟩, rfl⟩, ⟨rfl, rfl, rfl, rfl, tv⟩⟩
  ·refine Al (wq rfl (qz L2 rfl (Ac (wp rfl (qe rfl ?_)))))
   refine AI (L := CQ N p0) h (fun v4 => mk [(1, oD (.ptr 1 0)), (2, oD (.ptr 2 0)), (4, oD (.ptr 4 0)), (5, iD v4.2.2.2)] [(1, .box (Cp p0)), (2, .box [.pure (.nil0), .pure (.nil0), .pure (.nil0), .pure (.nil0)]), (4, .box [.own 2005, .own 2006, .own 2007, .pure (.nil0)]), (2005, .vec 1 (v4.1.map An)), (2006, .vec 1 (v4.2.1.map An)), (2007, .vec 1 (v4.2.2.1.map An))]) (fun v5 => mk [(1, oD (.ptr 1 0)), (2, oD (.ptr 2 0)), (4, oD (.ptr 4 0))] [(1, .box (Cp p0)), (2, .box [.pure (.nil0), .pure (.nil0), .pure (.nil0), .pure (.nil0)]), (4, .box [.own 2008, .own 2009, .own 2010, .pure (.nil0)]), (2008, .vec 1 (v5.1.map An)), (2009, .vec 1 (v5.2.1.map An)), (2010, .vec 1 (v5.2.2.map An))]) (fun _ _ => rfl) ((Aw 4 0 2011 1 _ rfl rfl rfl rfl).trans ((Aw 4 1 2012 1 _ rfl rfl rfl rfl).trans ((Aw 4 2 2013 1 _ rfl rfl rfl rfl).trans (sm [(2005, 2011), (2006, 2012), (2007, 2013)] _ _ rfl rfl)))) (fun j4 n4 v4 h => ?_) (fun v5 s h hs => ?_)
   ·unfold CQ at h
    refine wp rfl (qm rfl (qf Qj rfl (ql Vc rfl (AJ Kk rfl (A0 rfl (Ac ?_))))))
    refine Bc h (fun h => ?_) fun h => ?_
    ·refine Al (AQ (AM (wq rfl (qf Qj rfl (ql Vc rfl (qm rfl ?_))))))
     refine BV h fun v7 a7 b7 h => qi Kk X9 a7 (Ag b7) rfl (qk YX rfl (MY rfl (by decide) (JE Yx Xj rfl (A9 rfl (qa rfl (Ac (wq rfl (qf Bt rfl (ql A2 rfl (qm rfl (Em Az De Kh rfl ?_)))))))))))
     refine Gl h fun c8 h => DQ (f := An) Az Az De KO Kh c8 rfl (qf Bt rfl (qs TI rfl (Ac (wq rfl (qf Gj rfl (ql A2 rfl (qf VX rfl (ql Vc rfl (qm rfl ?_)))))))))
     refine B4 h fun v9 a9 h => Ax [] (I4 N p0.fj v4.2.2.2 v9 a9) ZN rfl (qm rfl ?_)
     refine Gl h fun c10 h => MY rfl c10 (Em Az De Kh rfl ?_)
     refine Gl h fun c11 h => DQ (f := An) Az Az De KO Kh c11 rfl (qf Gj rfl (qs TI rfl (AO (by kernel_rfl) (Ah AA rfl (qf H5 rfl (ql A2 rfl (qf WK rfl (ql Vc rfl (qm rfl ?_)))))))))
     refine B4 h fun v12 a12 h => Ax [] (I4 N p0.fm v4.2.2.2 v12 a12) ZN rfl (qm rfl ?_)
     refine Gl h fun c13 h => MY rfl c13 (Em Az De Kh rfl ?_)
     refine Gl h fun c14 h => DQ (f := An) Az Az De KO Kh c14 rfl (qf H5 rfl (qs TI rfl (AO (by kernel_rfl) (Ah AA rfl (qm rfl (A9 rfl (qe rfl ?_)))))))
     exact sn [(2005, 40), (2006, 51), (2007, 62)] h
    ·refine AX ?_
     exact sn [(2008, 2005), (2009, 2006), (2010, 2007)] h
   ·refine Af hs (wp rfl (qe rfl ?_))
    refine AI (L := Bz N p0 v5) h (fun v15 => mk [(1, oD (.ptr 1 0)), (2, oD (.ptr 2 0)), (4, oD (.ptr 4 0)), (7, iD v15.2)] [(1, .box (Cp p0)), (2, .box [.pure (.nil0), .pure (.nil0), .pure (.nil0), .pure (.nil0)]), (4, .box [.own 2014, .own 2015, .own 2016, .own 2017]), (2014, .vec 1 (v5.1.map An)), (2015, .vec 1 (v5.2.1.map An)), (2016, .vec 1 (v5.2.2.map An)), (2017, .vec 6 (v15.1.map AV))]) (fun v16 => mk [(2, oD (.ptr 2 0)), (4, oD (.ptr 4 0))] [(2, .box [.pure (.nil0), .pure (.nil0), .pure (.nil0), .pure (.nil0)]), (4, .box [.own 2018, .own 2019, .own 2020, .own 2021]), (2018, .vec 1 (v5.1.map An)), (2019, .vec 1 (v5.2.1.map An)), (2020, .vec 1 (v5.2.2.map An)), (2021, .vec 6 (v16.map AV))]) (fun _ _ => rfl) ((Aw 4 3 2039 6 _ rfl rfl rfl rfl).trans (sm [(2014, 2008), (2015, 2009), (2016, 2010), (2017, 2039)] _ _ rfl rfl)) (fun j15 n15 v15 h => ?_) (fun v16 s h hs => ?_)
    ·unfold Bz at h
     refine AQ ?_
     refine AP h (fun v17 => mk [(1, oD (.ptr 1 0)), (2, oD (.ptr 2 0)), (4, oD (.ptr 4 0)), (7, iD v15.2), (74, bD v17)] [(1, .box (Cp p0)), (2, .box [.pure (.nil0), .pure (.nil0), .pure (.nil0), .pure (.nil0)]), (4, .box [.own 2022, .own 2023, .own 2024, .own 2025]), (2022, .vec 1 (v5.1.map An)), (2023, .vec 1 (v5.2.1.map An)), (2024, .vec 1 (v5.2.2.map An)), (2025, .vec 6 (v15.1.map AV))]) (fun j17 h => ?_) (fun v17 h => ?_)
     ·refine Ah AA rfl (qm rfl (qf Qx rfl (ql Xx rfl (AJ Vm rfl (A0 rfl (qm rfl ?_))))))
      refine Ew 69 h rfl (fun h => ?_) fun h => ?_
      ·refine qf Bt rfl (ql A2 rfl (F0 Az rfl (Gk rfl (qp rfl (Ac ?_)))))
       exact sn [(2022, 2014), (2023, 2015), (2024, 2016), (2025, 2017)] h
      ·refine qw 4 rfl (qp rfl (Ac ?_))
       exact sn [(2022, 2014), (2023, 2015), (2024, 2016), (2025, 2017)] h
     ·refine Bc h (fun h => ?_) fun h => ?_
      ·refine Al (AQ (AM (wq rfl (qf Qx rfl (ql Xx rfl (qm rfl ?_))))))
       refine BV h fun v20 a20 b20 h => qi Vm Yf a20 (Ag b20) rfl (qK aa Yf rfl (qz aq rfl (qs Yf rfl (Ac (wq rfl (qf W7 rfl (ql YX rfl (MY rfl (by decide) (JE Yx Xj rfl (A9 rfl (qf WA rfl (ql YX rfl (JE Yx Xj rfl (qf Bt rfl (ql A2 rfl (F0 Az rfl ?_))))))))))))))))
       refine Gl h fun c21 h => MY rfl c21 (qf V4 rfl (ql YX rfl (JE Yx Xj rfl (qf Bt rfl (ql A2 rfl (F0 Az rfl ?_))))))
       refine Gl h fun c22 h => MY rfl c22 (AU JK Yb rfl (qz JK rfl (qs DN rfl (AO (by kernel_rfl) ?_))))
       refine AP h (fun v23 => mk [(1, oD (.ptr 1 0)), (2, oD (.ptr 2 0)), (4, oD (.ptr 4 0)), (7, iD v15.2), (8, oD (.ptr 8 0)), (9, oD (.ptr 9 0))] [(1, .box (Cp p0)), (2, .box [.pure (.nil0), .pure (.nil0), .pure (.nil0), .pure (.nil0)]), (4, .box [.own 2026, .own 2027, .own 2028, .own 2029]), (8, .box (Ni v20)), (9, .box [iC ((wI .i64 (1 + (wI .i64 ((zB5 v20.ff 4)))))), iC ((zB5 ((wI .i64 v20.fg)) ((v5.1.length : Int)))), iC ((zB5 ((wI .i64 v20.fo)) ((v5.1.length : Int)))), .pure (.val (.bool v23)), .pure (.nil0), .pure (.nil0)]), (2026, .vec 1 (v5.1.map An)), (2027, .vec 1 (v5.2.1.map An)), (2028, .vec 1 (v5.2.2.map An)), (2029, .vec 6 (v15.1.map AV))]) (fun j23 h => ?_) (fun v23 h => ?_)
       ·refine Ah AA rfl (qf Wn rfl (ql QW rfl (qm rfl ?_)))
        refine Ew 104 h rfl (fun h => ?_) fun h => ?_
        ·refine qL Hp DN rfl ?_
         refine B4 h fun v25 a25 h => Ax [] (Cl N ((Av.mk ((wI .i64 (1 + (wI .i64 ((zB5 v20.ff 4)))))) ((zB5 ((wI .i64 v20.fg)) ((v5.1.length : Int)))) ((zB5 ((wI .i64 v20.fo)) ((v5.1.length : Int)))) false (([] : List (List Bool))) (([] : List (List Bool))))) v25 a25) Qf rfl (CD rfl (qp rfl (qf IG rfl (qs Nb rfl (Ac ?_)))))
         exact sn [(2026, 2022), (2027, 2023), (2028, 2024), (2029, 2025)] h
        ·refine qw 3 rfl (qp rfl (qf IG rfl (qs Nb rfl (Ac ?_))))
         exact sn [(2026, 2022), (2027, 2023), (2028, 2024), (2029, 2025)] h
       ·refine wq rfl (qf Bt rfl (ql A2 rfl (qf Dd rfl (ql Ce rfl ?_))))
        refine BV h fun v26 a26 b26 h => qI Az De a26 (Ag b26) rfl (qj Ce (Ag b26) rfl (qf Bt rfl (ql A2 rfl (qf H3 rfl (ql Ce rfl ?_)))))
        refine BV h fun v27 a27 b27 h => qI Az De a27 (Ag b27) rfl (qj Ce (Ag b27) rfl (qf WU rfl (ql Zx rfl ?_)))
        refine B4 h fun v28 a28 h => Ax [2030] (I0 N v26 v27 v20.fw false v28 a28) ZR rfl (qf Jq rfl (qs Zb rfl (AO (by kernel_rfl) ?_)))
        refine AP h (fun v29 => mk [(1, oD (.ptr 1 0)), (2, oD (.ptr 2 0)), (4, oD (.ptr 4 0)), (7, iD v15.2), (9, oD (.ptr 9 0))] [(1, .box (Cp p0)), (2, .box [.pure (.nil0), .pure (.nil0), .pure (.nil0), .pure (.nil0)]), (4, .box [.own 2031, .own 2032, .own 2033, .own 2034]), (9, .box [iC ((wI .i64 (1 + (wI .i64 ((zB5 v20.ff 4)))))), iC ((zB5 ((wI .i64 v20.fg)) ((v5.1.length : Int)))), iC ((zB5 ((wI .i64 v20.fo)) ((v5.1.length : Int)))), .pure (.val (.bool v23)), .own 2035, .own 2036]), (2031, .vec 1 (v5.1.map An)), (2032, .vec 1 (v5.2.1.map An)), (2033, .vec 1 (v5.2.2.map An)), (2034, .vec 6 (v15.1.map AV)), (2035, .vec 1 (v28.map (JG eB))), (2036, .vec 1 (v29.map (JG eB)))]) (fun j29 h => ?_) (fun v29 h => ?_)
        ·refine wq rfl (qf FY rfl (ql Ce rfl (BZ rfl (Ac ?_))))
         refine Bc h (fun h => ?_) fun h => ?_
         ·refine Ah AA rfl (qf Bt rfl (ql A2 rfl (qf Dd rfl (ql Ce rfl ?_))))
          refine BV h fun v31 a31 b31 h => qI Az De a31 (Ag b31) rfl (qj Ce (Ag b31) rfl (qf Bt rfl (ql A2 rfl (qf Dd rfl (ql Ce rfl ?_)))))
          refine BV h fun v32 a32 b32 h => qI Az De a32 (Ag b32) rfl (qj Ce (Ag b32) rfl (qf WO rfl (ql Zx rfl ?_)))
          refine B4 h fun v33 a33 h => Ax [2037] (I0 N v31 v32 v20.fy true v33 a33) ZR rfl (qf GG rfl (qs Zb rfl (AO (by kernel_rfl) ?_)))
          exact sn [(2031, 2026), (2032, 2027), (2033, 2028), (2034, 2029), (2035, 2030), (2036, 2037)] h
         ·refine Al ?_
          exact Vv _ h ((Aw 9 5 2038 1 _ rfl rfl rfl rfl).trans (sm [(2031, 2026), (2032, 2027), (2033, 2028), (2034, 2029), (2035, 2030), (2036, 2038)] _ _ rfl rfl))
        ·refine Ah AA rfl (qf Cg rfl (ql GD rfl (qL Hp DN rfl (C2 (AY 2035 _ _ rfl rfl) (C2 (AY 2036 _ _ rfl rfl) (Em DB DN JK rfl ?_))))))
         refine Gl h fun c34 h => DQ (f := AV) DB DB DN Xt JK c34 rfl (qf Cg rfl (qs Y9 rfl (Ac (Ah AA rfl (qm rfl (A9 rfl (qe rfl ?_)))))))
         exact sn [(2014, 2031), (2015, 2032), (2016, 2033), (2017, 149)] h
      ·refine AX ?_
       exact sn [(2018, 2022), (2019, 2023), (2020, 2024), (2021, 2025)] h
    ·refine Af hs (wq rfl (qL Cz BS rfl (qs BS rfl (qe rfl ?_))))
     obtain rfl := sj h
     refine Af (sm [(1000, 2018), (1001, 2019), (1002, 2020), (1003, 2021)] [(2, oD (.ptr 2 0)), (3, bD true)] [(2, .box [.own 1000, .own 1001, .own 1002, .own 1003]), (1000, .vec 1 (v5.1.map An)), (1001, .vec 1 (v5.2.1.map An)), (1002, .vec 1 (v5.2.2.map An)), (1003, .vec 6 (v16.map AV))] rfl rfl) (Ap ?_)
     exact ⟨⟨[_, _], ⟨.cellN _ _ _ _ _ _ _ rfl rfl Cz BS rfl rfl (Gn rfl), tm⟩, rfl⟩, ⟨rfl, rfl, rfl, rfl, tv⟩⟩
theorem Id (N : Nat) (p0 : List (List Bool)) (p1 : Int) (p2 : Int) (r : Bool) (h : DH N p0 p1 p2 = some r) : Ao zA0 81 [pD (.sl (p0.map (JG eB))), iD p1, iD p2] [] (bD r) := by
 unfold DH at h
 refine cw (n := 24) (rs := [.tmp 6]) Tryz.func81 fun w0 S0 => ?_
 refine wq rfl (qa rfl (Ac (wp rfl (qm rfl (AJ FO rfl (qm rfl (BH rfl (Ac ?_))))))))
 refine Bc h (fun h => ?_) fun h => ?_
 ·refine wq rfl (qe rfl ?_)
  obtain rfl := sj h
  refine Af (sm [] [(6, bD false)] [] rfl rfl) (Ap ?_)
  exact ⟨⟨[_], tm, rfl⟩, tv⟩
 ·refine Al (wp rfl (qe rfl ?_))
  refine AI (L := Cx N p0 p1 p2) h (fun v2 => mk [(0, pD (.sl (p0.map (JG eB)))), (1, iD p1), (2, iD p2), (7, iD v2)] []) (fun v3 => mk [] []) (fun _ _ => rfl) (sm [] _ _ rfl rfl) (fun j2 n2 v2 h => ?_) (fun v3 s h hs => ?_)
  ·unfold Cx at h
   refine wp rfl (qw 2 rfl (A0 rfl (Ac ?_)))
   refine Bc h (fun h => ?_) fun h => ?_
   ·refine Al (AQ (AM (wq rfl (qw 2 rfl ?_))))
    refine BV h fun v5 a5 b5 h => qi FO Lq a5 (Ag b5) rfl (qk L6 rfl (AJ Fa rfl (qm rfl (BH rfl (Ac ?_)))))
    refine Bc h (fun h => ?_) fun h => ?_
    ·refine wq rfl (qe rfl ?_)
     obtain rfl := sj h
     refine Af (sm [] [(6, bD false)] [] rfl rfl) (Ap ?_)
     exact ⟨⟨[_], tm, rfl⟩, tv⟩
    ·refine Al (Ah AA rfl (qm rfl (A9 rfl (qe rfl ?_))))
     exact sn [] h
   ·refine AX ?_
    exact sn [] h
  ·refine Af hs (wq rfl (qe rfl ?_))
   obtain rfl := sj h
   refine Af (sm [] [(6, bD true)] [] rfl rfl) (Ap ?_)
   exact ⟨⟨[_], tm, rfl⟩, tv⟩
theorem LA (N : Nat) (p0 : Aa) (p1 : Av) (r : Int) (h : EJ N p0 p1 = some r) : Ao zA0 53 [.e (.agg (Ae p0)), .e (.agg (Bj p1))] [] (iD r) := by
 unfold EJ at h
 refine cw (n := 101) (rs := [.tmp 4]) Tryz.func53 fun w0 S0 => ?_
 refine wq rfl (qb rfl (qb rfl (qa rfl (Ac (AQ ?_)))))
 refine AP h (fun v1 => mk [(2, oD (.ptr 2 0)), (3, oD (.ptr 3 0)), (22, bD v1)] [(2, .box (Ae p0)), (3, .box (Bj p1))]) (fun j1 h => ?_) (fun v1 h => ?_)
 ·refine Ah AA rfl (qf FY rfl (ql Ce rfl (A0 rfl (qm rfl ?_))))
  refine Ew 10 h rfl (fun h => ?_) fun h => ?_
  ·refine qw 3 rfl (qp rfl (qw 4 rfl (qu rfl (qu rfl (qn rfl (qp rfl (Ac ?_)))))))
   exact sn [] h
  ·refine qf FY rfl (ql Ce rfl (Gk rfl (qp rfl (qm rfl ?_))))
   refine Ew 15 h rfl (fun h => ?_) fun h => ?_
   ·refine qw 3 rfl (qu rfl (qu rfl (qn rfl (qp rfl (Ac ?_)))))
    exact sn [] h
   ·refine qf IG rfl (ql QW rfl (qm rfl ?_))
    refine Ew 18 h rfl (fun h => ?_) fun h => ?_
    ·refine qL Hp DN rfl ?_
     refine B4 h fun v5 a5 h => Ax [] (Cl N p1 v5 a5) Qf rfl (qp rfl (qp rfl (Ac ?_)))
     exact sn [] h
    ·refine qw 2 rfl (qp rfl (qp rfl (Ac ?_)))
     exact sn [] h
 ·refine Bc h (fun h => ?_) fun h => ?_
  ·refine wq rfl (qe rfl ?_)
   obtain rfl := sj h
   refine Af (sm [] [(4, iD 1)] [] rfl rfl) (Ap ?_)
   exact ⟨⟨[_], tm, rfl⟩, tv⟩
  ·refine Al (wq rfl (qf Bt rfl (ql A2 rfl (AJ Az rfl (qa rfl (Ac (AQ ?_)))))))
   refine AP h (fun v7 => mk [(2, oD (.ptr 2 0)), (3, oD (.ptr 3 0)), (45, bD v7)] [(2, .box (Ae p0)), (3, .box (Bj p1))]) (fun j7 h => ?_) (fun v7 h => ?_)
   ·refine Ah AA rfl (qf Dd rfl (ql Ce rfl (A0 rfl (qm rfl ?_))))
    refine Ew 29 h rfl (fun h => ?_) fun h => ?_
    ·refine qw 4 rfl (qp rfl (qw 4 rfl (qp rfl (qw 5 rfl (qp rfl (Ac ?_))))))
     exact sn [] h
    ·refine qf Dd rfl (ql Ce rfl (qm rfl (EO rfl (qp rfl (qm rfl ?_)))))
     refine Ew 35 h rfl (fun h => ?_) fun h => ?_
     ·refine qw 3 rfl (qp rfl (qw 5 rfl (qp rfl (Ac ?_))))
      exact sn [] h
     ·refine qf H3 rfl (ql Ce rfl (A0 rfl (qp rfl (qm rfl ?_))))
      refine Ew 40 h rfl (fun h => ?_) fun h => ?_
      ·refine qw 4 rfl (qp rfl (Ac ?_))
       exact sn [] h
      ·refine qf H3 rfl (ql Ce rfl (qm rfl (EO rfl (qp rfl (Ac ?_)))))
       exact sn [] h
   ·refine Bc h (fun h => ?_) fun h => ?_
    ·refine wq rfl (qe rfl ?_)
     obtain rfl := sj h
     refine Af (sm [] [(4, iD 4)] [] rfl rfl) (Ap ?_)
     exact ⟨⟨[_], tm, rfl⟩, tv⟩
    ·refine Al (wp rfl (qf Jq rfl (ql Kc rfl (qf Bt rfl (ql A2 rfl (qf Dd rfl (ql Ce rfl ?_)))))))
     refine BV h fun v12 a12 b12 h => qi Az De a12 (Ag b12) rfl (qk Ce rfl (qf Bt rfl (ql A2 rfl (qf H3 rfl (ql Ce rfl ?_)))))
     refine BV h fun v13 a13 b13 h => qi Az De a13 (Ag b13) rfl (qk Ce rfl ?_)
     refine B4 h fun v14 a14 h => Ax [] (Id N p1.fr v12 v13 v14 a14) YE rfl (CD rfl (AO (by kernel_rfl) ?_))
     refine Bc h (fun h => ?_) fun h => ?_
     ·refine wq rfl (qe rfl ?_)
      obtain rfl := sj h
      refine Af (sm [] [(4, iD 6)] [] rfl rfl) (Ap ?_)
      exact ⟨⟨[_], tm, rfl⟩, tv⟩
     ·refine Al (wp rfl (qf FY rfl (ql Ce rfl (BH rfl (Ac ?_)))))
      refine Bc h (fun h => ?_) fun h => ?_
      ·refine wp rfl (qf GG rfl (ql Kc rfl (AJ FO rfl (BH rfl (Ac ?_)))))
       refine Bc h (fun h => ?_) fun h => ?_
       ·refine wq rfl (qe rfl ?_)
        obtain rfl := sj h
        refine Af (sm [] [(4, iD 6)] [] rfl rfl) (Ap ?_)
        exact ⟨⟨[_], tm, rfl⟩, tv⟩
       ·refine Al (wq rfl (qe rfl ?_))
        obtain rfl := sj h
        refine Af (sm [] [(4, iD 0)] [] rfl rfl) (Ap ?_)
        exact ⟨⟨[_], tm, rfl⟩, tv⟩
      ·refine Al (wp rfl (qf GG rfl (ql Kc rfl (qf Bt rfl (ql A2 rfl (qf Dd rfl (ql Ce rfl ?_)))))))
       refine BV h fun v18 a18 b18 h => qi Az De a18 (Ag b18) rfl (qk Ce rfl (qf Bt rfl (ql A2 rfl (qf Dd rfl (ql Ce rfl ?_)))))
       refine BV h fun v19 a19 b19 h => qi Az De a19 (Ag b19) rfl (qk Ce rfl ?_)
       refine B4 h fun v20 a20 h => Ax [] (Id N p1.fp v18 v19 v20 a20) YE rfl (CD rfl (AO (by kernel_rfl) ?_))
       refine Bc h (fun h => ?_) fun h => ?_
       ·refine wq rfl (qe rfl ?_)
        obtain rfl := sj h
        refine Af (sm [] [(4, iD 6)] [] rfl rfl) (Ap ?_)
        exact ⟨⟨[_], tm, rfl⟩, tv⟩
       ·refine Al (wp rfl (qe rfl ?_))
        refine AI (L := B0 N p1) h (fun v22 => mk [(3, oD (.ptr 3 0)), (6, iD v22)] [(3, .box (Bj p1))]) (fun v23 => mk [] []) (fun _ _ => rfl) (sm [] _ _ rfl rfl) (fun j22 n22 v22 h => ?_) (fun v23 s h hs => ?_)
        ·unfold B0 at h
         refine wp rfl (qm rfl (qf GG rfl (ql Kc rfl (AJ FO rfl (A0 rfl (Ac ?_))))))
         refine Bc h (fun h => ?_) fun h => ?_
         ·refine Al (AQ (AM (wq rfl (qf GG rfl (ql Kc rfl (qm rfl ?_))))))
          refine BV h fun v25 a25 b25 h => qi FO Lq a25 (Ag b25) rfl (qk L6 rfl (qm rfl ?_))
          refine BV h fun v26 a26 b26 h => qi Fa Nb a26 (Ag b26) rfl (qk QW rfl (CD rfl (Ac ?_)))
          refine Bc h (fun h => ?_) fun h => ?_
          ·refine wq rfl (qe rfl ?_)
           obtain rfl := sj h
           refine Af (sm [] [(4, iD 1)] [] rfl rfl) (Ap ?_)
           exact ⟨⟨[_], tm, rfl⟩, tv⟩
          ·refine Al (Ah AA rfl (qm rfl (A9 rfl (qe rfl ?_))))
           exact sn [] h
         ·refine AX ?_
          exact sn [] h
        ·refine Af hs (wq rfl (qe rfl ?_))
         obtain rfl := sj h
         refine Af (sm [] [(4, iD 0)] [] rfl rfl) (Ap ?_)
         exact ⟨⟨[_], tm, rfl⟩, tv⟩
end Go.Lift
