/- Lemmas for ReachErrorsSaid, which YtfnobkfnohhmmaaFinW3 proves. -/
import Derived.Test.YtfnobkfnohhmmaaCode4
/- The laws, from typed inputs to the code. Written by a program (gen.py). -/
namespace Go.Lift
open Go.RowKit
open Go.Proofs
theorem JE : L4 Try.prog 3 Ai JL := On (k := .i64) (by kernel_rfl) (fun _ => rfl)
theorem L5 : L4 Try.prog 22 (EM Ai) (L3 JL) := GT (el := 3) (by kernel_rfl) JE (fun _ => rfl)
theorem OV : L4 Try.prog 4 eB (fun _ => True) := NC (by kernel_rfl) (fun _ => rfl)
theorem Pj : L4 Try.prog 66 (EM eB) (L3 (fun _ => True)) := GT (el := 4) (by kernel_rfl) OV (fun _ => rfl)
theorem N2 : L4 Try.prog 60 (EM (EM eB)) (L3 (L3 (fun _ => True))) := GT (el := 66) (by kernel_rfl) Pj (fun _ => rfl)
theorem Qk : Fj Try.prog 62 = some [3, 3, 3, 4, 60, 60] := by kernel_rfl
theorem PI : L4 Try.prog 62 Ar I4 := by
 intro d ts h
 obtain ⟨d, h⟩ := Ih Qk h
 obtain ⟨a0, _, rfl, h0, a1, _, rfl, h1, a2, _, rfl, h2, a3, _, rfl, h3, a4, _, rfl, h4, a5, _, rfl, h5, rfl⟩ := h
 obtain ⟨x0, rfl, w0⟩ := JE d _ h0
 obtain ⟨x1, rfl, w1⟩ := JE d _ h1
 obtain ⟨x2, rfl, w2⟩ := JE d _ h2
 obtain ⟨x3, rfl, w3⟩ := OV d _ h3
 obtain ⟨x4, rfl, w4⟩ := N2 d _ h4
 obtain ⟨x5, rfl, w5⟩ := N2 d _ h5
 exact ⟨⟨x0, x1, x2, x3, x4, x5⟩, rfl, w0, w1, w2, w3, w4, w5, trivial⟩
theorem PG : L4 Try.prog 23 (EM Ar) (L3 I4) := GT (el := 62) (by kernel_rfl) PI (fun _ => rfl)
theorem O0 : Fj Try.prog 25 = some [22, 22, 22, 23] := by kernel_rfl
theorem Pn : L4 Try.prog 25 LJ Ht := by
 intro d ts h
 obtain ⟨d, h⟩ := Ih O0 h
 obtain ⟨a0, _, rfl, h0, a1, _, rfl, h1, a2, _, rfl, h2, a3, _, rfl, h3, rfl⟩ := h
 obtain ⟨x0, rfl, w0⟩ := L5 d _ h0
 obtain ⟨x1, rfl, w1⟩ := L5 d _ h1
 obtain ⟨x2, rfl, w2⟩ := L5 d _ h2
 obtain ⟨x3, rfl, w3⟩ := PG d _ h3
 exact ⟨⟨x0, x1, x2, x3⟩, rfl, w0, w1, w2, w3, trivial⟩
theorem QE : Fj Try.prog 65 = some [3, 3, 3] := by kernel_rfl
theorem O9 : L4 Try.prog 65 AC Iu := by
 intro d ts h
 obtain ⟨d, h⟩ := Ih QE h
 obtain ⟨a0, _, rfl, h0, a1, _, rfl, h1, a2, _, rfl, h2, rfl⟩ := h
 obtain ⟨x0, rfl, w0⟩ := JE d _ h0
 obtain ⟨x1, rfl, w1⟩ := JE d _ h1
 obtain ⟨x2, rfl, w2⟩ := JE d _ h2
 exact ⟨⟨x0, x1, x2⟩, rfl, w0, w1, w2, trivial⟩
theorem Pl : L4 Try.prog 26 (EM AC) (L3 Iu) := GT (el := 65) (by kernel_rfl) O9 (fun _ => rfl)
theorem Oi (N d : Nat) (plain : ∀ (x0 : Ak) (x1 : List Au), Ht x0 → (L3 Iu) x1 → B9 N x0 x1 = some true) : ∀ Ds, Hk Try.prog d [25, 26] Ds → Az Try.prog 3 Ds [] (.e (.one (.pure (.val (.bool true))))) := by
 intro Ds h
 obtain ⟨u0, Ds0, rfl, f0, g0⟩ := IL h
 obtain ⟨x0, rfl, w0⟩ := Pn _ _ f0
 rw [Mk O0]
 obtain ⟨u1, Ds1, rfl, f1, g1⟩ := IL g0
 obtain ⟨x1, rfl, w1⟩ := Pl _ _ f1
 rw [N8 (by kernel_rfl)]
 obtain rfl := LI g1
 exact Gq N x0 x1 true (plain x0 x1 w0 w1)
end Go.Lift

