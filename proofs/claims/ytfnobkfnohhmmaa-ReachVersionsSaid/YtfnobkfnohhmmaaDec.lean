/- Lemmas for ReachVersionsSaid, which YtfnobkfnohhmmaaFinW4 proves. -/
import Derived.Test.YtfnobkfnohhmmaaCode4
/- The laws, from typed inputs to the code. Written by a program (gen.py). -/
namespace Go.Lift
open Go.RowKit
open Go.Proofs
theorem ND : Mc Try.prog 5 Bs J9 := Kd (k := .u8) (by kernel_rfl) (fun _ => rfl)
theorem Nc : Mc Try.prog 39 (EB Bs) (KY J9) := Hr (el := 5) (by kernel_rfl) ND (fun _ => rfl)
theorem R7 : Mc Try.prog 4 eB (fun _ => True) := Og (by kernel_rfl) (fun _ => rfl)
theorem OF : Mc Try.prog 82 SP QW := Kd (k := .u16) (by kernel_rfl) (fun _ => rfl)
theorem Sd : FJ Try.prog 84 = some [5, 5, 5, 4, 82, 82] := by kernel_rfl
theorem Q3 : Mc Try.prog 84 BQ F5 := by
 intro d ts h
 obtain ⟨d, h⟩ := IM Sd h
 obtain ⟨a0, _, rfl, h0, a1, _, rfl, h1, a2, _, rfl, h2, a3, _, rfl, h3, a4, _, rfl, h4, a5, _, rfl, h5, rfl⟩ := h
 obtain ⟨x0, rfl, w0⟩ := ND d _ h0
 obtain ⟨x1, rfl, w1⟩ := ND d _ h1
 obtain ⟨x2, rfl, w2⟩ := ND d _ h2
 obtain ⟨x3, rfl, w3⟩ := R7 d _ h3
 obtain ⟨x4, rfl, w4⟩ := OF d _ h4
 obtain ⟨x5, rfl, w5⟩ := OF d _ h5
 exact ⟨⟨x0, x1, x2, x3, x4, x5⟩, rfl, w0, w1, w2, w3, w4, w5, trivial⟩
theorem QI : Mc Try.prog 49 (EB BQ) (KY F5) := Hr (el := 84) (by kernel_rfl) Q3 (fun _ => rfl)
theorem Qn : FJ Try.prog 51 = some [39, 39, 39, 49] := by kernel_rfl
theorem Q5 : Mc Try.prog 51 IV Ey := by
 intro d ts h
 obtain ⟨d, h⟩ := IM Qn h
 obtain ⟨a0, _, rfl, h0, a1, _, rfl, h1, a2, _, rfl, h2, a3, _, rfl, h3, rfl⟩ := h
 obtain ⟨x0, rfl, w0⟩ := Nc d _ h0
 obtain ⟨x1, rfl, w1⟩ := Nc d _ h1
 obtain ⟨x2, rfl, w2⟩ := Nc d _ h2
 obtain ⟨x3, rfl, w3⟩ := QI d _ h3
 exact ⟨⟨x0, x1, x2, x3⟩, rfl, w0, w1, w2, w3, trivial⟩
theorem RY : Mc Try.prog 3 Aj PX := Kd (k := .i64) (by kernel_rfl) (fun _ => rfl)
theorem Pc : Mc Try.prog 22 (EB Aj) (KY PX) := Hr (el := 3) (by kernel_rfl) RY (fun _ => rfl)
theorem Q1 : Mc Try.prog 57 Bs J9 := Kd (k := .u8) (by kernel_rfl) (fun _ => rfl)
theorem Q8 : Mc Try.prog 40 (EB Bs) (KY J9) := Hr (el := 57) (by kernel_rfl) Q1 (fun _ => rfl)
theorem RP : FJ Try.prog 42 = some [22, 22, 40] := by kernel_rfl
theorem QV : Mc Try.prog 42 Af Ke := by
 intro d ts h
 obtain ⟨d, h⟩ := IM RP h
 obtain ⟨a0, _, rfl, h0, a1, _, rfl, h1, a2, _, rfl, h2, rfl⟩ := h
 obtain ⟨x0, rfl, w0⟩ := Pc d _ h0
 obtain ⟨x1, rfl, w1⟩ := Pc d _ h1
 obtain ⟨x2, rfl, w2⟩ := Q8 d _ h2
 exact ⟨⟨x0, x1, x2⟩, rfl, w0, w1, w2, trivial⟩
theorem QP : Mc Try.prog 31 (EB Af) (KY Ke) := Hr (el := 42) (by kernel_rfl) QV (fun _ => rfl)
theorem Py (N d : Nat) (plain : ∀ (x0 : Ce) (x1 : List Ae), Ey x0 → (KY Ke) x1 → Cp N x0 x1 = some true) : ∀ Ds, H0 Try.prog d [51, 31] Ds → Az Try.prog 4 Ds [] (.e (.one (.pure (.val (.bool true))))) := by
 intro Ds h
 obtain ⟨u0, Ds0, rfl, f0, g0⟩ := I1 h
 obtain ⟨x0, rfl, w0⟩ := Q5 _ _ f0
 rw [MY Qn]
 obtain ⟨u1, Ds1, rfl, f1, g1⟩ := I1 g0
 obtain ⟨x1, rfl, w1⟩ := QP _ _ f1
 rw [P6 (by kernel_rfl)]
 obtain rfl := Mr g1
 exact GD N x0 x1 true (plain x0 x1 w0 w1)
end Go.Lift

