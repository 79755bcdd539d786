/- Lemmas for PlanFindSaid, which YtohibkdhajkmdaaFinP3 proves. -/
import Derived.Test.YtohibkdhajkmdaaCode4
/- The laws, from typed inputs to the code. Written by a program (gen.py). -/
namespace Go.Lift
open Go.RowKit
open Go.Proofs
theorem Q3 : R9 Try.prog 5 A9 JU := Rq (k := .u8) (by kernel_rfl) (fun _ => rfl)
theorem QT : R9 Try.prog 22 (Et A9) (Mf JU) := NP (el := 5) (by kernel_rfl) Q3 (fun _ => rfl)
theorem Wi : R9 Try.prog 4 eB (fun _ => True) := SS (by kernel_rfl) (fun _ => rfl)
theorem SW : R9 Try.prog 82 Xy VN := Rq (k := .u16) (by kernel_rfl) (fun _ => rfl)
theorem Wt : Iy Try.prog 84 = some [5, 5, 5, 4, 82, 82] := by kernel_rfl
theorem VO : R9 Try.prog 84 BY GG := by
 intro d ts h
 obtain ⟨d, h⟩ := MZ Wt h
 obtain ⟨a0, _, rfl, h0, a1, _, rfl, h1, a2, _, rfl, h2, a3, _, rfl, h3, a4, _, rfl, h4, a5, _, rfl, h5, rfl⟩ := h
 obtain ⟨x0, rfl, w0⟩ := Q3 d _ h0
 obtain ⟨x1, rfl, w1⟩ := Q3 d _ h1
 obtain ⟨x2, rfl, w2⟩ := Q3 d _ h2
 obtain ⟨x3, rfl, w3⟩ := Wi d _ h3
 obtain ⟨x4, rfl, w4⟩ := SW d _ h4
 obtain ⟨x5, rfl, w5⟩ := SW d _ h5
 exact ⟨⟨x0, x1, x2, x3, x4, x5⟩, rfl, w0, w1, w2, w3, w4, w5, trivial⟩
theorem Vg : R9 Try.prog 23 (Et BY) (Mf GG) := NP (el := 84) (by kernel_rfl) VO (fun _ => rfl)
theorem U2 : Iy Try.prog 25 = some [22, 22, 22, 23] := by kernel_rfl
theorem Ve : R9 Try.prog 25 K7 EG := by
 intro d ts h
 obtain ⟨d, h⟩ := MZ U2 h
 obtain ⟨a0, _, rfl, h0, a1, _, rfl, h1, a2, _, rfl, h2, a3, _, rfl, h3, rfl⟩ := h
 obtain ⟨x0, rfl, w0⟩ := QT d _ h0
 obtain ⟨x1, rfl, w1⟩ := QT d _ h1
 obtain ⟨x2, rfl, w2⟩ := QT d _ h2
 obtain ⟨x3, rfl, w3⟩ := Vg d _ h3
 exact ⟨⟨x0, x1, x2, x3⟩, rfl, w0, w1, w2, w3, trivial⟩
theorem UD (N d : Nat) (plain : ∀ (x0 : BL), EG x0 → Dj N x0 = some true) : ∀ Ds, IJ Try.prog d [25] Ds → AA Try.prog 3 Ds [] (.e (.one (.pure (.val (.bool true))))) := by
 intro Ds h
 obtain ⟨u0, Ds0, rfl, f0, g0⟩ := OS h
 obtain ⟨x0, rfl, w0⟩ := Ve _ _ f0
 rw [QE U2]
 obtain rfl := Py g0
 exact IX N x0 true (plain x0 w0)
end Go.Lift

