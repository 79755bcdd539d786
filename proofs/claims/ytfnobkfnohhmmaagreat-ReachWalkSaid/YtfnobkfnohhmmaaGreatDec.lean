/- Lemmas for ReachWalkSaid, which YtfnobkfnohhmmaaGreatFinW5 proves. -/
import Derived.Test.YtfnobkfnohhmmaaGreatCode4
/- The laws, from typed inputs to the code. Written by a program (gen.py). -/
namespace Go.Lift
open Go.RowKit
open Go.Proofs
theorem QL : Rj Tryz.prog 5 Bb KC := QE (k := .u8) (by kernel_rfl) (fun _ => rfl)
theorem OS : Rj Tryz.prog 22 (ER Bb) (NV KC) := NE (el := 5) (by kernel_rfl) QL (fun _ => rfl)
theorem VX : Rj Tryz.prog 4 eB (fun _ => True) := Rz (by kernel_rfl) (fun _ => rfl)
theorem Sb : Rj Tryz.prog 71 WA UG := QE (k := .u16) (by kernel_rfl) (fun _ => rfl)
theorem Vm : Hz Tryz.prog 73 = some [5, 5, 5, 4, 71, 71] := by kernel_rfl
theorem UP : Rj Tryz.prog 73 Cf Hl := by
 intro d ts h
 obtain ⟨d, h⟩ := M0 Vm h
 obtain ⟨a0, _, rfl, h0, a1, _, rfl, h1, a2, _, rfl, h2, a3, _, rfl, h3, a4, _, rfl, h4, a5, _, rfl, h5, rfl⟩ := h
 obtain ⟨x0, rfl, w0⟩ := QL d _ h0
 obtain ⟨x1, rfl, w1⟩ := QL d _ h1
 obtain ⟨x2, rfl, w2⟩ := QL d _ h2
 obtain ⟨x3, rfl, w3⟩ := VX d _ h3
 obtain ⟨x4, rfl, w4⟩ := Sb d _ h4
 obtain ⟨x5, rfl, w5⟩ := Sb d _ h5
 exact ⟨⟨x0, x1, x2, x3, x4, x5⟩, rfl, w0, w1, w2, w3, w4, w5, trivial⟩
theorem UQ : Rj Tryz.prog 23 (ER Cf) (NV Hl) := NE (el := 73) (by kernel_rfl) UP (fun _ => rfl)
theorem T5 : Hz Tryz.prog 25 = some [22, 22, 22, 23] := by kernel_rfl
theorem UD : Rj Tryz.prog 25 Lc FL := by
 intro d ts h
 obtain ⟨d, h⟩ := M0 T5 h
 obtain ⟨a0, _, rfl, h0, a1, _, rfl, h1, a2, _, rfl, h2, a3, _, rfl, h3, rfl⟩ := h
 obtain ⟨x0, rfl, w0⟩ := OS d _ h0
 obtain ⟨x1, rfl, w1⟩ := OS d _ h1
 obtain ⟨x2, rfl, w2⟩ := OS d _ h2
 obtain ⟨x3, rfl, w3⟩ := UQ d _ h3
 exact ⟨⟨x0, x1, x2, x3⟩, rfl, w0, w1, w2, w3, trivial⟩
theorem SV (N d : Nat) (plain : ∀ (x0 : CI) (x1 : List Int), FL x0 → (NV KC) x1 → Dz N x0 x1 = some true) : ∀ Ds, I9 Tryz.prog d [25, 22] Ds → AC Tryz.prog 5 Ds [] (.e (.one (.pure (.val (.bool true))))) := by
 intro Ds h
 obtain ⟨u0, Ds0, rfl, f0, g0⟩ := K5 h
 obtain ⟨x0, rfl, w0⟩ := UD _ _ f0
 rw [Qq T5]
 obtain ⟨u1, Ds1, rfl, f1, g1⟩ := K5 g0
 obtain ⟨x1, rfl, w1⟩ := OS _ _ f1
 rw [Tt (by kernel_rfl)]
 obtain rfl := PD g1
 exact I2 N x0 x1 true (plain x0 x1 w0 w1)
end Go.Lift

