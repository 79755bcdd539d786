/- Lemmas for ReachRegionSaid, which YtfnobkfnohhmmaaGreatFinZ4 proves. -/
import Derived.Test.YtfnobkfnohhmmaaGreatCode5
namespace Go.Lift
open Go.RowKit
open Go.Proofs
theorem R5 : SV Tryz.prog 5 Bg KY := Sf (k := .u8) (by kernel_rfl) (fun _ => rfl)
theorem RI : SV Tryz.prog 22 (EN Bg) (N8 KY) := O6 (el := 5) (by kernel_rfl) R5 (fun _ => rfl)
theorem XZ : SV Tryz.prog 4 eB (fun _ => True) := T2 (by kernel_rfl) (fun _ => rfl)
theorem TU : SV Tryz.prog 71 Y5 WX := Sf (k := .u16) (by kernel_rfl) (fun _ => rfl)
theorem XH : Ja Tryz.prog 73 = some [5, 5, 5, 4, 71, 71] := by kernel_rfl
theorem Xc : SV Tryz.prog 73 Cf Hv := by
 intro d ts h
 obtain ⟨d, h⟩ := NL XH h
 obtain ⟨a0, _, rfl, h0, a1, _, rfl, h1, a2, _, rfl, h2, a3, _, rfl, h3, a4, _, rfl, h4, a5, _, rfl, h5, rfl⟩ := h
 obtain ⟨x0, rfl, w0⟩ := R5 d _ h0
 obtain ⟨x1, rfl, w1⟩ := R5 d _ h1
 obtain ⟨x2, rfl, w2⟩ := R5 d _ h2
 obtain ⟨x3, rfl, w3⟩ := XZ d _ h3
 obtain ⟨x4, rfl, w4⟩ := TU d _ h4
 obtain ⟨x5, rfl, w5⟩ := TU d _ h5
 exact ⟨⟨x0, x1, x2, x3, x4, x5⟩, rfl, w0, w1, w2, w3, w4, w5, trivial⟩
theorem Wn : SV Tryz.prog 23 (EN Cf) (N8 Hv) := O6 (el := 73) (by kernel_rfl) Xc (fun _ => rfl)
theorem Wi : Ja Tryz.prog 25 = some [22, 22, 22, 23] := by kernel_rfl
theorem WS : SV Tryz.prog 25 Lb Fa := by
 intro d ts h
 obtain ⟨d, h⟩ := NL Wi h
 obtain ⟨a0, _, rfl, h0, a1, _, rfl, h1, a2, _, rfl, h2, a3, _, rfl, h3, rfl⟩ := h
 obtain ⟨x0, rfl, w0⟩ := RI d _ h0
 obtain ⟨x1, rfl, w1⟩ := RI d _ h1
 obtain ⟨x2, rfl, w2⟩ := RI d _ h2
 obtain ⟨x3, rfl, w3⟩ := Wn d _ h3
 exact ⟨⟨x0, x1, x2, x3⟩, rfl, w0, w1, w2, w3, trivial⟩
theorem Vd (N d : Nat) (plain : ∀ (x0 : Cg), Fa x0 → CB N x0 = some true) : ∀ Ds, Jq Tryz.prog d [25] Ds → AE Tryz.prog 4 Ds [] (.e (.one (.pure (.val (.bool true))))) := by
 intro Ds h
 obtain ⟨u0, Ds0, rfl, f0, g0⟩ := Pe h
 obtain ⟨x0, rfl, w0⟩ := WS _ _ f0
 rw [Re Wi]
 obtain rfl := Qu g0
 exact Iu N x0 true (plain x0 w0)
end Go.Lift
