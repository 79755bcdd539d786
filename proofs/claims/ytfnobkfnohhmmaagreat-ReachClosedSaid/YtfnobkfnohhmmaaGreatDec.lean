/- Lemmas for ReachClosedSaid, which YtfnobkfnohhmmaaGreatFinZ6 proves. -/
import Derived.Test.YtfnobkfnohhmmaaGreatCode5
namespace Go.Lift
open Go.RowKit
open Go.Proofs
theorem RZ : SH Tryz.prog 5 Bg KR := RY (k := .u8) (by kernel_rfl) (fun _ => rfl)
theorem RO : SH Tryz.prog 22 (EN Bg) (Oa KR) := O4 (el := 5) (by kernel_rfl) RZ (fun _ => rfl)
theorem Yz : SH Tryz.prog 4 eB (fun _ => True) := TB (by kernel_rfl) (fun _ => rfl)
theorem TA : SH Tryz.prog 71 Zs WX := RY (k := .u16) (by kernel_rfl) (fun _ => rfl)
theorem Xr : Jc Tryz.prog 73 = some [5, 5, 5, 4, 71, 71] := by kernel_rfl
theorem Wu : SH Tryz.prog 73 Ch Ht := by
 intro d ts h
 obtain ⟨d, h⟩ := Nl Xr h
 obtain ⟨a0, _, rfl, h0, a1, _, rfl, h1, a2, _, rfl, h2, a3, _, rfl, h3, a4, _, rfl, h4, a5, _, rfl, h5, rfl⟩ := h
 obtain ⟨x0, rfl, w0⟩ := RZ d _ h0
 obtain ⟨x1, rfl, w1⟩ := RZ d _ h1
 obtain ⟨x2, rfl, w2⟩ := RZ d _ h2
 obtain ⟨x3, rfl, w3⟩ := Yz d _ h3
 obtain ⟨x4, rfl, w4⟩ := TA d _ h4
 obtain ⟨x5, rfl, w5⟩ := TA d _ h5
 exact ⟨⟨x0, x1, x2, x3, x4, x5⟩, rfl, w0, w1, w2, w3, w4, w5, trivial⟩
theorem WC : SH Tryz.prog 23 (EN Ch) (Oa Ht) := O4 (el := 73) (by kernel_rfl) Wu (fun _ => rfl)
theorem Wi : Jc Tryz.prog 25 = some [22, 22, 22, 23] := by kernel_rfl
theorem WD : SH Tryz.prog 25 Lz E4 := by
 intro d ts h
 obtain ⟨d, h⟩ := Nl Wi h
 obtain ⟨a0, _, rfl, h0, a1, _, rfl, h1, a2, _, rfl, h2, a3, _, rfl, h3, rfl⟩ := h
 obtain ⟨x0, rfl, w0⟩ := RO d _ h0
 obtain ⟨x1, rfl, w1⟩ := RO d _ h1
 obtain ⟨x2, rfl, w2⟩ := RO d _ h2
 obtain ⟨x3, rfl, w3⟩ := WC d _ h3
 exact ⟨⟨x0, x1, x2, x3⟩, rfl, w0, w1, w2, w3, trivial⟩
theorem U7 (N d : Nat) (plain : ∀ (x0 : Ci), E4 x0 → CC N x0 = some true) : ∀ Ds, Jr Tryz.prog d [25] Ds → AE Tryz.prog 6 Ds [] (.e (.one (.pure (.val (.bool true))))) := by
 intro Ds h
 obtain ⟨u0, Ds0, rfl, f0, g0⟩ := PP h
 obtain ⟨x0, rfl, w0⟩ := WD _ _ f0
 rw [RU Wi]
 obtain rfl := Q3 g0
 exact Ix N x0 true (plain x0 w0)
end Go.Lift
