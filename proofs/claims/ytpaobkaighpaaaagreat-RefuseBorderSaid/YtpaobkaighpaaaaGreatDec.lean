/- Lemmas for RefuseBorderSaid, which YtpaobkaighpaaaaGreatFinR5 proves. -/
import Derived.Test.YtpaobkaighpaaaaGreatCode6
namespace Go.Lift
open Go.RowKit
open Go.Proofs
theorem Sx : RT Tryz.prog 5 Bj I4 := S7 (k := .u8) (by kernel_rfl) (fun _ => rfl)
theorem MH : RT Tryz.prog 22 (E4 Bj) (J0 I4) := MY (el := 5) (by kernel_rfl) Sx (fun _ => rfl)
theorem Y6 : RT Tryz.prog 4 eB (fun _ => True) := Ve (by kernel_rfl) (fun _ => rfl)
theorem UO : RT Tryz.prog 99 ZX XH := S7 (k := .u16) (by kernel_rfl) (fun _ => rfl)
theorem Xf : HX Tryz.prog 101 = some [5, 5, 5, 4, 99, 99] := by kernel_rfl
theorem V6 : RT Tryz.prog 101 Cx H8 := by
 intro d ts h
 obtain ⟨d, h⟩ := LG Xf h
 obtain ⟨a0, _, rfl, h0, a1, _, rfl, h1, a2, _, rfl, h2, a3, _, rfl, h3, a4, _, rfl, h4, a5, _, rfl, h5, rfl⟩ := h
 obtain ⟨x0, rfl, w0⟩ := Sx d _ h0
 obtain ⟨x1, rfl, w1⟩ := Sx d _ h1
 obtain ⟨x2, rfl, w2⟩ := Sx d _ h2
 obtain ⟨x3, rfl, w3⟩ := Y6 d _ h3
 obtain ⟨x4, rfl, w4⟩ := UO d _ h4
 obtain ⟨x5, rfl, w5⟩ := UO d _ h5
 exact ⟨⟨x0, x1, x2, x3, x4, x5⟩, rfl, w0, w1, w2, w3, w4, w5, trivial⟩
theorem Xr : RT Tryz.prog 23 (E4 Cx) (J0 H8) := MY (el := 101) (by kernel_rfl) V6 (fun _ => rfl)
theorem Wy : HX Tryz.prog 25 = some [22, 22, 22, 23] := by kernel_rfl
theorem XE : RT Tryz.prog 25 Mk Gk := by
 intro d ts h
 obtain ⟨d, h⟩ := LG Wy h
 obtain ⟨a0, _, rfl, h0, a1, _, rfl, h1, a2, _, rfl, h2, a3, _, rfl, h3, rfl⟩ := h
 obtain ⟨x0, rfl, w0⟩ := MH d _ h0
 obtain ⟨x1, rfl, w1⟩ := MH d _ h1
 obtain ⟨x2, rfl, w2⟩ := MH d _ h2
 obtain ⟨x3, rfl, w3⟩ := Xr d _ h3
 exact ⟨⟨x0, x1, x2, x3⟩, rfl, w0, w1, w2, w3, trivial⟩
theorem Zw : HX Tryz.prog 41 = some [22, 22, 22] := by kernel_rfl
theorem Xh : RT Tryz.prog 41 Fn Fk := by
 intro d ts h
 obtain ⟨d, h⟩ := LG Zw h
 obtain ⟨a0, _, rfl, h0, a1, _, rfl, h1, a2, _, rfl, h2, rfl⟩ := h
 obtain ⟨x0, rfl, w0⟩ := MH d _ h0
 obtain ⟨x1, rfl, w1⟩ := MH d _ h1
 obtain ⟨x2, rfl, w2⟩ := MH d _ h2
 exact ⟨⟨x0, x1, x2⟩, rfl, w0, w1, w2, trivial⟩
theorem Xa : RT Tryz.prog 54 (E4 Fn) (J0 Fk) := MY (el := 41) (by kernel_rfl) Xh (fun _ => rfl)
theorem VJ (N d : Nat) (plain : ∀ (x0 : CU) (x1 : List B1), Gk x0 → (J0 Fk) x1 → Da N x0 x1 = some true) : ∀ Ds, Kj Tryz.prog d [25, 54] Ds → AC Tryz.prog 5 Ds [] (.e (.one (.pure (.val (.bool true))))) := by
 intro Ds h
 obtain ⟨u0, Ds0, rfl, f0, g0⟩ := MA h
 obtain ⟨x0, rfl, w0⟩ := XE _ _ f0
 rw [RO Wy]
 obtain ⟨u1, Ds1, rfl, f1, g1⟩ := MA g0
 obtain ⟨x1, rfl, w1⟩ := Xa _ _ f1
 rw [VB (by kernel_rfl)]
 obtain rfl := Re g1
 exact Jl N x0 x1 true (plain x0 x1 w0 w1)
end Go.Lift
