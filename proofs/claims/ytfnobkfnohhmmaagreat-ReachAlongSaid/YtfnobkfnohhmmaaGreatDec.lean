/- Lemmas for ReachAlongSaid, which YtfnobkfnohhmmaaGreatFinZ3 proves. -/
import Derived.Test.YtfnobkfnohhmmaaGreatCode5
namespace Go.Lift
open Go.RowKit
open Go.Proofs
theorem Rl : Qr Tryz.prog 5 Bj Ku := Ph (k := .u8) (by kernel_rfl) (fun _ => rfl)
theorem QG : Qr Tryz.prog 22 (Eu Bj) (Mq Ku) := Lz (el := 5) (by kernel_rfl) Rl (fun _ => rfl)
theorem Wi : Qr Tryz.prog 4 eB (fun _ => True) := Sx (by kernel_rfl) (fun _ => rfl)
theorem Sk : Qr Tryz.prog 71 Yi VI := Ph (k := .u16) (by kernel_rfl) (fun _ => rfl)
theorem W7 : GP Tryz.prog 73 = some [5, 5, 5, 4, 71, 71] := by kernel_rfl
theorem VB : Qr Tryz.prog 73 B6 He := by
 intro d ts h
 obtain ⟨d, h⟩ := Kh W7 h
 obtain ⟨a0, _, rfl, h0, a1, _, rfl, h1, a2, _, rfl, h2, a3, _, rfl, h3, a4, _, rfl, h4, a5, _, rfl, h5, rfl⟩ := h
 obtain ⟨x0, rfl, w0⟩ := Rl d _ h0
 obtain ⟨x1, rfl, w1⟩ := Rl d _ h1
 obtain ⟨x2, rfl, w2⟩ := Rl d _ h2
 obtain ⟨x3, rfl, w3⟩ := Wi d _ h3
 obtain ⟨x4, rfl, w4⟩ := Sk d _ h4
 obtain ⟨x5, rfl, w5⟩ := Sk d _ h5
 exact ⟨⟨x0, x1, x2, x3, x4, x5⟩, rfl, w0, w1, w2, w3, w4, w5, trivial⟩
theorem Vu : Qr Tryz.prog 23 (Eu B6) (Mq He) := Lz (el := 73) (by kernel_rfl) VB (fun _ => rfl)
theorem U9 : GP Tryz.prog 25 = some [22, 22, 22, 23] := by kernel_rfl
theorem VK : Qr Tryz.prog 25 K1 ES := by
 intro d ts h
 obtain ⟨d, h⟩ := Kh U9 h
 obtain ⟨a0, _, rfl, h0, a1, _, rfl, h1, a2, _, rfl, h2, a3, _, rfl, h3, rfl⟩ := h
 obtain ⟨x0, rfl, w0⟩ := QG d _ h0
 obtain ⟨x1, rfl, w1⟩ := QG d _ h1
 obtain ⟨x2, rfl, w2⟩ := QG d _ h2
 obtain ⟨x3, rfl, w3⟩ := Vu d _ h3
 exact ⟨⟨x0, x1, x2, x3⟩, rfl, w0, w1, w2, w3, trivial⟩
theorem Ty : Qr Tryz.prog 3 Ai T0 := Ph (k := .i64) (by kernel_rfl) (fun _ => rfl)
theorem Wp : GP Tryz.prog 40 = some [3, 3, 3] := by kernel_rfl
theorem VF : Qr Tryz.prog 40 AP KW := by
 intro d ts h
 obtain ⟨d, h⟩ := Kh Wp h
 obtain ⟨a0, _, rfl, h0, a1, _, rfl, h1, a2, _, rfl, h2, rfl⟩ := h
 obtain ⟨x0, rfl, w0⟩ := Ty d _ h0
 obtain ⟨x1, rfl, w1⟩ := Ty d _ h1
 obtain ⟨x2, rfl, w2⟩ := Ty d _ h2
 exact ⟨⟨x0, x1, x2⟩, rfl, w0, w1, w2, trivial⟩
theorem Vt : Qr Tryz.prog 26 (Eu AP) (Mq KW) := Lz (el := 40) (by kernel_rfl) VF (fun _ => rfl)
theorem UT (N d : Nat) (plain : ∀ (x0 : B5) (x1 : List Au), ES x0 → (Mq KW) x1 → Cr N x0 x1 = some true) : ∀ Ds, I7 Tryz.prog d [25, 26] Ds → AB Tryz.prog 3 Ds [] (.e (.one (.pure (.val (.bool true))))) := by
 intro Ds h
 obtain ⟨u0, Ds0, rfl, f0, g0⟩ := KX h
 obtain ⟨x0, rfl, w0⟩ := VK _ _ f0
 rw [QJ U9]
 obtain ⟨u1, Ds1, rfl, f1, g1⟩ := KX g0
 obtain ⟨x1, rfl, w1⟩ := Vt _ _ f1
 rw [Ua (by kernel_rfl)]
 obtain rfl := PN g1
 exact Is N x0 x1 true (plain x0 x1 w0 w1)
end Go.Lift
