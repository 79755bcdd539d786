/- Lemmas for PlanFromSaid, which YtohibkdhajkmdaaFinP7 proves. -/
import Derived.Test.YtohibkdhajkmdaaCode4
/- The laws, from typed inputs to the code. Written by a program (gen.py). -/
namespace Go.Lift
open Go.RowKit
open Go.Proofs
theorem QX : Ru Try.prog 5 A3 IT := Q2 (k := .u8) (by kernel_rfl) (fun _ => rfl)
theorem Lr : Ru Try.prog 22 (Ep A3) (KA IT) := NU (el := 5) (by kernel_rfl) QX (fun _ => rfl)
theorem WG : Ru Try.prog 4 eB (fun _ => True) := SX (by kernel_rfl) (fun _ => rfl)
theorem SB : Ru Try.prog 82 Xk U3 := Q2 (k := .u16) (by kernel_rfl) (fun _ => rfl)
theorem Wg : Hw Try.prog 84 = some [5, 5, 5, 4, 82, 82] := by kernel_rfl
theorem VK : Ru Try.prog 84 B6 GJ := by
 intro d ts h
 obtain ⟨d, h⟩ := Kf Wg h
 obtain ⟨a0, _, rfl, h0, a1, _, rfl, h1, a2, _, rfl, h2, a3, _, rfl, h3, a4, _, rfl, h4, a5, _, rfl, h5, rfl⟩ := h
 obtain ⟨x0, rfl, w0⟩ := QX d _ h0
 obtain ⟨x1, rfl, w1⟩ := QX d _ h1
 obtain ⟨x2, rfl, w2⟩ := QX d _ h2
 obtain ⟨x3, rfl, w3⟩ := WG d _ h3
 obtain ⟨x4, rfl, w4⟩ := SB d _ h4
 obtain ⟨x5, rfl, w5⟩ := SB d _ h5
 exact ⟨⟨x0, x1, x2, x3, x4, x5⟩, rfl, w0, w1, w2, w3, w4, w5, trivial⟩
theorem Vj : Ru Try.prog 23 (Ep B6) (KA GJ) := NU (el := 84) (by kernel_rfl) VK (fun _ => rfl)
theorem UX : Hw Try.prog 25 = some [22, 22, 22, 23] := by kernel_rfl
theorem VB : Ru Try.prog 25 KF EB := by
 intro d ts h
 obtain ⟨d, h⟩ := Kf UX h
 obtain ⟨a0, _, rfl, h0, a1, _, rfl, h1, a2, _, rfl, h2, a3, _, rfl, h3, rfl⟩ := h
 obtain ⟨x0, rfl, w0⟩ := Lr d _ h0
 obtain ⟨x1, rfl, w1⟩ := Lr d _ h1
 obtain ⟨x2, rfl, w2⟩ := Lr d _ h2
 obtain ⟨x3, rfl, w3⟩ := Vj d _ h3
 exact ⟨⟨x0, x1, x2, x3⟩, rfl, w0, w1, w2, w3, trivial⟩
theorem UV : Hw Try.prog 51 = some [22, 22, 22] := by kernel_rfl
theorem Vt : Ru Try.prog 51 K8 ED := by
 intro d ts h
 obtain ⟨d, h⟩ := Kf UV h
 obtain ⟨a0, _, rfl, h0, a1, _, rfl, h1, a2, _, rfl, h2, rfl⟩ := h
 obtain ⟨x0, rfl, w0⟩ := Lr d _ h0
 obtain ⟨x1, rfl, w1⟩ := Lr d _ h1
 obtain ⟨x2, rfl, w2⟩ := Lr d _ h2
 exact ⟨⟨x0, x1, x2⟩, rfl, w0, w1, w2, trivial⟩
theorem Ur (N d : Nat) (plain : ∀ (x0 : B8) (x1 : BJ), EB x0 → ED x1 → Dl N x0 x1 = some true) : ∀ Ds, IQ Try.prog d [25, 51] Ds → AB Try.prog 7 Ds [] (.e (.one (.pure (.val (.bool true))))) := by
 intro Ds h
 obtain ⟨u0, Ds0, rfl, f0, g0⟩ := KH h
 obtain ⟨x0, rfl, w0⟩ := VB _ _ f0
 rw [Mr UX]
 obtain ⟨u1, Ds1, rfl, f1, g1⟩ := KH g0
 obtain ⟨x1, rfl, w1⟩ := Vt _ _ f1
 rw [Mr UV]
 obtain rfl := P5 g1
 exact ID N x0 x1 true (plain x0 x1 w0 w1)
end Go.Lift

