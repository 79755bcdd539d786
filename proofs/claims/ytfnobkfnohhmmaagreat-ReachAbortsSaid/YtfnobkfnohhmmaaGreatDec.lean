/- Lemmas for ReachAbortsSaid, which YtfnobkfnohhmmaaGreatFinW8 proves. -/
import Derived.Test.YtfnobkfnohhmmaaGreatCode4
namespace Go.Lift
open Go.RowKit
open Go.Proofs
theorem Qu : QW Tryz.prog 5 A9 Jp := Qs (k := .u8) (by kernel_rfl) (fun _ => rfl)
theorem L3 : QW Tryz.prog 22 (EP A9) (Mq Jp) := Nh (el := 5) (by kernel_rfl) Qu (fun _ => rfl)
theorem Vu : QW Tryz.prog 4 eB (fun _ => True) := R5 (by kernel_rfl) (fun _ => rfl)
theorem RE : QW Tryz.prog 71 Xf UG := Qs (k := .u16) (by kernel_rfl) (fun _ => rfl)
theorem Vp : GP Tryz.prog 73 = some [5, 5, 5, 4, 71, 71] := by kernel_rfl
theorem U5 : QW Tryz.prog 73 B0 GA := by
 intro d ts h
 obtain ⟨d, h⟩ := LX Vp h
 obtain ⟨a0, _, rfl, h0, a1, _, rfl, h1, a2, _, rfl, h2, a3, _, rfl, h3, a4, _, rfl, h4, a5, _, rfl, h5, rfl⟩ := h
 obtain ⟨x0, rfl, w0⟩ := Qu d _ h0
 obtain ⟨x1, rfl, w1⟩ := Qu d _ h1
 obtain ⟨x2, rfl, w2⟩ := Qu d _ h2
 obtain ⟨x3, rfl, w3⟩ := Vu d _ h3
 obtain ⟨x4, rfl, w4⟩ := RE d _ h4
 obtain ⟨x5, rfl, w5⟩ := RE d _ h5
 exact ⟨⟨x0, x1, x2, x3, x4, x5⟩, rfl, w0, w1, w2, w3, w4, w5, trivial⟩
theorem Vc : QW Tryz.prog 23 (EP B0) (Mq GA) := Nh (el := 73) (by kernel_rfl) U5 (fun _ => rfl)
theorem T8 : GP Tryz.prog 25 = some [22, 22, 22, 23] := by kernel_rfl
theorem Vb : QW Tryz.prog 25 JW E2 := by
 intro d ts h
 obtain ⟨d, h⟩ := LX T8 h
 obtain ⟨a0, _, rfl, h0, a1, _, rfl, h1, a2, _, rfl, h2, a3, _, rfl, h3, rfl⟩ := h
 obtain ⟨x0, rfl, w0⟩ := L3 d _ h0
 obtain ⟨x1, rfl, w1⟩ := L3 d _ h1
 obtain ⟨x2, rfl, w2⟩ := L3 d _ h2
 obtain ⟨x3, rfl, w3⟩ := Vc d _ h3
 exact ⟨⟨x0, x1, x2, x3⟩, rfl, w0, w1, w2, w3, trivial⟩
theorem TG (N d : Nat) (plain : ∀ (x0 : Cd) (x1 : List Int) (x2 : List Int), E2 x0 → (Mq Jp) x1 → (Mq Jp) x2 → CF N x0 x1 x2 = some true) : ∀ Ds, Iy Tryz.prog d [25, 22, 22] Ds → AB Tryz.prog 8 Ds [] (.e (.one (.pure (.val (.bool true))))) := by
 intro Ds h
 obtain ⟨u0, Ds0, rfl, f0, g0⟩ := Ij h
 obtain ⟨x0, rfl, w0⟩ := Vb _ _ f0
 rw [PG T8]
 obtain ⟨u1, Ds1, rfl, f1, g1⟩ := Ij g0
 obtain ⟨x1, rfl, w1⟩ := L3 _ _ f1
 rw [P7 (by kernel_rfl)]
 obtain ⟨u2, Ds2, rfl, f2, g2⟩ := Ij g1
 obtain ⟨x2, rfl, w2⟩ := L3 _ _ f2
 rw [P7 (by kernel_rfl)]
 obtain rfl := OS g2
 exact Hx N x0 x1 x2 true (plain x0 x1 x2 w0 w1 w2)
end Go.Lift
