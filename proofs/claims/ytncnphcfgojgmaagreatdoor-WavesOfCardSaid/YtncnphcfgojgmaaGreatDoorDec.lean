/- Lemmas for WavesOfCardSaid, which YtncnphcfgojgmaaGreatDoorFinV8 proves. -/
import Derived.Test.YtncnphcfgojgmaaGreatDoorCode4
namespace Go.Lift
open Go.RowKit
open Go.Proofs
theorem RV : QW Tryz.prog 5 Cb Jw := Pr (k := .u8) (by kernel_rfl) (fun _ => rfl)
theorem Rw : QW Tryz.prog 22 (EU Cb) (Kh Jw) := LP (el := 5) (by kernel_rfl) RV (fun _ => rfl)
theorem Xt : QW Tryz.prog 4 eB (fun _ => True) := SM (by kernel_rfl) (fun _ => rfl)
theorem Tr : QW Tryz.prog 58 Yk Ws := Pr (k := .u16) (by kernel_rfl) (fun _ => rfl)
theorem WK : G5 Tryz.prog 60 = some [5, 5, 5, 4, 58, 58] := by kernel_rfl
theorem Wm : QW Tryz.prog 60 F5 Hp := by
 intro d ts h
 obtain ⟨d, h⟩ := KG WK h
 obtain ⟨a0, _, rfl, h0, a1, _, rfl, h1, a2, _, rfl, h2, a3, _, rfl, h3, a4, _, rfl, h4, a5, _, rfl, h5, rfl⟩ := h
 obtain ⟨x0, rfl, w0⟩ := RV d _ h0
 obtain ⟨x1, rfl, w1⟩ := RV d _ h1
 obtain ⟨x2, rfl, w2⟩ := RV d _ h2
 obtain ⟨x3, rfl, w3⟩ := Xt d _ h3
 obtain ⟨x4, rfl, w4⟩ := Tr d _ h4
 obtain ⟨x5, rfl, w5⟩ := Tr d _ h5
 exact ⟨⟨x0, x1, x2, x3, x4, x5⟩, rfl, w0, w1, w2, w3, w4, w5, trivial⟩
theorem VW : QW Tryz.prog 23 (EU F5) (Kh Hp) := LP (el := 60) (by kernel_rfl) Wm (fun _ => rfl)
theorem VD : G5 Tryz.prog 25 = some [22, 22, 22, 23] := by kernel_rfl
theorem VO : QW Tryz.prog 25 Lu FJ := by
 intro d ts h
 obtain ⟨d, h⟩ := KG VD h
 obtain ⟨a0, _, rfl, h0, a1, _, rfl, h1, a2, _, rfl, h2, a3, _, rfl, h3, rfl⟩ := h
 obtain ⟨x0, rfl, w0⟩ := Rw d _ h0
 obtain ⟨x1, rfl, w1⟩ := Rw d _ h1
 obtain ⟨x2, rfl, w2⟩ := Rw d _ h2
 obtain ⟨x3, rfl, w3⟩ := VW d _ h3
 exact ⟨⟨x0, x1, x2, x3⟩, rfl, w0, w1, w2, w3, trivial⟩
theorem TM : QW Tryz.prog 3 An U0 := Pr (k := .i64) (by kernel_rfl) (fun _ => rfl)
theorem W1 : G5 Tryz.prog 54 = some [3, 3, 3] := by kernel_rfl
theorem V8 : QW Tryz.prog 54 Af JY := by
 intro d ts h
 obtain ⟨d, h⟩ := KG W1 h
 obtain ⟨a0, _, rfl, h0, a1, _, rfl, h1, a2, _, rfl, h2, rfl⟩ := h
 obtain ⟨x0, rfl, w0⟩ := TM d _ h0
 obtain ⟨x1, rfl, w1⟩ := TM d _ h1
 obtain ⟨x2, rfl, w2⟩ := TM d _ h2
 exact ⟨⟨x0, x1, x2⟩, rfl, w0, w1, w2, trivial⟩
theorem V5 : QW Tryz.prog 28 (EU Af) (Kh JY) := LP (el := 54) (by kernel_rfl) V8 (fun _ => rfl)
theorem Ve (N d : Nat) (plain : ∀ (x0 : BV) (x1 : List Ab), FJ x0 → (Kh JY) x1 → Dr N x0 x1 = some true) : ∀ Ds, Js Tryz.prog d [25, 28] Ds → Ar Tryz.prog 5 Ds [] (.e (.one (.pure (.val (.bool true))))) := by
 intro Ds h
 obtain ⟨u0, Ds0, rfl, f0, g0⟩ := Li h
 obtain ⟨x0, rfl, w0⟩ := VO _ _ f0
 rw [Rc VD]
 obtain ⟨u1, Ds1, rfl, f1, g1⟩ := Li g0
 obtain ⟨x1, rfl, w1⟩ := V5 _ _ f1
 rw [Vc (by kernel_rfl)]
 obtain rfl := Qe g1
 exact JB N x0 x1 true (plain x0 x1 w0 w1)
end Go.Lift
