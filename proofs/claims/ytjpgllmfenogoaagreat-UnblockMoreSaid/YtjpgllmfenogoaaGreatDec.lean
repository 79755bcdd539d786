/- Lemmas for UnblockMoreSaid, which YtjpgllmfenogoaaGreatFinU5 proves. -/
import Derived.Test.YtjpgllmfenogoaaGreatCode5
namespace Go.Lift
open Go.RowKit
open Go.Proofs
theorem UG : W7 Tryz.prog 5 ER MN := Wk (k := .u8) (by kernel_rfl) (fun _ => rfl)
theorem U5 : W7 Tryz.prog 22 (FX ER) (Qz MN) := RD (el := 5) (by kernel_rfl) UG (fun _ => rfl)
theorem cd : W7 Tryz.prog 4 eB (fun _ => True) := XK (by kernel_rfl) (fun _ => rfl)
theorem Yb : W7 Tryz.prog 86 ey bh := Wk (k := .u16) (by kernel_rfl) (fun _ => rfl)
theorem di : JE Tryz.prog 88 = some [5, 5, 5, 4, 86, 86] := by kernel_rfl
theorem bn : W7 Tryz.prog 88 H0 Jg := by
 intro d ts h
 obtain ⟨d, h⟩ := Qb di h
 obtain ⟨a0, _, rfl, h0, a1, _, rfl, h1, a2, _, rfl, h2, a3, _, rfl, h3, a4, _, rfl, h4, a5, _, rfl, h5, rfl⟩ := h
 obtain ⟨x0, rfl, w0⟩ := UG d _ h0
 obtain ⟨x1, rfl, w1⟩ := UG d _ h1
 obtain ⟨x2, rfl, w2⟩ := UG d _ h2
 obtain ⟨x3, rfl, w3⟩ := cd d _ h3
 obtain ⟨x4, rfl, w4⟩ := Yb d _ h4
 obtain ⟨x5, rfl, w5⟩ := Yb d _ h5
 exact ⟨⟨x0, x1, x2, x3, x4, x5⟩, rfl, w0, w1, w2, w3, w4, w5, trivial⟩
theorem aR : W7 Tryz.prog 23 (FX H0) (Qz Jg) := RD (el := 88) (by kernel_rfl) bn (fun _ => rfl)
theorem ac : JE Tryz.prog 25 = some [22, 22, 22, 23] := by kernel_rfl
theorem aE : W7 Tryz.prog 25 NS GF := by
 intro d ts h
 obtain ⟨d, h⟩ := Qb ac h
 obtain ⟨a0, _, rfl, h0, a1, _, rfl, h1, a2, _, rfl, h2, a3, _, rfl, h3, rfl⟩ := h
 obtain ⟨x0, rfl, w0⟩ := U5 d _ h0
 obtain ⟨x1, rfl, w1⟩ := U5 d _ h1
 obtain ⟨x2, rfl, w2⟩ := U5 d _ h2
 obtain ⟨x3, rfl, w3⟩ := aR d _ h3
 exact ⟨⟨x0, x1, x2, x3⟩, rfl, w0, w1, w2, w3, trivial⟩
theorem ZE (N d : Nat) (plain : ∀ (x0 : B1) (x1 : Int), GF x0 → MN x1 → Ef N x0 x1 = some true) : ∀ Ds, Lu Tryz.prog d [25, 5] Ds → Ax Tryz.prog 5 Ds [] (.e (.one (.pure (.val (.bool true))))) := by
 intro Ds h
 obtain ⟨u0, Ds0, rfl, f0, g0⟩ := NT h
 obtain ⟨x0, rfl, w0⟩ := aE _ _ f0
 rw [U7 ac]
 obtain ⟨u1, Ds1, rfl, f1, g1⟩ := NT g0
 obtain ⟨x1, rfl, w1⟩ := UG _ _ f1
 rw [Za (by kernel_rfl)]
 obtain rfl := Ui g1
 exact KB N x0 x1 true (plain x0 x1 w0 w1)
end Go.Lift
