/- Lemmas for CoreCertificateCardSaid, which YtbfklmmnpdifaaaGreatDoorFinC8 proves. -/
import Derived.Test.YtbfklmmnpdifaaaGreatDoorCode5
open Go.Proofs.Tryz renaming prog → zA0
namespace Go.Lift
open Go.RowKit
open Go.Proofs
theorem VW : WL zA0 5 DL Mz := VZ (k := .u8) (by kernel_rfl) (fun _ => rfl)
theorem UR : WL zA0 22 (FO DL) (O8 Mz) := Q5 (el := 5) (by kernel_rfl) VW (fun _ => rfl)
theorem dz : WL zA0 4 eB (fun _ => True) := Yg (by kernel_rfl) (fun _ => rfl)
theorem Yp : WL zA0 99 ft aI := VZ (k := .u16) (by kernel_rfl) (fun _ => rfl)
theorem bn : KN zA0 101 = some [5, 5, 5, 4, 99, 99] := by kernel_rfl
theorem ZC : WL zA0 101 Hx II := by
 intro d ts h
 obtain ⟨d, h⟩ := Qh bn h
 obtain ⟨a0, _, rfl, h0, a1, _, rfl, h1, a2, _, rfl, h2, a3, _, rfl, h3, a4, _, rfl, h4, a5, _, rfl, h5, rfl⟩ := h
 obtain ⟨x0, rfl, w0⟩ := VW d _ h0
 obtain ⟨x1, rfl, w1⟩ := VW d _ h1
 obtain ⟨x2, rfl, w2⟩ := VW d _ h2
 obtain ⟨x3, rfl, w3⟩ := dz d _ h3
 obtain ⟨x4, rfl, w4⟩ := Yp d _ h4
 obtain ⟨x5, rfl, w5⟩ := Yp d _ h5
 exact ⟨⟨x0, x1, x2, x3, x4, x5⟩, rfl, w0, w1, w2, w3, w4, w5, trivial⟩
theorem aZ : WL zA0 23 (FO Hx) (O8 II) := Q5 (el := 101) (by kernel_rfl) ZC (fun _ => rfl)
theorem ac : KN zA0 25 = some [22, 22, 22, 23] := by kernel_rfl
theorem bL : WL zA0 25 Ns F0 := by
 intro d ts h
 obtain ⟨d, h⟩ := Qh ac h
 obtain ⟨a0, _, rfl, h0, a1, _, rfl, h1, a2, _, rfl, h2, a3, _, rfl, h3, rfl⟩ := h
 obtain ⟨x0, rfl, w0⟩ := UR d _ h0
 obtain ⟨x1, rfl, w1⟩ := UR d _ h1
 obtain ⟨x2, rfl, w2⟩ := UR d _ h2
 obtain ⟨x3, rfl, w3⟩ := aZ d _ h3
 exact ⟨⟨x0, x1, x2, x3⟩, rfl, w0, w1, w2, w3, trivial⟩
theorem ZM (N d : Nat) (plain : ∀ (x0 : BN), F0 x0 → CY N x0 = some true) : ∀ Ds, Ls zA0 d [25] Ds → An zA0 8 Ds [] (.e (.one (.pure (.val (.bool true))))) := by
 intro Ds h
 obtain ⟨u0, Ds0, rfl, f0, g0⟩ := SU h
 obtain ⟨x0, rfl, w0⟩ := bL _ _ f0
 rw [U7 ac]
 obtain rfl := Tu g0
 exact I8 N x0 true (plain x0 w0)
end Go.Lift
