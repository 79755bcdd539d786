/- Lemmas for CoreCheckCardSaid, which YtbfklmmnpdifaaaGreatDoorFinC7 proves. -/
import Derived.Test.YtbfklmmnpdifaaaGreatDoorCode5
open Go.Proofs.Tryz renaming prog → zA
namespace Go.Lift
open Go.RowKit
open Go.Proofs
theorem VL : SS zA 5 Du Ly := Pf (k := .u8) (by kernel_rfl) (fun _ => rfl)
theorem Uy : SS zA 22 (FP Du) (LH Ly) := K1 (el := 5) (by kernel_rfl) VL (fun _ => rfl)
theorem ed : SS zA 4 eB (fun _ => True) := XF (by kernel_rfl) (fun _ => rfl)
theorem WQ : SS zA 99 ft bp := Pf (k := .u16) (by kernel_rfl) (fun _ => rfl)
theorem aU : Iq zA 101 = some [5, 5, 5, 4, 99, 99] := by kernel_rfl
theorem YY : SS zA 101 Hy IV := by
 intro d ts h
 obtain ⟨d, h⟩ := M0 aU h
 obtain ⟨a0, _, rfl, h0, a1, _, rfl, h1, a2, _, rfl, h2, a3, _, rfl, h3, a4, _, rfl, h4, a5, _, rfl, h5, rfl⟩ := h
 obtain ⟨x0, rfl, w0⟩ := VL d _ h0
 obtain ⟨x1, rfl, w1⟩ := VL d _ h1
 obtain ⟨x2, rfl, w2⟩ := VL d _ h2
 obtain ⟨x3, rfl, w3⟩ := ed d _ h3
 obtain ⟨x4, rfl, w4⟩ := WQ d _ h4
 obtain ⟨x5, rfl, w5⟩ := WQ d _ h5
 exact ⟨⟨x0, x1, x2, x3, x4, x5⟩, rfl, w0, w1, w2, w3, w4, w5, trivial⟩
theorem bH : SS zA 23 (FP Hy) (LH IV) := K1 (el := 101) (by kernel_rfl) YY (fun _ => rfl)
theorem ae : Iq zA 25 = some [22, 22, 22, 23] := by kernel_rfl
theorem ba : SS zA 25 Ns F4 := by
 intro d ts h
 obtain ⟨d, h⟩ := M0 ae h
 obtain ⟨a0, _, rfl, h0, a1, _, rfl, h1, a2, _, rfl, h2, a3, _, rfl, h3, rfl⟩ := h
 obtain ⟨x0, rfl, w0⟩ := Uy d _ h0
 obtain ⟨x1, rfl, w1⟩ := Uy d _ h1
 obtain ⟨x2, rfl, w2⟩ := Uy d _ h2
 obtain ⟨x3, rfl, w3⟩ := bH d _ h3
 exact ⟨⟨x0, x1, x2, x3⟩, rfl, w0, w1, w2, w3, trivial⟩
theorem dS : SS zA 3 Ak Wn := Pf (k := .i64) (by kernel_rfl) (fun _ => rfl)
theorem UK : SS zA 26 (FP Ak) (LH Wn) := K1 (el := 3) (by kernel_rfl) dS (fun _ => rfl)
theorem YL : SS zA 120 Du Ly := Pf (k := .u8) (by kernel_rfl) (fun _ => rfl)
theorem bR : SS zA 47 (FP Du) (LH Ly) := K1 (el := 120) (by kernel_rfl) YL (fun _ => rfl)
theorem cd : Iq zA 49 = some [26, 26, 47] := by kernel_rfl
theorem bo : SS zA 49 AW Pg := by
 intro d ts h
 obtain ⟨d, h⟩ := M0 cd h
 obtain ⟨a0, _, rfl, h0, a1, _, rfl, h1, a2, _, rfl, h2, rfl⟩ := h
 obtain ⟨x0, rfl, w0⟩ := UK d _ h0
 obtain ⟨x1, rfl, w1⟩ := UK d _ h1
 obtain ⟨x2, rfl, w2⟩ := bR d _ h2
 exact ⟨⟨x0, x1, x2⟩, rfl, w0, w1, w2, trivial⟩
theorem aN : SS zA 46 (FP AW) (LH Pg) := K1 (el := 49) (by kernel_rfl) bo (fun _ => rfl)
theorem ZU (N d : Nat) (plain : ∀ (x0 : BP) (x1 : List Int) (x2 : List Ab), F4 x0 → (LH Wn) x1 → (LH Pg) x2 → D2 N x0 x1 x2 = some true) : ∀ Ds, K9 zA d [25, 26, 46] Ds → Al zA 7 Ds [] (.e (.one (.pure (.val (.bool true))))) := by
 intro Ds h
 obtain ⟨u0, Ds0, rfl, f0, g0⟩ := Lg h
 obtain ⟨x0, rfl, w0⟩ := ba _ _ f0
 rw [U6 ae]
 obtain ⟨u1, Ds1, rfl, f1, g1⟩ := Lg g0
 obtain ⟨x1, rfl, w1⟩ := UK _ _ f1
 rw [VW (by kernel_rfl)]
 obtain ⟨u2, Ds2, rfl, f2, g2⟩ := Lg g1
 obtain ⟨x2, rfl, w2⟩ := aN _ _ f2
 rw [VW (by kernel_rfl)]
 obtain rfl := T4 g2
 exact K0 N x0 x1 x2 true (plain x0 x1 x2 w0 w1 w2)
end Go.Lift
