/- Lemmas for CoreBlocksCardSaid, which YtbfklmmnpdifaaaGreatDoorFinC3 proves. -/
import Derived.Test.YtbfklmmnpdifaaaGreatDoorCode5
open Go.Proofs.Tryz renaming prog → zA
namespace Go.Lift
open Go.RowKit
open Go.Proofs
theorem VG : VD zA 5 Ex M1 := Sf (k := .u8) (by kernel_rfl) (fun _ => rfl)
theorem Ut : VD zA 22 (Gq Ex) (OH M1) := OD (el := 5) (by kernel_rfl) VG (fun _ => rfl)
theorem dw : VD zA 4 eB (fun _ => True) := XV (by kernel_rfl) (fun _ => rfl)
theorem W1 : VD zA 99 en ag := Sf (k := .u16) (by kernel_rfl) (fun _ => rfl)
theorem aG : JA zA 101 = some [5, 5, 5, 4, 99, 99] := by kernel_rfl
theorem YZ : VD zA 101 HM Jk := by
 intro d ts h
 obtain ⟨d, h⟩ := PZ aG h
 obtain ⟨a0, _, rfl, h0, a1, _, rfl, h1, a2, _, rfl, h2, a3, _, rfl, h3, a4, _, rfl, h4, a5, _, rfl, h5, rfl⟩ := h
 obtain ⟨x0, rfl, w0⟩ := VG d _ h0
 obtain ⟨x1, rfl, w1⟩ := VG d _ h1
 obtain ⟨x2, rfl, w2⟩ := VG d _ h2
 obtain ⟨x3, rfl, w3⟩ := dw d _ h3
 obtain ⟨x4, rfl, w4⟩ := W1 d _ h4
 obtain ⟨x5, rfl, w5⟩ := W1 d _ h5
 exact ⟨⟨x0, x1, x2, x3, x4, x5⟩, rfl, w0, w1, w2, w3, w4, w5, trivial⟩
theorem ao : VD zA 23 (Gq HM) (OH Jk) := OD (el := 101) (by kernel_rfl) YZ (fun _ => rfl)
theorem Zv : JA zA 25 = some [22, 22, 22, 23] := by kernel_rfl
theorem aA : VD zA 25 Oq Gm := by
 intro d ts h
 obtain ⟨d, h⟩ := PZ Zv h
 obtain ⟨a0, _, rfl, h0, a1, _, rfl, h1, a2, _, rfl, h2, a3, _, rfl, h3, rfl⟩ := h
 obtain ⟨x0, rfl, w0⟩ := Ut d _ h0
 obtain ⟨x1, rfl, w1⟩ := Ut d _ h1
 obtain ⟨x2, rfl, w2⟩ := Ut d _ h2
 obtain ⟨x3, rfl, w3⟩ := ao d _ h3
 exact ⟨⟨x0, x1, x2, x3⟩, rfl, w0, w1, w2, w3, trivial⟩
theorem bZ : VD zA 3 Ak YN := Sf (k := .i64) (by kernel_rfl) (fun _ => rfl)
theorem ZX : VD zA 26 (Gq Ak) (OH YN) := OD (el := 3) (by kernel_rfl) bZ (fun _ => rfl)
theorem Zm (N d : Nat) (plain : ∀ (x0 : BL) (x1 : List Int), Gm x0 → (OH YN) x1 → D6 N x0 x1 = some true) : ∀ Ds, Lv zA d [25, 26] Ds → An zA 3 Ds [] (.e (.one (.pure (.val (.bool true))))) := by
 intro Ds h
 obtain ⟨u0, Ds0, rfl, f0, g0⟩ := Om h
 obtain ⟨x0, rfl, w0⟩ := aA _ _ f0
 rw [Un Zv]
 obtain ⟨u1, Ds1, rfl, f1, g1⟩ := Om g0
 obtain ⟨x1, rfl, w1⟩ := ZX _ _ f1
 rw [Y3 (by kernel_rfl)]
 obtain rfl := T7 g1
 exact K6 N x0 x1 true (plain x0 x1 w0 w1)
end Go.Lift
