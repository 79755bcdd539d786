/- Lemmas for UnblockAllSaid, which YtjpgllmfenogoaaGreatFinU8 proves. -/
import Derived.Test.YtjpgllmfenogoaaGreatCode5
open Go.Proofs.Tryz renaming prog → zA
namespace Go.Lift
open Go.RowKit
open Go.Proofs
theorem WR : XE zA 5 El MK := Wq (k := .u8) (by kernel_rfl) (fun _ => rfl)
theorem Vn : XE zA 22 (DG El) (PL MK) := R2 (el := 5) (by kernel_rfl) WR (fun _ => rfl)
theorem ee : XE zA 4 eB (fun _ => True) := YJ (by kernel_rfl) (fun _ => rfl)
theorem X2 : XE zA 86 fH ci := Wq (k := .u16) (by kernel_rfl) (fun _ => rfl)
theorem dN : KX zA 88 = some [5, 5, 5, 4, 86, 86] := by kernel_rfl
theorem cj : XE zA 88 HK I2 := by
 intro d ts h
 obtain ⟨d, h⟩ := QM dN h
 obtain ⟨a0, _, rfl, h0, a1, _, rfl, h1, a2, _, rfl, h2, a3, _, rfl, h3, a4, _, rfl, h4, a5, _, rfl, h5, rfl⟩ := h
 obtain ⟨x0, rfl, w0⟩ := WR d _ h0
 obtain ⟨x1, rfl, w1⟩ := WR d _ h1
 obtain ⟨x2, rfl, w2⟩ := WR d _ h2
 obtain ⟨x3, rfl, w3⟩ := ee d _ h3
 obtain ⟨x4, rfl, w4⟩ := X2 d _ h4
 obtain ⟨x5, rfl, w5⟩ := X2 d _ h5
 exact ⟨⟨x0, x1, x2, x3, x4, x5⟩, rfl, w0, w1, w2, w3, w4, w5, trivial⟩
theorem bQ : XE zA 23 (DG HK) (PL I2) := R2 (el := 88) (by kernel_rfl) cj (fun _ => rfl)
theorem bc : KX zA 25 = some [22, 22, 22, 23] := by kernel_rfl
theorem bI : XE zA 25 NF FK := by
 intro d ts h
 obtain ⟨d, h⟩ := QM bc h
 obtain ⟨a0, _, rfl, h0, a1, _, rfl, h1, a2, _, rfl, h2, a3, _, rfl, h3, rfl⟩ := h
 obtain ⟨x0, rfl, w0⟩ := Vn d _ h0
 obtain ⟨x1, rfl, w1⟩ := Vn d _ h1
 obtain ⟨x2, rfl, w2⟩ := Vn d _ h2
 obtain ⟨x3, rfl, w3⟩ := bQ d _ h3
 exact ⟨⟨x0, x1, x2, x3⟩, rfl, w0, w1, w2, w3, trivial⟩
theorem ab (N d : Nat) (plain : ∀ (x0 : Bz), FK x0 → Di N x0 = some true) : ∀ Ds, Lu zA d [25] Ds → Ar zA 8 Ds [] (.e (.one (.pure (.val (.bool true))))) := by
 intro Ds h
 obtain ⟨u0, Ds0, rfl, f0, g0⟩ := Tq h
 obtain ⟨x0, rfl, w0⟩ := bI _ _ f0
 rw [Va bc]
 obtain rfl := UZ g0
 exact KP N x0 true (plain x0 w0)
end Go.Lift
