/- Lemmas for CoreFreeCardSaid, which YtbfklmmnpdifaaaGreatDoorFinC4 proves. -/
import Derived.Test.YtbfklmmnpdifaaaGreatDoorCode5
open Go.Proofs.Tryz renaming prog → zA0
namespace Go.Lift
open Go.RowKit
open Go.Proofs
theorem UK : VY zA0 5 D4 Mf := U6 (k := .u8) (by kernel_rfl) (fun _ => rfl)
theorem Uf : VY zA0 22 (EP D4) (OQ Mf) := Qs (el := 5) (by kernel_rfl) UK (fun _ => rfl)
theorem cK : VY zA0 4 eB (fun _ => True) := XN (by kernel_rfl) (fun _ => rfl)
theorem Xy : VY zA0 99 eo aa := U6 (k := .u16) (by kernel_rfl) (fun _ => rfl)
theorem ZJ : KK zA0 101 = some [5, 5, 5, 4, 99, 99] := by kernel_rfl
theorem Yf : VY zA0 101 Hi Iz := by
 intro d ts h
 obtain ⟨d, h⟩ := Pz ZJ h
 obtain ⟨a0, _, rfl, h0, a1, _, rfl, h1, a2, _, rfl, h2, a3, _, rfl, h3, a4, _, rfl, h4, a5, _, rfl, h5, rfl⟩ := h
 obtain ⟨x0, rfl, w0⟩ := UK d _ h0
 obtain ⟨x1, rfl, w1⟩ := UK d _ h1
 obtain ⟨x2, rfl, w2⟩ := UK d _ h2
 obtain ⟨x3, rfl, w3⟩ := cK d _ h3
 obtain ⟨x4, rfl, w4⟩ := Xy d _ h4
 obtain ⟨x5, rfl, w5⟩ := Xy d _ h5
 exact ⟨⟨x0, x1, x2, x3, x4, x5⟩, rfl, w0, w1, w2, w3, w4, w5, trivial⟩
theorem aD : VY zA0 23 (EP Hi) (OQ Iz) := Qs (el := 101) (by kernel_rfl) Yf (fun _ => rfl)
theorem Zl : KK zA0 25 = some [22, 22, 22, 23] := by kernel_rfl
theorem ZG : VY zA0 25 M0 FO := by
 intro d ts h
 obtain ⟨d, h⟩ := Pz Zl h
 obtain ⟨a0, _, rfl, h0, a1, _, rfl, h1, a2, _, rfl, h2, a3, _, rfl, h3, rfl⟩ := h
 obtain ⟨x0, rfl, w0⟩ := Uf d _ h0
 obtain ⟨x1, rfl, w1⟩ := Uf d _ h1
 obtain ⟨x2, rfl, w2⟩ := Uf d _ h2
 obtain ⟨x3, rfl, w3⟩ := aD d _ h3
 exact ⟨⟨x0, x1, x2, x3⟩, rfl, w0, w1, w2, w3, trivial⟩
theorem Yv (N d : Nat) (plain : ∀ (x0 : BG), FO x0 → D6 N x0 = some true) : ∀ Ds, KX zA0 d [25] Ds → Ao zA0 4 Ds [] (.e (.one (.pure (.val (.bool true))))) := by
 intro Ds h
 obtain ⟨u0, Ds0, rfl, f0, g0⟩ := RJ h
 obtain ⟨x0, rfl, w0⟩ := ZG _ _ f0
 rw [Um Zl]
 obtain rfl := Te g0
 exact K9 N x0 true (plain x0 w0)
end Go.Lift
