/- Lemmas for CoreErrorsCardSaid, which YtbfklmmnpdifaaaGreatDoorFinC9 proves. -/
import Derived.Test.YtbfklmmnpdifaaaGreatDoorCode4
open Go.Proofs.Tryz renaming prog → zA0
namespace Go.Lift
open Go.RowKit
open Go.Proofs
theorem OT : Po zA0 3 Aq Nk := Q7 (k := .i64) (by kernel_rfl) (fun _ => rfl)
theorem On : Po zA0 26 (GD Aq) (Pl Nk) := JA (el := 3) (by kernel_rfl) OT (fun _ => rfl)
theorem Rp : Po zA0 4 eB (fun _ => True) := Qi (by kernel_rfl) (fun _ => rfl)
theorem Sb : Po zA0 61 (GD eB) (Pl (fun _ => True)) := JA (el := 4) (by kernel_rfl) Rp (fun _ => rfl)
theorem P4 : Po zA0 82 (GD (GD eB)) (Pl (Pl (fun _ => True))) := JA (el := 61) (by kernel_rfl) Sb (fun _ => rfl)
theorem Us : Is zA0 84 = some [3, 3, 3, 4, 82, 82] := by kernel_rfl
theorem Sl : Po zA0 84 AO Kw := by
 intro d ts h
 obtain ⟨d, h⟩ := LS Us h
 obtain ⟨a0, _, rfl, h0, a1, _, rfl, h1, a2, _, rfl, h2, a3, _, rfl, h3, a4, _, rfl, h4, a5, _, rfl, h5, rfl⟩ := h
 obtain ⟨x0, rfl, w0⟩ := OT d _ h0
 obtain ⟨x1, rfl, w1⟩ := OT d _ h1
 obtain ⟨x2, rfl, w2⟩ := OT d _ h2
 obtain ⟨x3, rfl, w3⟩ := Rp d _ h3
 obtain ⟨x4, rfl, w4⟩ := P4 d _ h4
 obtain ⟨x5, rfl, w5⟩ := P4 d _ h5
 exact ⟨⟨x0, x1, x2, x3, x4, x5⟩, rfl, w0, w1, w2, w3, w4, w5, trivial⟩
theorem Sg : Po zA0 27 (GD AO) (Pl Kw) := JA (el := 84) (by kernel_rfl) Sl (fun _ => rfl)
theorem RL : Is zA0 29 = some [26, 26, 26, 27] := by kernel_rfl
theorem RS : Po zA0 29 NC Ju := by
 intro d ts h
 obtain ⟨d, h⟩ := LS RL h
 obtain ⟨a0, _, rfl, h0, a1, _, rfl, h1, a2, _, rfl, h2, a3, _, rfl, h3, rfl⟩ := h
 obtain ⟨x0, rfl, w0⟩ := On d _ h0
 obtain ⟨x1, rfl, w1⟩ := On d _ h1
 obtain ⟨x2, rfl, w2⟩ := On d _ h2
 obtain ⟨x3, rfl, w3⟩ := Sg d _ h3
 exact ⟨⟨x0, x1, x2, x3⟩, rfl, w0, w1, w2, w3, trivial⟩
theorem QH (N d : Nat) (plain : ∀ (x0 : Ae), Ju x0 → Cn N x0 = some true) : ∀ Ds, IC zA0 d [29] Ds → Ak zA0 9 Ds [] (.e (.one (.pure (.val (.bool true))))) := by
 intro Ds h
 obtain ⟨u0, Ds0, rfl, f0, g0⟩ := MV h
 obtain ⟨x0, rfl, w0⟩ := RS _ _ f0
 rw [N5 RL]
 obtain rfl := Nt g0
 exact H4 N x0 true (plain x0 w0)
end Go.Lift
