/- Lemmas for CoreAllCardSaid, which YtbfklmmnpdifaaaGreatDoorFinC6 proves. -/
import Derived.Test.YtbfklmmnpdifaaaGreatDoorCode5
open Go.Proofs.Tryz renaming prog → zA
namespace Go.Lift
open Go.RowKit
open Go.Proofs
theorem Vd : Wb zA 5 D7 Mr := UR (k := .u8) (by kernel_rfl) (fun _ => rfl)
theorem Uo : Wb zA 22 (ED D7) (OX Mr) := Rh (el := 5) (by kernel_rfl) Vd (fun _ => rfl)
theorem cq : Wb zA 4 eB (fun _ => True) := Wh (by kernel_rfl) (fun _ => rfl)
theorem XT : Wb zA 99 ej am := UR (k := .u16) (by kernel_rfl) (fun _ => rfl)
theorem aB : KH zA 101 = some [5, 5, 5, 4, 99, 99] := by kernel_rfl
theorem YQ : Wb zA 101 Hs II := by
 intro d ts h
 obtain ⟨d, h⟩ := O6 aB h
 obtain ⟨a0, _, rfl, h0, a1, _, rfl, h1, a2, _, rfl, h2, a3, _, rfl, h3, a4, _, rfl, h4, a5, _, rfl, h5, rfl⟩ := h
 obtain ⟨x0, rfl, w0⟩ := Vd d _ h0
 obtain ⟨x1, rfl, w1⟩ := Vd d _ h1
 obtain ⟨x2, rfl, w2⟩ := Vd d _ h2
 obtain ⟨x3, rfl, w3⟩ := cq d _ h3
 obtain ⟨x4, rfl, w4⟩ := XT d _ h4
 obtain ⟨x5, rfl, w5⟩ := XT d _ h5
 exact ⟨⟨x0, x1, x2, x3, x4, x5⟩, rfl, w0, w1, w2, w3, w4, w5, trivial⟩
theorem az : Wb zA 23 (ED Hs) (OX II) := Rh (el := 101) (by kernel_rfl) YQ (fun _ => rfl)
theorem ZE : KH zA 25 = some [22, 22, 22, 23] := by kernel_rfl
theorem Z3 : Wb zA 25 NC FT := by
 intro d ts h
 obtain ⟨d, h⟩ := O6 ZE h
 obtain ⟨a0, _, rfl, h0, a1, _, rfl, h1, a2, _, rfl, h2, a3, _, rfl, h3, rfl⟩ := h
 obtain ⟨x0, rfl, w0⟩ := Uo d _ h0
 obtain ⟨x1, rfl, w1⟩ := Uo d _ h1
 obtain ⟨x2, rfl, w2⟩ := Uo d _ h2
 obtain ⟨x3, rfl, w3⟩ := az d _ h3
 exact ⟨⟨x0, x1, x2, x3⟩, rfl, w0, w1, w2, w3, trivial⟩
theorem Zg (N d : Nat) (plain : ∀ (x0 : BJ), FT x0 → En N x0 = some true) : ∀ Ds, K7 zA d [25] Ds → Ao zA 6 Ds [] (.e (.one (.pure (.val (.bool true))))) := by
 intro Ds h
 obtain ⟨u0, Ds0, rfl, f0, g0⟩ := R5 h
 obtain ⟨x0, rfl, w0⟩ := Z3 _ _ f0
 rw [UI ZE]
 obtain rfl := SY g0
 exact Lw N x0 true (plain x0 w0)
end Go.Lift
