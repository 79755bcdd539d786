/- Lemmas for PlanReversibleSaid, which YtohibkdhajkmdaaGreatFinP11 proves. -/
import Derived.Test.YtohibkdhajkmdaaGreatCode4
open Go.Proofs.Tryz renaming prog → zA0
namespace Go.Lift
open Go.RowKit
open Go.Proofs
theorem Ta : SG zA0 5 C3 Ln := QH (k := .u8) (by kernel_rfl) (fun _ => rfl)
theorem SY : SG zA0 22 (JG C3) (Nf Ln) := Nn (el := 5) (by kernel_rfl) Ta (fun _ => rfl)
theorem Zk : SG zA0 4 eB (fun _ => True) := UV (by kernel_rfl) (fun _ => rfl)
theorem Uz : SG zA0 86 aj XV := QH (k := .u16) (by kernel_rfl) (fun _ => rfl)
theorem Zp : HA zA0 88 = some [5, 5, 5, 4, 86, 86] := by kernel_rfl
theorem XT : SG zA0 88 GC H2 := by
 intro d ts h
 obtain ⟨d, h⟩ := LX Zp h
 obtain ⟨a0, _, rfl, h0, a1, _, rfl, h1, a2, _, rfl, h2, a3, _, rfl, h3, a4, _, rfl, h4, a5, _, rfl, h5, rfl⟩ := h
 obtain ⟨x0, rfl, w0⟩ := Ta d _ h0
 obtain ⟨x1, rfl, w1⟩ := Ta d _ h1
 obtain ⟨x2, rfl, w2⟩ := Ta d _ h2
 obtain ⟨x3, rfl, w3⟩ := Zk d _ h3
 obtain ⟨x4, rfl, w4⟩ := Uz d _ h4
 obtain ⟨x5, rfl, w5⟩ := Uz d _ h5
 exact ⟨⟨x0, x1, x2, x3, x4, x5⟩, rfl, w0, w1, w2, w3, w4, w5, trivial⟩
theorem XA : SG zA0 23 (JG GC) (Nf H2) := Nn (el := 88) (by kernel_rfl) XT (fun _ => rfl)
theorem Xw : HA zA0 25 = some [22, 22, 22, 23] := by kernel_rfl
theorem Ya : SG zA0 25 M5 Fp := by
 intro d ts h
 obtain ⟨d, h⟩ := LX Xw h
 obtain ⟨a0, _, rfl, h0, a1, _, rfl, h1, a2, _, rfl, h2, a3, _, rfl, h3, rfl⟩ := h
 obtain ⟨x0, rfl, w0⟩ := SY d _ h0
 obtain ⟨x1, rfl, w1⟩ := SY d _ h1
 obtain ⟨x2, rfl, w2⟩ := SY d _ h2
 obtain ⟨x3, rfl, w3⟩ := XA d _ h3
 exact ⟨⟨x0, x1, x2, x3⟩, rfl, w0, w1, w2, w3, trivial⟩
theorem UK : SG zA0 3 An W4 := QH (k := .i64) (by kernel_rfl) (fun _ => rfl)
theorem ZH : HA zA0 49 = some [3, 3, 3] := by kernel_rfl
theorem Yh : SG zA0 49 Aq MB := by
 intro d ts h
 obtain ⟨d, h⟩ := LX ZH h
 obtain ⟨a0, _, rfl, h0, a1, _, rfl, h1, a2, _, rfl, h2, rfl⟩ := h
 obtain ⟨x0, rfl, w0⟩ := UK d _ h0
 obtain ⟨x1, rfl, w1⟩ := UK d _ h1
 obtain ⟨x2, rfl, w2⟩ := UK d _ h2
 exact ⟨⟨x0, x1, x2⟩, rfl, w0, w1, w2, trivial⟩
theorem Yt : SG zA0 26 (JG Aq) (Nf MB) := Nn (el := 49) (by kernel_rfl) Yh (fun _ => rfl)
theorem V8 (N d : Nat) (plain : ∀ (x0 : BA) (x1 : List Ad), Fp x0 → (Nf MB) x1 → CP N x0 x1 = some true) : ∀ Ds, Kd zA0 d [25, 26] Ds → Ao zA0 3 Ds [] (.e (.one (.pure (.val (.bool true))))) := by
 intro Ds h
 obtain ⟨u0, Ds0, rfl, f0, g0⟩ := MZ h
 obtain ⟨x0, rfl, w0⟩ := Ya _ _ f0
 rw [SS Xw]
 obtain ⟨u1, Ds1, rfl, f1, g1⟩ := MZ g0
 obtain ⟨x1, rfl, w1⟩ := Yt _ _ f1
 rw [WM (by kernel_rfl)]
 obtain rfl := RX g1
 exact In N x0 x1 true (plain x0 x1 w0 w1)
end Go.Lift
