/- Lemmas for RefuseErrorsSaid, which YtpaobkaighpaaaaGreatFinR8 proves. -/
import Derived.Test.YtpaobkaighpaaaaGreatCode6
namespace Go.Lift
open Go.RowKit
open Go.Proofs
theorem Sp : P1 Tryz.prog 3 Al Ol := Sy (k := .i64) (by kernel_rfl) (fun _ => rfl)
theorem Nr : P1 Tryz.prog 26 (Fe Al) (Iu Ol) := IH (el := 3) (by kernel_rfl) Sp (fun _ => rfl)
theorem V8 : P1 Tryz.prog 4 eB (fun _ => True) := TZ (by kernel_rfl) (fun _ => rfl)
theorem WD : P1 Tryz.prog 70 (Fe eB) (Iu (fun _ => True)) := IH (el := 4) (by kernel_rfl) V8 (fun _ => rfl)
theorem UK : P1 Tryz.prog 67 (Fe (Fe eB)) (Iu (Iu (fun _ => True))) := IH (el := 70) (by kernel_rfl) WD (fun _ => rfl)
theorem X8 : HE Tryz.prog 69 = some [3, 3, 3, 4, 67, 67] := by kernel_rfl
theorem WL : P1 Tryz.prog 69 Ar Mk := by
 intro d ts h
 obtain ⟨d, h⟩ := Lh X8 h
 obtain ⟨a0, _, rfl, h0, a1, _, rfl, h1, a2, _, rfl, h2, a3, _, rfl, h3, a4, _, rfl, h4, a5, _, rfl, h5, rfl⟩ := h
 obtain ⟨x0, rfl, w0⟩ := Sp d _ h0
 obtain ⟨x1, rfl, w1⟩ := Sp d _ h1
 obtain ⟨x2, rfl, w2⟩ := Sp d _ h2
 obtain ⟨x3, rfl, w3⟩ := V8 d _ h3
 obtain ⟨x4, rfl, w4⟩ := UK d _ h4
 obtain ⟨x5, rfl, w5⟩ := UK d _ h5
 exact ⟨⟨x0, x1, x2, x3, x4, x5⟩, rfl, w0, w1, w2, w3, w4, w5, trivial⟩
theorem WE : P1 Tryz.prog 27 (Fe Ar) (Iu Mk) := IH (el := 69) (by kernel_rfl) WL (fun _ => rfl)
theorem Wf : HE Tryz.prog 29 = some [26, 26, 26, 27] := by kernel_rfl
theorem W4 : P1 Tryz.prog 29 Qe KL := by
 intro d ts h
 obtain ⟨d, h⟩ := Lh Wf h
 obtain ⟨a0, _, rfl, h0, a1, _, rfl, h1, a2, _, rfl, h2, a3, _, rfl, h3, rfl⟩ := h
 obtain ⟨x0, rfl, w0⟩ := Nr d _ h0
 obtain ⟨x1, rfl, w1⟩ := Nr d _ h1
 obtain ⟨x2, rfl, w2⟩ := Nr d _ h2
 obtain ⟨x3, rfl, w3⟩ := WE d _ h3
 exact ⟨⟨x0, x1, x2, x3⟩, rfl, w0, w1, w2, w3, trivial⟩
theorem W1 : P1 Tryz.prog 81 Bw JR := Sy (k := .u8) (by kernel_rfl) (fun _ => rfl)
theorem WX : P1 Tryz.prog 44 (Fe Bw) (Iu JR) := IH (el := 81) (by kernel_rfl) W1 (fun _ => rfl)
theorem X3 : HE Tryz.prog 46 = some [26, 26, 44] := by kernel_rfl
theorem WH : P1 Tryz.prog 46 Ai M9 := by
 intro d ts h
 obtain ⟨d, h⟩ := Lh X3 h
 obtain ⟨a0, _, rfl, h0, a1, _, rfl, h1, a2, _, rfl, h2, rfl⟩ := h
 obtain ⟨x0, rfl, w0⟩ := Nr d _ h0
 obtain ⟨x1, rfl, w1⟩ := Nr d _ h1
 obtain ⟨x2, rfl, w2⟩ := WX d _ h2
 exact ⟨⟨x0, x1, x2⟩, rfl, w0, w1, w2, trivial⟩
theorem W0 : P1 Tryz.prog 30 (Fe Ai) (Iu M9) := IH (el := 46) (by kernel_rfl) WH (fun _ => rfl)
theorem U7 (N d : Nat) (plain : ∀ (x0 : Aj) (x1 : List Ag), KL x0 → (Iu M9) x1 → C6 N x0 x1 = some true) : ∀ Ds, JM Tryz.prog d [29, 30] Ds → AD Tryz.prog 8 Ds [] (.e (.one (.pure (.val (.bool true))))) := by
 intro Ds h
 obtain ⟨u0, Ds0, rfl, f0, g0⟩ := LW h
 obtain ⟨x0, rfl, w0⟩ := W4 _ _ f0
 rw [RX Wf]
 obtain ⟨u1, Ds1, rfl, f1, g1⟩ := LW g0
 obtain ⟨x1, rfl, w1⟩ := W0 _ _ f1
 rw [U0 (by kernel_rfl)]
 obtain rfl := QW g1
 exact I6 N x0 x1 true (plain x0 x1 w0 w1)
end Go.Lift
