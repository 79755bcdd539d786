/- Lemmas for PlanShortestSaid, which YtohibkdhajkmdaaFinP6 proves. -/
import Derived.Test.YtohibkdhajkmdaaCode4
/- The laws, from typed inputs to the code. Written by a program (gen.py). -/
namespace Go.Lift
open Go.RowKit
open Go.Proofs
theorem Rp : Q1 Try.prog 5 A6 J3 := O3 (k := .u8) (by kernel_rfl) (fun _ => rfl)
theorem QC : Q1 Try.prog 22 (Es A6) (LE J3) := LQ (el := 5) (by kernel_rfl) Rp (fun _ => rfl)
theorem WH : Q1 Try.prog 4 eB (fun _ => True) := Tb (by kernel_rfl) (fun _ => rfl)
theorem S3 : Q1 Try.prog 82 Ya VD := O3 (k := .u16) (by kernel_rfl) (fun _ => rfl)
theorem Wg : Gz Try.prog 84 = some [5, 5, 5, 4, 82, 82] := by kernel_rfl
theorem VQ : Q1 Try.prog 84 BI GW := by
 intro d ts h
 obtain ⟨d, h⟩ := KL Wg h
 obtain ⟨a0, _, rfl, h0, a1, _, rfl, h1, a2, _, rfl, h2, a3, _, rfl, h3, a4, _, rfl, h4, a5, _, rfl, h5, rfl⟩ := h
 obtain ⟨x0, rfl, w0⟩ := Rp d _ h0
 obtain ⟨x1, rfl, w1⟩ := Rp d _ h1
 obtain ⟨x2, rfl, w2⟩ := Rp d _ h2
 obtain ⟨x3, rfl, w3⟩ := WH d _ h3
 obtain ⟨x4, rfl, w4⟩ := S3 d _ h4
 obtain ⟨x5, rfl, w5⟩ := S3 d _ h5
 exact ⟨⟨x0, x1, x2, x3, x4, x5⟩, rfl, w0, w1, w2, w3, w4, w5, trivial⟩
theorem VE : Q1 Try.prog 23 (Es BI) (LE GW) := LQ (el := 84) (by kernel_rfl) VQ (fun _ => rfl)
theorem Va : Gz Try.prog 25 = some [22, 22, 22, 23] := by kernel_rfl
theorem VS : Q1 Try.prog 25 Lx EL := by
 intro d ts h
 obtain ⟨d, h⟩ := KL Va h
 obtain ⟨a0, _, rfl, h0, a1, _, rfl, h1, a2, _, rfl, h2, a3, _, rfl, h3, rfl⟩ := h
 obtain ⟨x0, rfl, w0⟩ := QC d _ h0
 obtain ⟨x1, rfl, w1⟩ := QC d _ h1
 obtain ⟨x2, rfl, w2⟩ := QC d _ h2
 obtain ⟨x3, rfl, w3⟩ := VE d _ h3
 exact ⟨⟨x0, x1, x2, x3⟩, rfl, w0, w1, w2, w3, trivial⟩
theorem TC : Q1 Try.prog 3 Ag UP := O3 (k := .i64) (by kernel_rfl) (fun _ => rfl)
theorem Xs : Gz Try.prog 63 = some [3, 3, 3] := by kernel_rfl
theorem Vu : Q1 Try.prog 63 Ay KX := by
 intro d ts h
 obtain ⟨d, h⟩ := KL Xs h
 obtain ⟨a0, _, rfl, h0, a1, _, rfl, h1, a2, _, rfl, h2, rfl⟩ := h
 obtain ⟨x0, rfl, w0⟩ := TC d _ h0
 obtain ⟨x1, rfl, w1⟩ := TC d _ h1
 obtain ⟨x2, rfl, w2⟩ := TC d _ h2
 exact ⟨⟨x0, x1, x2⟩, rfl, w0, w1, w2, trivial⟩
theorem VJ : Q1 Try.prog 33 (Es Ay) (LE KX) := LQ (el := 63) (by kernel_rfl) Vu (fun _ => rfl)
theorem US (N d : Nat) (plain : ∀ (x0 : BG) (x1 : List Ah), EL x0 → (LE KX) x1 → CL N x0 x1 = some true) : ∀ Ds, I5 Try.prog d [25, 33] Ds → AB Try.prog 6 Ds [] (.e (.one (.pure (.val (.bool true))))) := by
 intro Ds h
 obtain ⟨u0, Ds0, rfl, f0, g0⟩ := Ls h
 obtain ⟨x0, rfl, w0⟩ := VS _ _ f0
 rw [QZ Va]
 obtain ⟨u1, Ds1, rfl, f1, g1⟩ := Ls g0
 obtain ⟨x1, rfl, w1⟩ := VJ _ _ f1
 rw [TU (by kernel_rfl)]
 obtain rfl := Pm g1
 exact HS N x0 x1 true (plain x0 x1 w0 w1)
end Go.Lift

