/- Lemmas for RefuseNearestSaid, which YtpaobkaighpaaaaGreatFinR6 proves. -/
import Derived.Test.YtpaobkaighpaaaaGreatCode5
/- The laws, from typed inputs to the code. Written by a program (gen.py). -/
namespace Go.Lift
open Go.RowKit
open Go.Proofs
theorem PT : PR Tryz.prog 5 Bv J4 := PS (k := .u8) (by kernel_rfl) (fun _ => rfl)
theorem Lx : PR Tryz.prog 22 (Gl Bv) (KY J4) := LH (el := 5) (by kernel_rfl) PT (fun _ => rfl)
theorem VI : PR Tryz.prog 4 eB (fun _ => True) := QO (by kernel_rfl) (fun _ => rfl)
theorem RZ : PR Tryz.prog 99 Wp TR := PS (k := .u16) (by kernel_rfl) (fun _ => rfl)
theorem T9 : HF Tryz.prog 101 = some [5, 5, 5, 4, 99, 99] := by kernel_rfl
theorem S6 : PR Tryz.prog 101 Cz HS := by
 intro d ts h
 obtain ⟨d, h⟩ := KL T9 h
 obtain ⟨a0, _, rfl, h0, a1, _, rfl, h1, a2, _, rfl, h2, a3, _, rfl, h3, a4, _, rfl, h4, a5, _, rfl, h5, rfl⟩ := h
 obtain ⟨x0, rfl, w0⟩ := PT d _ h0
 obtain ⟨x1, rfl, w1⟩ := PT d _ h1
 obtain ⟨x2, rfl, w2⟩ := PT d _ h2
 obtain ⟨x3, rfl, w3⟩ := VI d _ h3
 obtain ⟨x4, rfl, w4⟩ := RZ d _ h4
 obtain ⟨x5, rfl, w5⟩ := RZ d _ h5
 exact ⟨⟨x0, x1, x2, x3, x4, x5⟩, rfl, w0, w1, w2, w3, w4, w5, trivial⟩
theorem TU : PR Tryz.prog 23 (Gl Cz) (KY HS) := LH (el := 101) (by kernel_rfl) S6 (fun _ => rfl)
theorem Tp : HF Tryz.prog 25 = some [22, 22, 22, 23] := by kernel_rfl
theorem TH : PR Tryz.prog 25 Lf Ge := by
 intro d ts h
 obtain ⟨d, h⟩ := KL Tp h
 obtain ⟨a0, _, rfl, h0, a1, _, rfl, h1, a2, _, rfl, h2, a3, _, rfl, h3, rfl⟩ := h
 obtain ⟨x0, rfl, w0⟩ := Lx d _ h0
 obtain ⟨x1, rfl, w1⟩ := Lx d _ h1
 obtain ⟨x2, rfl, w2⟩ := Lx d _ h2
 obtain ⟨x3, rfl, w3⟩ := TU d _ h3
 exact ⟨⟨x0, x1, x2, x3⟩, rfl, w0, w1, w2, w3, trivial⟩
theorem VF : HF Tryz.prog 41 = some [22, 22, 22] := by kernel_rfl
theorem TZ : PR Tryz.prog 41 Fp Ft := by
 intro d ts h
 obtain ⟨d, h⟩ := KL VF h
 obtain ⟨a0, _, rfl, h0, a1, _, rfl, h1, a2, _, rfl, h2, rfl⟩ := h
 obtain ⟨x0, rfl, w0⟩ := Lx d _ h0
 obtain ⟨x1, rfl, w1⟩ := Lx d _ h1
 obtain ⟨x2, rfl, w2⟩ := Lx d _ h2
 exact ⟨⟨x0, x1, x2⟩, rfl, w0, w1, w2, trivial⟩
theorem TP : PR Tryz.prog 54 (Gl Fp) (KY Ft) := LH (el := 41) (by kernel_rfl) TZ (fun _ => rfl)
theorem So (N d : Nat) (plain : ∀ (x0 : C0) (x1 : List BV), Ge x0 → (KY Ft) x1 → Df N x0 x1 = some true) : ∀ Ds, JQ Tryz.prog d [25, 54] Ds → AA Tryz.prog 6 Ds [] (.e (.one (.pure (.val (.bool true))))) := by
 intro Ds h
 obtain ⟨u0, Ds0, rfl, f0, g0⟩ := Lj h
 obtain ⟨x0, rfl, w0⟩ := TH _ _ f0
 rw [Pk Tp]
 obtain ⟨u1, Ds1, rfl, f1, g1⟩ := Lj g0
 obtain ⟨x1, rfl, w1⟩ := TP _ _ f1
 rw [Sb (by kernel_rfl)]
 obtain rfl := O0 g1
 exact Is N x0 x1 true (plain x0 x1 w0 w1)
end Go.Lift

