/- Lemmas for TopFencedSaid, which YtdeiicbleafjaaaGreatFinT3 proves. -/
import Derived.Test.YtdeiicbleafjaaaGreatCode4
open Go.Proofs.Tryz renaming prog → zA
namespace Go.Lift
open Go.RowKit
open Go.Proofs
theorem PZ : TX zA 5 Bd Uj := S4 (k := .u8) (by kernel_rfl) (fun _ => rfl)
theorem Vf : Jf zA 28 = some [5, 5, 5, 5] := by kernel_rfl
theorem T7 : TX zA 28 Bn Fd := by
 intro d ts h
 obtain ⟨d, h⟩ := Pu Vf h
 obtain ⟨a0, _, rfl, h0, a1, _, rfl, h1, a2, _, rfl, h2, a3, _, rfl, h3, rfl⟩ := h
 obtain ⟨x0, rfl, w0⟩ := PZ d _ h0
 obtain ⟨x1, rfl, w1⟩ := PZ d _ h1
 obtain ⟨x2, rfl, w2⟩ := PZ d _ h2
 obtain ⟨x3, rfl, w3⟩ := PZ d _ h3
 exact ⟨⟨x0, x1, x2, x3⟩, rfl, w0, w1, w2, w3, trivial⟩
theorem TU : TX zA 22 (O0 Bn) (Vz Fd) := Qc (el := 28) (by kernel_rfl) T7 (fun _ => rfl)
theorem Sy (N d : Nat) (plain : ∀ (x0 : List Ch), (Vz Fd) x0 → CG N x0 = some true) : ∀ Ds, I1 zA d [22] Ds → Ar zA 3 Ds [] (.e (.one (.pure (.val (.bool true))))) := by
 intro Ds h
 obtain ⟨u0, Ds0, rfl, f0, g0⟩ := N1 h
 obtain ⟨x0, rfl, w0⟩ := TU _ _ f0
 rw [SH (by kernel_rfl)]
 obtain rfl := OC g0
 exact Jd N x0 true (plain x0 w0)
end Go.Lift
