/- Lemmas for PlanTrimSaid, which YtohibkdhajkmdaaFinP9 proves. -/
import Derived.Test.YtohibkdhajkmdaaCode4
/- The laws, from typed inputs to the code. Written by a program (gen.py). -/
namespace Go.Lift
open Go.RowKit
open Go.Proofs
theorem Qe : PI Try.prog 5 A3 KP := Nq (k := .u8) (by kernel_rfl) (fun _ => rfl)
theorem PF : PI Try.prog 22 (DY A3) (L2 KP) := KZ (el := 5) (by kernel_rfl) Qe (fun _ => rfl)
theorem Vq : PI Try.prog 4 eB (fun _ => True) := R2 (by kernel_rfl) (fun _ => rfl)
theorem RJ : PI Try.prog 82 VM TU := Nq (k := .u16) (by kernel_rfl) (fun _ => rfl)
theorem Vw : Ge Try.prog 84 = some [5, 5, 5, 4, 82, 82] := by kernel_rfl
theorem Ul : PI Try.prog 84 BU Gv := by
 intro d ts h
 obtain ⟨d, h⟩ := JS Vw h
 obtain ⟨a0, _, rfl, h0, a1, _, rfl, h1, a2, _, rfl, h2, a3, _, rfl, h3, a4, _, rfl, h4, a5, _, rfl, h5, rfl⟩ := h
 obtain ⟨x0, rfl, w0⟩ := Qe d _ h0
 obtain ⟨x1, rfl, w1⟩ := Qe d _ h1
 obtain ⟨x2, rfl, w2⟩ := Qe d _ h2
 obtain ⟨x3, rfl, w3⟩ := Vq d _ h3
 obtain ⟨x4, rfl, w4⟩ := RJ d _ h4
 obtain ⟨x5, rfl, w5⟩ := RJ d _ h5
 exact ⟨⟨x0, x1, x2, x3, x4, x5⟩, rfl, w0, w1, w2, w3, w4, w5, trivial⟩
theorem TW : PI Try.prog 23 (DY BU) (L2 Gv) := KZ (el := 84) (by kernel_rfl) Ul (fun _ => rfl)
theorem Tr : Ge Try.prog 25 = some [22, 22, 22, 23] := by kernel_rfl
theorem TO : PI Try.prog 25 Kh EO := by
 intro d ts h
 obtain ⟨d, h⟩ := JS Tr h
 obtain ⟨a0, _, rfl, h0, a1, _, rfl, h1, a2, _, rfl, h2, a3, _, rfl, h3, rfl⟩ := h
 obtain ⟨x0, rfl, w0⟩ := PF d _ h0
 obtain ⟨x1, rfl, w1⟩ := PF d _ h1
 obtain ⟨x2, rfl, w2⟩ := PF d _ h2
 obtain ⟨x3, rfl, w3⟩ := TW d _ h3
 exact ⟨⟨x0, x1, x2, x3⟩, rfl, w0, w1, w2, w3, trivial⟩
theorem R4 : PI Try.prog 3 Af SP := Nq (k := .i64) (by kernel_rfl) (fun _ => rfl)
theorem Vl : Ge Try.prog 63 = some [3, 3, 3] := by kernel_rfl
theorem TI : PI Try.prog 63 Ar KB := by
 intro d ts h
 obtain ⟨d, h⟩ := JS Vl h
 obtain ⟨a0, _, rfl, h0, a1, _, rfl, h1, a2, _, rfl, h2, rfl⟩ := h
 obtain ⟨x0, rfl, w0⟩ := R4 d _ h0
 obtain ⟨x1, rfl, w1⟩ := R4 d _ h1
 obtain ⟨x2, rfl, w2⟩ := R4 d _ h2
 exact ⟨⟨x0, x1, x2⟩, rfl, w0, w1, w2, trivial⟩
theorem TV : PI Try.prog 33 (DY Ar) (L2 KB) := KZ (el := 63) (by kernel_rfl) TI (fun _ => rfl)
theorem R8 (N d : Nat) (plain : ∀ (x0 : Ca) (x1 : List Ag), EO x0 → (L2 KB) x1 → CW N x0 x1 = some true) : ∀ Ds, Ic Try.prog d [25, 33] Ds → AD Try.prog 9 Ds [] (.e (.one (.pure (.val (.bool true))))) := by
 intro Ds h
 obtain ⟨u0, Ds0, rfl, f0, g0⟩ := J7 h
 obtain ⟨x0, rfl, w0⟩ := TO _ _ f0
 rw [Pv Tr]
 obtain ⟨u1, Ds1, rfl, f1, g1⟩ := J7 g0
 obtain ⟨x1, rfl, w1⟩ := TV _ _ f1
 rw [SA (by kernel_rfl)]
 obtain rfl := Pg g1
 exact Iu N x0 x1 true (plain x0 x1 w0 w1)
end Go.Lift

