import Derived.Test.YtdeiicbleafjaaaGreatCode4
open Go.Proofs.Tryz renaming prog → xZ
namespace Go.Lift
open Go.RowKit
open Go.Proofs
theorem PK : TG xZ 5 Bd TL := R4 (k := .u8) (by kernel_rfl) (fun _ => rfl)
theorem Uy : Jr xZ 28 = some [5, 5, 5, 5] := by kernel_rfl
theorem TY : TG xZ 28 Bn Fe := by
 intro d ts h
 obtain ⟨d, h⟩ := O5 Uy h
 obtain ⟨a0, _, rfl, h0, a1, _, rfl, h1, a2, _, rfl, h2, a3, _, rfl, h3, rfl⟩ := h
 obtain ⟨x0, rfl, w0⟩ := PK d _ h0
 obtain ⟨x1, rfl, w1⟩ := PK d _ h1
 obtain ⟨x2, rfl, w2⟩ := PK d _ h2
 obtain ⟨x3, rfl, w3⟩ := PK d _ h3
 exact ⟨⟨x0, x1, x2, x3⟩, rfl, w0, w1, w2, w3, trivial⟩
theorem TE : TG xZ 22 (O3 Bn) (Vw Fe) := P6 (el := 28) (by kernel_rfl) TY (fun _ => rfl)
theorem RX (N d : Nat) (plain : ∀ (x0 : List Cg), (Vw Fe) x0 → CG N x0 = some true) : ∀ Ds, I3 xZ d [22] Ds → Ar xZ 3 Ds [] (.e (.one (.pure (.val (.bool true))))) := by
 intro Ds h
 obtain ⟨u0, Ds0, rfl, f0, g0⟩ := Nw h
 obtain ⟨x0, rfl, w0⟩ := TE _ _ f0
 rw [SN (by kernel_rfl)]
 obtain rfl := N9 g0
 exact Jc N x0 true (plain x0 w0)
end Go.Lift
