/- Lemmas for MixMoreSaid, which YtmmkocokfdheiaaFinMore proves. -/
import Derived.Test.YtmmkocokfdheiaaCode2
namespace Go.Lift
open Go.RowKit
open Go.Proofs
theorem LJ : LB Try.prog 5 EC GF := Lu (k := .u8) (by kernel_rfl) (fun _ => rfl)
theorem HE : LB Try.prog 22 (Ec EC) (HB GF) := HI (el := 5) (by kernel_rfl) LJ (fun _ => rfl)
theorem PY : LB Try.prog 4 eB (fun _ => True) := MV (by kernel_rfl) (fun _ => rfl)
theorem K5 : LB Try.prog 66 Jg LW := Lu (k := .u16) (by kernel_rfl) (fun _ => rfl)
theorem PX : D8 Try.prog 77 = some [5, 5, 5, 4, 66, 66] := by kernel_rfl
theorem Pw : LB Try.prog 77 Dw Eg := by
 intro d ts h
 obtain ⟨d, h⟩ := GW PX h
 obtain ⟨a0, _, rfl, h0, a1, _, rfl, h1, a2, _, rfl, h2, a3, _, rfl, h3, a4, _, rfl, h4, a5, _, rfl, h5, rfl⟩ := h
 obtain ⟨x0, rfl, w0⟩ := LJ d _ h0
 obtain ⟨x1, rfl, w1⟩ := LJ d _ h1
 obtain ⟨x2, rfl, w2⟩ := LJ d _ h2
 obtain ⟨x3, rfl, w3⟩ := PY d _ h3
 obtain ⟨x4, rfl, w4⟩ := K5 d _ h4
 obtain ⟨x5, rfl, w5⟩ := K5 d _ h5
 exact ⟨⟨x0, x1, x2, x3, x4, x5⟩, rfl, w0, w1, w2, w3, w4, w5, trivial⟩
theorem Pm : LB Try.prog 23 (Ec Dw) (HB Eg) := HI (el := 77) (by kernel_rfl) Pw (fun _ => rfl)
theorem Ou : D8 Try.prog 25 = some [22, 22, 22, 23] := by kernel_rfl
theorem O6 : LB Try.prog 25 Hd CJ := by
 intro d ts h
 obtain ⟨d, h⟩ := GW Ou h
 obtain ⟨a0, _, rfl, h0, a1, _, rfl, h1, a2, _, rfl, h2, a3, _, rfl, h3, rfl⟩ := h
 obtain ⟨x0, rfl, w0⟩ := HE d _ h0
 obtain ⟨x1, rfl, w1⟩ := HE d _ h1
 obtain ⟨x2, rfl, w2⟩ := HE d _ h2
 obtain ⟨x3, rfl, w3⟩ := Pm d _ h3
 exact ⟨⟨x0, x1, x2, x3⟩, rfl, w0, w1, w2, w3, trivial⟩
theorem Ov : D8 Try.prog 27 = some [22, 22, 22] := by kernel_rfl
theorem O4 : LB Try.prog 27 Ha Cj := by
 intro d ts h
 obtain ⟨d, h⟩ := GW Ov h
 obtain ⟨a0, _, rfl, h0, a1, _, rfl, h1, a2, _, rfl, h2, rfl⟩ := h
 obtain ⟨x0, rfl, w0⟩ := HE d _ h0
 obtain ⟨x1, rfl, w1⟩ := HE d _ h1
 obtain ⟨x2, rfl, w2⟩ := HE d _ h2
 exact ⟨⟨x0, x1, x2⟩, rfl, w0, w1, w2, trivial⟩
theorem Pb : LB Try.prog 62 (Ec Jg) (HB LW) := HI (el := 66) (by kernel_rfl) K5 (fun _ => rfl)
theorem NU (N d : Nat) (plain : ∀ (x0 : A4) (x1 : Az) (x2 : List Int), CJ x0 → Cj x1 → (HB LW) x2 → BX N x0 x1 x2 = some true) : ∀ Ds, FH Try.prog d [25, 27, 62] Ds → Au Try.prog 6 Ds [] (.e (.one (.pure (.val (.bool true))))) := by
 intro Ds h
 obtain ⟨u0, Ds0, rfl, f0, g0⟩ := FT h
 obtain ⟨x0, rfl, w0⟩ := O6 _ _ f0
 rw [IG Ou]
 obtain ⟨u1, Ds1, rfl, f1, g1⟩ := FT g0
 obtain ⟨x1, rfl, w1⟩ := O4 _ _ f1
 rw [IG Ov]
 obtain ⟨u2, Ds2, rfl, f2, g2⟩ := FT g1
 obtain ⟨x2, rfl, w2⟩ := Pb _ _ f2
 rw [Nz (by kernel_rfl)]
 obtain rfl := Kx g2
 exact F1 N x0 x1 x2 true (plain x0 x1 x2 w0 w1 w2)
end Go.Lift
