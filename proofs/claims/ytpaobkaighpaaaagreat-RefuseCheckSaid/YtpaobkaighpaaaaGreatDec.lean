/- Lemmas for RefuseCheckSaid, which YtpaobkaighpaaaaGreatFinR9 proves. -/
import Derived.Test.YtpaobkaighpaaaaGreatCode5
open Go.Proofs.Tryz renaming prog → uS
namespace Go.Lift
open Go.RowKit
open Go.Proofs
theorem PL : TC uS 5 CF JR := TM (k := .u8) (by kernel_rfl) (fun _ => rfl)
theorem M2 : TC uS 22 (Mj CF) (Ls JR) := P1 (el := 5) (by kernel_rfl) PL (fun _ => rfl)
theorem ZR : TC uS 4 eB (fun _ => True) := Uv (by kernel_rfl) (fun _ => rfl)
theorem VF : TC uS 99 bc YB := TM (k := .u16) (by kernel_rfl) (fun _ => rfl)
theorem XY : Iq uS 101 = some [5, 5, 5, 4, 99, 99] := by kernel_rfl
theorem W6 : TC uS 101 GH H9 := by
 intro d ts h
 obtain ⟨d, h⟩ := Ke XY h
 obtain ⟨a0, _, rfl, h0, a1, _, rfl, h1, a2, _, rfl, h2, a3, _, rfl, h3, a4, _, rfl, h4, a5, _, rfl, h5, rfl⟩ := h
 obtain ⟨x0, rfl, w0⟩ := PL d _ h0
 obtain ⟨x1, rfl, w1⟩ := PL d _ h1
 obtain ⟨x2, rfl, w2⟩ := PL d _ h2
 obtain ⟨x3, rfl, w3⟩ := ZR d _ h3
 obtain ⟨x4, rfl, w4⟩ := VF d _ h4
 obtain ⟨x5, rfl, w5⟩ := VF d _ h5
 exact ⟨⟨x0, x1, x2, x3, x4, x5⟩, rfl, w0, w1, w2, w3, w4, w5, trivial⟩
theorem X9 : TC uS 23 (Mj GH) (Ls H9) := P1 (el := 101) (by kernel_rfl) W6 (fun _ => rfl)
theorem Xt : Iq uS 25 = some [22, 22, 22, 23] := by kernel_rfl
theorem XN : TC uS 25 Mh FF := by
 intro d ts h
 obtain ⟨d, h⟩ := Ke Xt h
 obtain ⟨a0, _, rfl, h0, a1, _, rfl, h1, a2, _, rfl, h2, a3, _, rfl, h3, rfl⟩ := h
 obtain ⟨x0, rfl, w0⟩ := M2 d _ h0
 obtain ⟨x1, rfl, w1⟩ := M2 d _ h1
 obtain ⟨x2, rfl, w2⟩ := M2 d _ h2
 obtain ⟨x3, rfl, w3⟩ := X9 d _ h3
 exact ⟨⟨x0, x1, x2, x3⟩, rfl, w0, w1, w2, w3, trivial⟩
theorem YQ : Iq uS 41 = some [22, 22, 22] := by kernel_rfl
theorem XW : TC uS 41 LY HO := by
 intro d ts h
 obtain ⟨d, h⟩ := Ke YQ h
 obtain ⟨a0, _, rfl, h0, a1, _, rfl, h1, a2, _, rfl, h2, rfl⟩ := h
 obtain ⟨x0, rfl, w0⟩ := M2 d _ h0
 obtain ⟨x1, rfl, w1⟩ := M2 d _ h1
 obtain ⟨x2, rfl, w2⟩ := M2 d _ h2
 exact ⟨⟨x0, x1, x2⟩, rfl, w0, w1, w2, trivial⟩
theorem Xu : Iq uS 78 = some [5, 5, 41] := by kernel_rfl
theorem Yz : TC uS 78 L9 Fy := by
 intro d ts h
 obtain ⟨d, h⟩ := Ke Xu h
 obtain ⟨a0, _, rfl, h0, a1, _, rfl, h1, a2, _, rfl, h2, rfl⟩ := h
 obtain ⟨x0, rfl, w0⟩ := PL d _ h0
 obtain ⟨x1, rfl, w1⟩ := PL d _ h1
 obtain ⟨x2, rfl, w2⟩ := XW d _ h2
 exact ⟨⟨x0, x1, x2⟩, rfl, w0, w1, w2, trivial⟩
theorem Wo (N d : Nat) (plain : ∀ (x0 : BN) (x1 : B4), FF x0 → Fy x1 → CQ N x0 x1 = some true) : ∀ Ds, Ki uS d [25, 78] Ds → Ar uS 9 Ds [] (.e (.one (.pure (.val (.bool true))))) := by
 intro Ds h
 obtain ⟨u0, Ds0, rfl, f0, g0⟩ := Mo h
 obtain ⟨x0, rfl, w0⟩ := XN _ _ f0
 rw [Oe Xt]
 obtain ⟨u1, Ds1, rfl, f1, g1⟩ := Mo g0
 obtain ⟨x1, rfl, w1⟩ := Yz _ _ f1
 rw [Oe Xu]
 obtain rfl := Q4 g1
 exact Jt N x0 x1 true (plain x0 x1 w0 w1)
end Go.Lift
