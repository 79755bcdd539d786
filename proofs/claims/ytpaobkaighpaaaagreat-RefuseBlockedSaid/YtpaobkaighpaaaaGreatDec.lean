/- Lemmas for RefuseBlockedSaid, which YtpaobkaighpaaaaGreatFinR4 proves. -/
import Derived.Test.YtpaobkaighpaaaaGreatCode6
/- The laws, from typed inputs to the code. Written by a program (gen.py). -/
namespace Go.Lift
open Go.RowKit
open Go.Proofs
theorem SA : Tp Tryz.prog 5 Bg KO := SG (k := .u8) (by kernel_rfl) (fun _ => rfl)
theorem Nf : Tp Tryz.prog 22 (FZ Bg) (Ml KO) := Pw (el := 5) (by kernel_rfl) SA (fun _ => rfl)
theorem Ye : Tp Tryz.prog 4 eB (fun _ => True) := U0 (by kernel_rfl) (fun _ => rfl)
theorem Uf : Tp Tryz.prog 99 YW WQ := SG (k := .u16) (by kernel_rfl) (fun _ => rfl)
theorem WW : J2 Tryz.prog 101 = some [5, 5, 5, 4, 99, 99] := by kernel_rfl
theorem Vq : Tp Tryz.prog 101 CW IW := by
 intro d ts h
 obtain ⟨d, h⟩ := Mu WW h
 obtain ⟨a0, _, rfl, h0, a1, _, rfl, h1, a2, _, rfl, h2, a3, _, rfl, h3, a4, _, rfl, h4, a5, _, rfl, h5, rfl⟩ := h
 obtain ⟨x0, rfl, w0⟩ := SA d _ h0
 obtain ⟨x1, rfl, w1⟩ := SA d _ h1
 obtain ⟨x2, rfl, w2⟩ := SA d _ h2
 obtain ⟨x3, rfl, w3⟩ := Ye d _ h3
 obtain ⟨x4, rfl, w4⟩ := Uf d _ h4
 obtain ⟨x5, rfl, w5⟩ := Uf d _ h5
 exact ⟨⟨x0, x1, x2, x3, x4, x5⟩, rfl, w0, w1, w2, w3, w4, w5, trivial⟩
theorem WC : Tp Tryz.prog 23 (FZ CW) (Ml IW) := Pw (el := 101) (by kernel_rfl) Vq (fun _ => rfl)
theorem Wq : J2 Tryz.prog 25 = some [22, 22, 22, 23] := by kernel_rfl
theorem WK : Tp Tryz.prog 25 MB Gj := by
 intro d ts h
 obtain ⟨d, h⟩ := Mu Wq h
 obtain ⟨a0, _, rfl, h0, a1, _, rfl, h1, a2, _, rfl, h2, a3, _, rfl, h3, rfl⟩ := h
 obtain ⟨x0, rfl, w0⟩ := Nf d _ h0
 obtain ⟨x1, rfl, w1⟩ := Nf d _ h1
 obtain ⟨x2, rfl, w2⟩ := Nf d _ h2
 obtain ⟨x3, rfl, w3⟩ := WC d _ h3
 exact ⟨⟨x0, x1, x2, x3⟩, rfl, w0, w1, w2, w3, trivial⟩
theorem Wd : J2 Tryz.prog 41 = some [22, 22, 22] := by kernel_rfl
theorem Wz : Tp Tryz.prog 41 M0 Gi := by
 intro d ts h
 obtain ⟨d, h⟩ := Mu Wd h
 obtain ⟨a0, _, rfl, h0, a1, _, rfl, h1, a2, _, rfl, h2, rfl⟩ := h
 obtain ⟨x0, rfl, w0⟩ := Nf d _ h0
 obtain ⟨x1, rfl, w1⟩ := Nf d _ h1
 obtain ⟨x2, rfl, w2⟩ := Nf d _ h2
 exact ⟨⟨x0, x1, x2⟩, rfl, w0, w1, w2, trivial⟩
theorem Vm (N d : Nat) (plain : ∀ (x0 : CV) (x1 : Ce), Gj x0 → Gi x1 → DN N x0 x1 = some true) : ∀ Ds, KS Tryz.prog d [25, 41] Ds → AB Tryz.prog 4 Ds [] (.e (.one (.pure (.val (.bool true))))) := by
 intro Ds h
 obtain ⟨u0, Ds0, rfl, f0, g0⟩ := MU h
 obtain ⟨x0, rfl, w0⟩ := WK _ _ f0
 rw [Oj Wq]
 obtain ⟨u1, Ds1, rfl, f1, g1⟩ := MU g0
 obtain ⟨x1, rfl, w1⟩ := Wz _ _ f1
 rw [Oj Wd]
 obtain rfl := RH g1
 exact Jx N x0 x1 true (plain x0 x1 w0 w1)
end Go.Lift

