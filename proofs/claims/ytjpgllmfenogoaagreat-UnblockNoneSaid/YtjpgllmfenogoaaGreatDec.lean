/- Lemmas for UnblockNoneSaid, which YtjpgllmfenogoaaGreatFinU3 proves. -/
import Derived.Test.YtjpgllmfenogoaaGreatCode5
namespace Go.Lift
open Go.RowKit
open Go.Proofs
theorem VT : WH Tryz.prog 5 EI MV := VD (k := .u8) (by kernel_rfl) (fun _ => rfl)
theorem Uu : WH Tryz.prog 22 (FP EI) (Qv MV) := RA (el := 5) (by kernel_rfl) VT (fun _ => rfl)
theorem bK : WH Tryz.prog 4 eB (fun _ => True) := Xm (by kernel_rfl) (fun _ => rfl)
theorem XC : WH Tryz.prog 86 dP aa := VD (k := .u16) (by kernel_rfl) (fun _ => rfl)
theorem cU : KX Tryz.prog 88 = some [5, 5, 5, 4, 86, 86] := by kernel_rfl
theorem ZZ : WH Tryz.prog 88 HS Jb := by
 intro d ts h
 obtain ⟨d, h⟩ := Qo cU h
 obtain ⟨a0, _, rfl, h0, a1, _, rfl, h1, a2, _, rfl, h2, a3, _, rfl, h3, a4, _, rfl, h4, a5, _, rfl, h5, rfl⟩ := h
 obtain ⟨x0, rfl, w0⟩ := VT d _ h0
 obtain ⟨x1, rfl, w1⟩ := VT d _ h1
 obtain ⟨x2, rfl, w2⟩ := VT d _ h2
 obtain ⟨x3, rfl, w3⟩ := bK d _ h3
 obtain ⟨x4, rfl, w4⟩ := XC d _ h4
 obtain ⟨x5, rfl, w5⟩ := XC d _ h5
 exact ⟨⟨x0, x1, x2, x3, x4, x5⟩, rfl, w0, w1, w2, w3, w4, w5, trivial⟩
theorem aM : WH Tryz.prog 23 (FP HS) (Qv Jb) := RA (el := 88) (by kernel_rfl) ZZ (fun _ => rfl)
theorem Zq : KX Tryz.prog 25 = some [22, 22, 22, 23] := by kernel_rfl
theorem Z2 : WH Tryz.prog 25 ND GE := by
 intro d ts h
 obtain ⟨d, h⟩ := Qo Zq h
 obtain ⟨a0, _, rfl, h0, a1, _, rfl, h1, a2, _, rfl, h2, a3, _, rfl, h3, rfl⟩ := h
 obtain ⟨x0, rfl, w0⟩ := Uu d _ h0
 obtain ⟨x1, rfl, w1⟩ := Uu d _ h1
 obtain ⟨x2, rfl, w2⟩ := Uu d _ h2
 obtain ⟨x3, rfl, w3⟩ := aM d _ h3
 exact ⟨⟨x0, x1, x2, x3⟩, rfl, w0, w1, w2, w3, trivial⟩
theorem Zj (N d : Nat) (plain : ∀ (x0 : BW), GE x0 → D7 N x0 = some true) : ∀ Ds, Le Tryz.prog d [25] Ds → Ay Tryz.prog 3 Ds [] (.e (.one (.pure (.val (.bool true))))) := by
 intro Ds h
 obtain ⟨u0, Ds0, rfl, f0, g0⟩ := R8 h
 obtain ⟨x0, rfl, w0⟩ := Z2 _ _ f0
 rw [U6 Zq]
 obtain rfl := T4 g0
 exact Km N x0 true (plain x0 w0)
end Go.Lift
