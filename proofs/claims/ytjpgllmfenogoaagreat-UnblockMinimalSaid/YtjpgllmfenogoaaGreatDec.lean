/- Lemmas for UnblockMinimalSaid, which YtjpgllmfenogoaaGreatFinU4 proves. -/
import Derived.Test.YtjpgllmfenogoaaGreatCode5
namespace Go.Lift
open Go.RowKit
open Go.Proofs
theorem VY : Vm Tryz.prog 5 Eh Mn := Sl (k := .u8) (by kernel_rfl) (fun _ => rfl)
theorem VB : Vm Tryz.prog 22 (Fa Eh) (N9 Mn) := Od (el := 5) (by kernel_rfl) VY (fun _ => rfl)
theorem dP : Vm Tryz.prog 4 eB (fun _ => True) := Xl (by kernel_rfl) (fun _ => rfl)
theorem YU : Vm Tryz.prog 86 eV bf := Sl (k := .u16) (by kernel_rfl) (fun _ => rfl)
theorem cC : Ik Tryz.prog 88 = some [5, 5, 5, 4, 86, 86] := by kernel_rfl
theorem cb : Vm Tryz.prog 88 Hm IF := by
 intro d ts h
 obtain ⟨d, h⟩ := MU cC h
 obtain ⟨a0, _, rfl, h0, a1, _, rfl, h1, a2, _, rfl, h2, a3, _, rfl, h3, a4, _, rfl, h4, a5, _, rfl, h5, rfl⟩ := h
 obtain ⟨x0, rfl, w0⟩ := VY d _ h0
 obtain ⟨x1, rfl, w1⟩ := VY d _ h1
 obtain ⟨x2, rfl, w2⟩ := VY d _ h2
 obtain ⟨x3, rfl, w3⟩ := dP d _ h3
 obtain ⟨x4, rfl, w4⟩ := YU d _ h4
 obtain ⟨x5, rfl, w5⟩ := YU d _ h5
 exact ⟨⟨x0, x1, x2, x3, x4, x5⟩, rfl, w0, w1, w2, w3, w4, w5, trivial⟩
theorem bd : Vm Tryz.prog 23 (Fa Hm) (N9 IF) := Od (el := 88) (by kernel_rfl) cb (fun _ => rfl)
theorem aS : Ik Tryz.prog 25 = some [22, 22, 22, 23] := by kernel_rfl
theorem aZ : Vm Tryz.prog 25 Na F4 := by
 intro d ts h
 obtain ⟨d, h⟩ := MU aS h
 obtain ⟨a0, _, rfl, h0, a1, _, rfl, h1, a2, _, rfl, h2, a3, _, rfl, h3, rfl⟩ := h
 obtain ⟨x0, rfl, w0⟩ := VB d _ h0
 obtain ⟨x1, rfl, w1⟩ := VB d _ h1
 obtain ⟨x2, rfl, w2⟩ := VB d _ h2
 obtain ⟨x3, rfl, w3⟩ := bd d _ h3
 exact ⟨⟨x0, x1, x2, x3⟩, rfl, w0, w1, w2, w3, trivial⟩
theorem Yb : Vm Tryz.prog 3 Aq ZR := Sl (k := .i64) (by kernel_rfl) (fun _ => rfl)
theorem cD : Ik Tryz.prog 45 = some [3, 3, 3] := by kernel_rfl
theorem bL : Vm Tryz.prog 45 Ad Jr := by
 intro d ts h
 obtain ⟨d, h⟩ := MU cD h
 obtain ⟨a0, _, rfl, h0, a1, _, rfl, h1, a2, _, rfl, h2, rfl⟩ := h
 obtain ⟨x0, rfl, w0⟩ := Yb d _ h0
 obtain ⟨x1, rfl, w1⟩ := Yb d _ h1
 obtain ⟨x2, rfl, w2⟩ := Yb d _ h2
 exact ⟨⟨x0, x1, x2⟩, rfl, w0, w1, w2, trivial⟩
theorem cp : Vm Tryz.prog 33 (Fa Ad) (N9 Jr) := Od (el := 45) (by kernel_rfl) bL (fun _ => rfl)
theorem ZN (N d : Nat) (plain : ∀ (x0 : BJ) (x1 : List Aa), F4 x0 → (N9 Jr) x1 → C9 N x0 x1 = some true) : ∀ Ds, KY Tryz.prog d [25, 33] Ds → Au Tryz.prog 4 Ds [] (.e (.one (.pure (.val (.bool true))))) := by
 intro Ds h
 obtain ⟨u0, Ds0, rfl, f0, g0⟩ := NF h
 obtain ⟨x0, rfl, w0⟩ := aZ _ _ f0
 rw [Vg aS]
 obtain ⟨u1, Ds1, rfl, f1, g1⟩ := NF g0
 obtain ⟨x1, rfl, w1⟩ := cp _ _ f1
 rw [Zp (by kernel_rfl)]
 obtain rfl := TJ g1
 exact I1 N x0 x1 true (plain x0 x1 w0 w1)
end Go.Lift
