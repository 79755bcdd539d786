/- Lemmas for RefuseProveSaid, which YtpaobkaighpaaaaGreatFinR3 proves. -/
import Derived.Test.YtpaobkaighpaaaaGreatCode6
namespace Go.Lift
open Go.RowKit
open Go.Proofs
theorem Tf : T8 Tryz.prog 5 Bn KH := Tl (k := .u8) (by kernel_rfl) (fun _ => rfl)
theorem SI : T8 Tryz.prog 22 (Fn Bn) (MO KH) := PG (el := 5) (by kernel_rfl) Tf (fun _ => rfl)
theorem ZU : T8 Tryz.prog 4 eB (fun _ => True) := VZ (by kernel_rfl) (fun _ => rfl)
theorem U6 : T8 Tryz.prog 99 bL Ye := Tl (k := .u16) (by kernel_rfl) (fun _ => rfl)
theorem Yp : Ka Tryz.prog 101 = some [5, 5, 5, 4, 99, 99] := by kernel_rfl
theorem WS : T8 Tryz.prog 101 Ck In := by
 intro d ts h
 obtain ⟨d, h⟩ := O6 Yp h
 obtain ⟨a0, _, rfl, h0, a1, _, rfl, h1, a2, _, rfl, h2, a3, _, rfl, h3, a4, _, rfl, h4, a5, _, rfl, h5, rfl⟩ := h
 obtain ⟨x0, rfl, w0⟩ := Tf d _ h0
 obtain ⟨x1, rfl, w1⟩ := Tf d _ h1
 obtain ⟨x2, rfl, w2⟩ := Tf d _ h2
 obtain ⟨x3, rfl, w3⟩ := ZU d _ h3
 obtain ⟨x4, rfl, w4⟩ := U6 d _ h4
 obtain ⟨x5, rfl, w5⟩ := U6 d _ h5
 exact ⟨⟨x0, x1, x2, x3, x4, x5⟩, rfl, w0, w1, w2, w3, w4, w5, trivial⟩
theorem Ys : T8 Tryz.prog 23 (Fn Ck) (MO In) := PG (el := 101) (by kernel_rfl) WS (fun _ => rfl)
theorem XW : Ka Tryz.prog 25 = some [22, 22, 22, 23] := by kernel_rfl
theorem YQ : T8 Tryz.prog 25 ME FG := by
 intro d ts h
 obtain ⟨d, h⟩ := O6 XW h
 obtain ⟨a0, _, rfl, h0, a1, _, rfl, h1, a2, _, rfl, h2, a3, _, rfl, h3, rfl⟩ := h
 obtain ⟨x0, rfl, w0⟩ := SI d _ h0
 obtain ⟨x1, rfl, w1⟩ := SI d _ h1
 obtain ⟨x2, rfl, w2⟩ := SI d _ h2
 obtain ⟨x3, rfl, w3⟩ := Ys d _ h3
 exact ⟨⟨x0, x1, x2, x3⟩, rfl, w0, w1, w2, w3, trivial⟩
theorem Wu (N d : Nat) (plain : ∀ (x0 : B5), FG x0 → CV N x0 = some true) : ∀ Ds, Kj Tryz.prog d [25] Ds → AD Tryz.prog 3 Ds [] (.e (.one (.pure (.val (.bool true))))) := by
 intro Ds h
 obtain ⟨u0, Ds0, rfl, f0, g0⟩ := Qk h
 obtain ⟨x0, rfl, w0⟩ := YQ _ _ f0
 rw [SE XW]
 obtain rfl := Re g0
 exact Jy N x0 true (plain x0 w0)
end Go.Lift
