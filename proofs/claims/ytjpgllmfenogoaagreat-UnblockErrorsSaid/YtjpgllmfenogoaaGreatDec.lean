/- Lemmas for UnblockErrorsSaid, which YtjpgllmfenogoaaGreatFinU9 proves. -/
import Derived.Test.YtjpgllmfenogoaaGreatCode3
namespace Go.Lift
open Go.RowKit
open Go.Proofs
theorem Oa : O1 Tryz.prog 3 Au MX := QE (k := .i64) (by kernel_rfl) (fun _ => rfl)
theorem NT : O1 Tryz.prog 26 (DH Au) (O0 MX) := Iq (el := 3) (by kernel_rfl) Oa (fun _ => rfl)
theorem Ro : O1 Tryz.prog 4 eB (fun _ => True) := Pt (by kernel_rfl) (fun _ => rfl)
theorem RS : O1 Tryz.prog 77 (DH eB) (O0 (fun _ => True)) := Iq (el := 4) (by kernel_rfl) Ro (fun _ => rfl)
theorem PW : O1 Tryz.prog 74 (DH (DH eB)) (O0 (O0 (fun _ => True))) := Iq (el := 77) (by kernel_rfl) RS (fun _ => rfl)
theorem Tm : Hp Tryz.prog 76 = some [3, 3, 3, 4, 74, 74] := by kernel_rfl
theorem R2 : O1 Tryz.prog 76 AA Jv := by
 intro d ts h
 obtain ⟨d, h⟩ := Ku Tm h
 obtain ⟨a0, _, rfl, h0, a1, _, rfl, h1, a2, _, rfl, h2, a3, _, rfl, h3, a4, _, rfl, h4, a5, _, rfl, h5, rfl⟩ := h
 obtain ⟨x0, rfl, w0⟩ := Oa d _ h0
 obtain ⟨x1, rfl, w1⟩ := Oa d _ h1
 obtain ⟨x2, rfl, w2⟩ := Oa d _ h2
 obtain ⟨x3, rfl, w3⟩ := Ro d _ h3
 obtain ⟨x4, rfl, w4⟩ := PW d _ h4
 obtain ⟨x5, rfl, w5⟩ := PW d _ h5
 exact ⟨⟨x0, x1, x2, x3, x4, x5⟩, rfl, w0, w1, w2, w3, w4, w5, trivial⟩
theorem Sa : O1 Tryz.prog 27 (DH AA) (O0 Jv) := Iq (el := 76) (by kernel_rfl) R2 (fun _ => rfl)
theorem Rc : Hp Tryz.prog 29 = some [26, 26, 26, 27] := by kernel_rfl
theorem RX : O1 Tryz.prog 29 M9 H7 := by
 intro d ts h
 obtain ⟨d, h⟩ := Ku Rc h
 obtain ⟨a0, _, rfl, h0, a1, _, rfl, h1, a2, _, rfl, h2, a3, _, rfl, h3, rfl⟩ := h
 obtain ⟨x0, rfl, w0⟩ := NT d _ h0
 obtain ⟨x1, rfl, w1⟩ := NT d _ h1
 obtain ⟨x2, rfl, w2⟩ := NT d _ h2
 obtain ⟨x3, rfl, w3⟩ := Sa d _ h3
 exact ⟨⟨x0, x1, x2, x3⟩, rfl, w0, w1, w2, w3, trivial⟩
theorem Qu (N d : Nat) (plain : ∀ (x0 : Ae), H7 x0 → BH N x0 = some true) : ∀ Ds, HD Tryz.prog d [29] Ds → Ao Tryz.prog 9 Ds [] (.e (.one (.pure (.val (.bool true))))) := by
 intro Ds h
 obtain ⟨u0, Ds0, rfl, f0, g0⟩ := Mj h
 obtain ⟨x0, rfl, w0⟩ := RX _ _ f0
 rw [NJ Rc]
 obtain rfl := Nm g0
 exact Gb N x0 true (plain x0 w0)
end Go.Lift
