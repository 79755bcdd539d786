/- Lemmas for CoreOppositeCardSaid, which YtbfklmmnpdifaaaGreatDoorFinC5 proves. -/
import Derived.Test.YtbfklmmnpdifaaaGreatDoorCode5
open Go.Proofs.Tryz renaming prog → zA0
namespace Go.Lift
open Go.RowKit
open Go.Proofs
theorem Uu : VK zA0 5 DV Mh := UQ (k := .u8) (by kernel_rfl) (fun _ => rfl)
theorem Ul : VK zA0 22 (EX DV) (PO Mh) := Qj (el := 5) (by kernel_rfl) Uu (fun _ => rfl)
theorem cg : VK zA0 4 eB (fun _ => True) := Xy (by kernel_rfl) (fun _ => rfl)
theorem Ww : VK zA0 99 dI Z7 := UQ (k := .u16) (by kernel_rfl) (fun _ => rfl)
theorem ZK : Kr zA0 101 = some [5, 5, 5, 4, 99, 99] := by kernel_rfl
theorem XQ : VK zA0 101 Hf Iv := by
 intro d ts h
 obtain ⟨d, h⟩ := Pe ZK h
 obtain ⟨a0, _, rfl, h0, a1, _, rfl, h1, a2, _, rfl, h2, a3, _, rfl, h3, a4, _, rfl, h4, a5, _, rfl, h5, rfl⟩ := h
 obtain ⟨x0, rfl, w0⟩ := Uu d _ h0
 obtain ⟨x1, rfl, w1⟩ := Uu d _ h1
 obtain ⟨x2, rfl, w2⟩ := Uu d _ h2
 obtain ⟨x3, rfl, w3⟩ := cg d _ h3
 obtain ⟨x4, rfl, w4⟩ := Ww d _ h4
 obtain ⟨x5, rfl, w5⟩ := Ww d _ h5
 exact ⟨⟨x0, x1, x2, x3, x4, x5⟩, rfl, w0, w1, w2, w3, w4, w5, trivial⟩
theorem ZT : VK zA0 23 (EX Hf) (PO Iv) := Qj (el := 101) (by kernel_rfl) XQ (fun _ => rfl)
theorem ZB : Kr zA0 25 = some [22, 22, 22, 23] := by kernel_rfl
theorem ao : VK zA0 25 MT FL := by
 intro d ts h
 obtain ⟨d, h⟩ := Pe ZB h
 obtain ⟨a0, _, rfl, h0, a1, _, rfl, h1, a2, _, rfl, h2, a3, _, rfl, h3, rfl⟩ := h
 obtain ⟨x0, rfl, w0⟩ := Ul d _ h0
 obtain ⟨x1, rfl, w1⟩ := Ul d _ h1
 obtain ⟨x2, rfl, w2⟩ := Ul d _ h2
 obtain ⟨x3, rfl, w3⟩ := ZT d _ h3
 exact ⟨⟨x0, x1, x2, x3⟩, rfl, w0, w1, w2, w3, trivial⟩
theorem XT (N d : Nat) (plain : ∀ (x0 : BF), FL x0 → C8 N x0 = some true) : ∀ Ds, KW zA0 d [25] Ds → Ap zA0 5 Ds [] (.e (.one (.pure (.val (.bool true))))) := by
 intro Ds h
 obtain ⟨u0, Ds0, rfl, f0, g0⟩ := Rc h
 obtain ⟨x0, rfl, w0⟩ := ao _ _ f0
 rw [TC ZB]
 obtain rfl := Si g0
 exact JR N x0 true (plain x0 w0)
end Go.Lift
