/- Lemmas for AuditCorrectCardSaid, which YtfgobbnahihlfaaGreatDoorFinA6 proves. -/
import Derived.Test.YtfgobbnahihlfaaGreatDoorCode6
open Go.Proofs.Tryz renaming prog → zA
namespace Go.Lift
open Go.RowKit
open Go.Proofs
theorem fa : Wl zA 4 eB (fun _ => True) := WX (by kernel_rfl) (fun _ => rfl)
theorem Wa : Wl zA 5 Cy Lr := V4 (k := .u8) (by kernel_rfl) (fun _ => rfl)
theorem Og : Wl zA 47 (Nv Cy) (Oq Lr) := RP (el := 5) (by kernel_rfl) Wa (fun _ => rfl)
theorem Ve : Wl zA 184 fX cG := V4 (k := .u16) (by kernel_rfl) (fun _ => rfl)
theorem cr : H9 zA 186 = some [5, 5, 5, 4, 184, 184] := by kernel_rfl
theorem Zi : Wl zA 186 Fs Iw := by
 intro d ts h
 obtain ⟨d, h⟩ := M7 cr h
 obtain ⟨a0, _, rfl, h0, a1, _, rfl, h1, a2, _, rfl, h2, a3, _, rfl, h3, a4, _, rfl, h4, a5, _, rfl, h5, rfl⟩ := h
 obtain ⟨x0, rfl, w0⟩ := Wa d _ h0
 obtain ⟨x1, rfl, w1⟩ := Wa d _ h1
 obtain ⟨x2, rfl, w2⟩ := Wa d _ h2
 obtain ⟨x3, rfl, w3⟩ := fa d _ h3
 obtain ⟨x4, rfl, w4⟩ := Ve d _ h4
 obtain ⟨x5, rfl, w5⟩ := Ve d _ h5
 exact ⟨⟨x0, x1, x2, x3, x4, x5⟩, rfl, w0, w1, w2, w3, w4, w5, trivial⟩
theorem cb : Wl zA 48 (Nv Fs) (Oq Iw) := RP (el := 186) (by kernel_rfl) Zi (fun _ => rfl)
theorem dp : H9 zA 50 = some [47, 47, 47, 48] := by kernel_rfl
theorem bZ : Wl zA 50 Nt GR := by
 intro d ts h
 obtain ⟨d, h⟩ := M7 dp h
 obtain ⟨a0, _, rfl, h0, a1, _, rfl, h1, a2, _, rfl, h2, a3, _, rfl, h3, rfl⟩ := h
 obtain ⟨x0, rfl, w0⟩ := Og d _ h0
 obtain ⟨x1, rfl, w1⟩ := Og d _ h1
 obtain ⟨x2, rfl, w2⟩ := Og d _ h2
 obtain ⟨x3, rfl, w3⟩ := cb d _ h3
 exact ⟨⟨x0, x1, x2, x3⟩, rfl, w0, w1, w2, w3, trivial⟩
theorem bc : H9 zA 52 = some [50, 47, 47] := by kernel_rfl
theorem cM : Wl zA 52 Ot Iq := by
 intro d ts h
 obtain ⟨d, h⟩ := M7 bc h
 obtain ⟨a0, _, rfl, h0, a1, _, rfl, h1, a2, _, rfl, h2, rfl⟩ := h
 obtain ⟨x0, rfl, w0⟩ := bZ d _ h0
 obtain ⟨x1, rfl, w1⟩ := Og d _ h1
 obtain ⟨x2, rfl, w2⟩ := Og d _ h2
 exact ⟨⟨x0, x1, x2⟩, rfl, w0, w1, w2, trivial⟩
theorem Zx (N d : Nat) (plain : ∀ (x0 : Bz) (x1 : List Int), Iq x0 → (Oq Lr) x1 → Dn N x0 x1 = some true) : ∀ Ds, K1 zA d [52, 47] Ds → Au zA 6 Ds [] (.e (.one (.pure (.val (.bool true))))) := by
 intro Ds h
 obtain ⟨u0, Ds0, rfl, f0, g0⟩ := NG h
 obtain ⟨x0, rfl, w0⟩ := cM _ _ f0
 rw [Ur bc]
 obtain ⟨u1, Ds1, rfl, f1, g1⟩ := NG g0
 obtain ⟨x1, rfl, w1⟩ := Og _ _ f1
 rw [ZN (by kernel_rfl)]
 obtain rfl := Tw g1
 exact JF N x0 x1 true (plain x0 x1 w0 w1)
end Go.Lift
