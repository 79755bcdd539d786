/- Lemmas for AuditFormatCardSaid, which YtfgobbnahihlfaaGreatDoorFinA5 proves. -/
import Derived.Test.YtfgobbnahihlfaaGreatDoorCode3
open Go.Proofs.Tryz renaming prog → uS
namespace Go.Lift
open Go.RowKit
open Go.Proofs
theorem Pt : Pd uS 2 Aq Ec := Mi (k := .i64) (by kernel_rfl) (fun _ => rfl)
theorem Gy : Pd uS 3 Aq Ec := Mi (k := .i64) (by kernel_rfl) (fun _ => rfl)
theorem Rm : GR uS 37 = some [2, 3, 3, 3, 3, 3, 2, 3, 3, 3, 3] := by kernel_rfl
theorem Qe : Pd uS 37 Ay C2 := by
 intro d ts h
 obtain ⟨d, h⟩ := LP Rm h
 obtain ⟨a0, _, rfl, h0, a1, _, rfl, h1, a2, _, rfl, h2, a3, _, rfl, h3, a4, _, rfl, h4, a5, _, rfl, h5, a6, _, rfl, h6, a7, _, rfl, h7, a8, _, rfl, h8, a9, _, rfl, h9, a10, _, rfl, h10, rfl⟩ := h
 obtain ⟨x0, rfl, w0⟩ := Pt d _ h0
 obtain ⟨x1, rfl, w1⟩ := Gy d _ h1
 obtain ⟨x2, rfl, w2⟩ := Gy d _ h2
 obtain ⟨x3, rfl, w3⟩ := Gy d _ h3
 obtain ⟨x4, rfl, w4⟩ := Gy d _ h4
 obtain ⟨x5, rfl, w5⟩ := Gy d _ h5
 obtain ⟨x6, rfl, w6⟩ := Pt d _ h6
 obtain ⟨x7, rfl, w7⟩ := Gy d _ h7
 obtain ⟨x8, rfl, w8⟩ := Gy d _ h8
 obtain ⟨x9, rfl, w9⟩ := Gy d _ h9
 obtain ⟨x10, rfl, w10⟩ := Gy d _ h10
 exact ⟨⟨x0, x1, x2, x3, x4, x5, x6, x7, x8, x9, x10⟩, rfl, w0, w1, w2, w3, w4, w5, w6, w7, w8, w9, w10, trivial⟩
theorem P7 : Pd uS 27 (Lz Ay) (Rg C2) := MK (el := 37) (by kernel_rfl) Qe (fun _ => rfl)
theorem OH (N d : Nat) (plain : ∀ (x0 : List Aa) (x1 : Int) (x2 : Int), (Rg C2) x0 → Ec x1 → Ec x2 → Bh N x0 x1 x2 = some true) : ∀ Ds, Gf uS d [27, 3, 3] Ds → Ak uS 5 Ds [] (.e (.one (.pure (.val (.bool true))))) := by
 intro Ds h
 obtain ⟨u0, Ds0, rfl, f0, g0⟩ := Gi h
 obtain ⟨x0, rfl, w0⟩ := P7 _ _ f0
 rw [Kw (by kernel_rfl)]
 obtain ⟨u1, Ds1, rfl, f1, g1⟩ := Gi g0
 obtain ⟨x1, rfl, w1⟩ := Gy _ _ f1
 rw [Kw (by kernel_rfl)]
 obtain ⟨u2, Ds2, rfl, f2, g2⟩ := Gi g1
 obtain ⟨x2, rfl, w2⟩ := Gy _ _ f2
 rw [Kw (by kernel_rfl)]
 obtain rfl := K1 g2
 exact Fh N x0 x1 x2 true (plain x0 x1 x2 w0 w1 w2)
end Go.Lift
