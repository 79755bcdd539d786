/- Lemmas for WavesOrderCardSaid, which YtncnphcfgojgmaaDoorFinV5 proves. -/
import Derived.Test.YtncnphcfgojgmaaDoorCode3
namespace Go.Lift
open Go.RowKit
open Go.Proofs
theorem Pf : N7 Tryd.prog 5 B5 IY := Mj (k := .u8) (by kernel_rfl) (fun _ => rfl)
theorem Ju : N7 Tryd.prog 22 (FW B5) (JY IY) := Jz (el := 5) (by kernel_rfl) Pf (fun _ => rfl)
theorem Ub : N7 Tryd.prog 4 eB (fun _ => True) := Qr (by kernel_rfl) (fun _ => rfl)
theorem QH : N7 Tryd.prog 61 Vd Tl := Mj (k := .u16) (by kernel_rfl) (fun _ => rfl)
theorem T2 : EP Tryd.prog 63 = some [5, 5, 5, 4, 61, 61] := by kernel_rfl
theorem Tx : N7 Tryd.prog 63 EA FC := by
 intro d ts h
 obtain ⟨d, h⟩ := HC T2 h
 obtain ⟨a0, _, rfl, h0, a1, _, rfl, h1, a2, _, rfl, h2, a3, _, rfl, h3, a4, _, rfl, h4, a5, _, rfl, h5, rfl⟩ := h
 obtain ⟨x0, rfl, w0⟩ := Pf d _ h0
 obtain ⟨x1, rfl, w1⟩ := Pf d _ h1
 obtain ⟨x2, rfl, w2⟩ := Pf d _ h2
 obtain ⟨x3, rfl, w3⟩ := Ub d _ h3
 obtain ⟨x4, rfl, w4⟩ := QH d _ h4
 obtain ⟨x5, rfl, w5⟩ := QH d _ h5
 exact ⟨⟨x0, x1, x2, x3, x4, x5⟩, rfl, w0, w1, w2, w3, w4, w5, trivial⟩
theorem Ty : N7 Tryd.prog 23 (FW EA) (JY FC) := Jz (el := 63) (by kernel_rfl) Tx (fun _ => rfl)
theorem SC : EP Tryd.prog 25 = some [22, 22, 22, 23] := by kernel_rfl
theorem S1 : N7 Tryd.prog 25 Jg Dj := by
 intro d ts h
 obtain ⟨d, h⟩ := HC SC h
 obtain ⟨a0, _, rfl, h0, a1, _, rfl, h1, a2, _, rfl, h2, a3, _, rfl, h3, rfl⟩ := h
 obtain ⟨x0, rfl, w0⟩ := Ju d _ h0
 obtain ⟨x1, rfl, w1⟩ := Ju d _ h1
 obtain ⟨x2, rfl, w2⟩ := Ju d _ h2
 obtain ⟨x3, rfl, w3⟩ := Ty d _ h3
 exact ⟨⟨x0, x1, x2, x3⟩, rfl, w0, w1, w2, w3, trivial⟩
theorem SD : EP Tryd.prog 27 = some [22, 22, 22] := by kernel_rfl
theorem Ta : N7 Tryd.prog 27 Jm Dm := by
 intro d ts h
 obtain ⟨d, h⟩ := HC SD h
 obtain ⟨a0, _, rfl, h0, a1, _, rfl, h1, a2, _, rfl, h2, rfl⟩ := h
 obtain ⟨x0, rfl, w0⟩ := Ju d _ h0
 obtain ⟨x1, rfl, w1⟩ := Ju d _ h1
 obtain ⟨x2, rfl, w2⟩ := Ju d _ h2
 exact ⟨⟨x0, x1, x2⟩, rfl, w0, w1, w2, trivial⟩
theorem P3 : N7 Tryd.prog 3 Ak RK := Mj (k := .i64) (by kernel_rfl) (fun _ => rfl)
theorem Uj : EP Tryd.prog 44 = some [3, 3, 3] := by kernel_rfl
theorem S3 : N7 Tryd.prog 44 Ah HU := by
 intro d ts h
 obtain ⟨d, h⟩ := HC Uj h
 obtain ⟨a0, _, rfl, h0, a1, _, rfl, h1, a2, _, rfl, h2, rfl⟩ := h
 obtain ⟨x0, rfl, w0⟩ := P3 d _ h0
 obtain ⟨x1, rfl, w1⟩ := P3 d _ h1
 obtain ⟨x2, rfl, w2⟩ := P3 d _ h2
 exact ⟨⟨x0, x1, x2⟩, rfl, w0, w1, w2, trivial⟩
theorem TC : N7 Tryd.prog 28 (FW Ah) (JY HU) := Jz (el := 44) (by kernel_rfl) S3 (fun _ => rfl)
theorem Sl (N d : Nat) (plain : ∀ (x0 : A9) (x1 : AZ) (x2 : List Ac), Dj x0 → Dm x1 → (JY HU) x2 → BS N x0 x1 x2 = some true) : ∀ Ds, Hy Tryd.prog d [25, 27, 28] Ds → Ar Tryd.prog 3 Ds [] (.e (.one (.pure (.val (.bool true))))) := by
 intro Ds h
 obtain ⟨u0, Ds0, rfl, f0, g0⟩ := Hz h
 obtain ⟨x0, rfl, w0⟩ := S1 _ _ f0
 rw [KG SC]
 obtain ⟨u1, Ds1, rfl, f1, g1⟩ := Hz g0
 obtain ⟨x1, rfl, w1⟩ := Ta _ _ f1
 rw [KG SD]
 obtain ⟨u2, Ds2, rfl, f2, g2⟩ := Hz g1
 obtain ⟨x2, rfl, w2⟩ := TC _ _ f2
 rw [Rk (by kernel_rfl)]
 obtain rfl := M6 g2
 exact G5 N x0 x1 x2 true (plain x0 x1 x2 w0 w1 w2)
end Go.Lift
