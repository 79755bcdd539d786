/- Lemmas for AuditPartsCardSaid, which YtfgobbnahihlfaaGreatDoorFinA9 proves. -/
import Derived.Test.YtfgobbnahihlfaaGreatDoorCode4
open Go.Proofs.Tryz renaming prog → zA
namespace Go.Lift
open Go.RowKit
open Go.Proofs
theorem Hp : O2 zA 3 As He := Rg (k := .i64) (by kernel_rfl) (fun _ => rfl)
theorem OS : O2 zA 22 (L9 As) (Lq He) := HC (el := 3) (by kernel_rfl) Hp (fun _ => rfl)
theorem U4 : O2 zA 4 eB (fun _ => True) := Tq (by kernel_rfl) (fun _ => rfl)
theorem T6 : O2 zA 125 (L9 eB) (Lq (fun _ => True)) := HC (el := 4) (by kernel_rfl) U4 (fun _ => rfl)
theorem Rv : O2 zA 110 (L9 (L9 eB)) (Lq (Lq (fun _ => True))) := HC (el := 125) (by kernel_rfl) T6 (fun _ => rfl)
theorem VG : Gy zA 112 = some [3, 3, 3, 4, 110, 110] := by kernel_rfl
theorem TG : O2 zA 112 Bw K0 := by
 intro d ts h
 obtain ⟨d, h⟩ := HN VG h
 obtain ⟨a0, _, rfl, h0, a1, _, rfl, h1, a2, _, rfl, h2, a3, _, rfl, h3, a4, _, rfl, h4, a5, _, rfl, h5, rfl⟩ := h
 obtain ⟨x0, rfl, w0⟩ := Hp d _ h0
 obtain ⟨x1, rfl, w1⟩ := Hp d _ h1
 obtain ⟨x2, rfl, w2⟩ := Hp d _ h2
 obtain ⟨x3, rfl, w3⟩ := U4 d _ h3
 obtain ⟨x4, rfl, w4⟩ := Rv d _ h4
 obtain ⟨x5, rfl, w5⟩ := Rv d _ h5
 exact ⟨⟨x0, x1, x2, x3, x4, x5⟩, rfl, w0, w1, w2, w3, w4, w5, trivial⟩
theorem Vr : O2 zA 23 (L9 Bw) (Lq K0) := HC (el := 112) (by kernel_rfl) TG (fun _ => rfl)
theorem Wq : Gy zA 25 = some [22, 22, 22, 23] := by kernel_rfl
theorem VN : O2 zA 25 PF Lx := by
 intro d ts h
 obtain ⟨d, h⟩ := HN Wq h
 obtain ⟨a0, _, rfl, h0, a1, _, rfl, h1, a2, _, rfl, h2, a3, _, rfl, h3, rfl⟩ := h
 obtain ⟨x0, rfl, w0⟩ := OS d _ h0
 obtain ⟨x1, rfl, w1⟩ := OS d _ h1
 obtain ⟨x2, rfl, w2⟩ := OS d _ h2
 obtain ⟨x3, rfl, w3⟩ := Vr d _ h3
 exact ⟨⟨x0, x1, x2, x3⟩, rfl, w0, w1, w2, w3, trivial⟩
theorem W3 : Gy zA 67 = some [3, 3, 3] := by kernel_rfl
theorem Vm : O2 zA 67 AQ MK := by
 intro d ts h
 obtain ⟨d, h⟩ := HN W3 h
 obtain ⟨a0, _, rfl, h0, a1, _, rfl, h1, a2, _, rfl, h2, rfl⟩ := h
 obtain ⟨x0, rfl, w0⟩ := Hp d _ h0
 obtain ⟨x1, rfl, w1⟩ := Hp d _ h1
 obtain ⟨x2, rfl, w2⟩ := Hp d _ h2
 exact ⟨⟨x0, x1, x2⟩, rfl, w0, w1, w2, trivial⟩
theorem V2 : O2 zA 26 (L9 AQ) (Lq MK) := HC (el := 67) (by kernel_rfl) Vm (fun _ => rfl)
theorem U6 : O2 zA 2 As He := Rg (k := .i64) (by kernel_rfl) (fun _ => rfl)
theorem WU : Gy zA 37 = some [2, 3, 3, 3, 3, 3, 2, 3, 3, 3, 3] := by kernel_rfl
theorem VS : O2 zA 37 Aw Ju := by
 intro d ts h
 obtain ⟨d, h⟩ := HN WU h
 obtain ⟨a0, _, rfl, h0, a1, _, rfl, h1, a2, _, rfl, h2, a3, _, rfl, h3, a4, _, rfl, h4, a5, _, rfl, h5, a6, _, rfl, h6, a7, _, rfl, h7, a8, _, rfl, h8, a9, _, rfl, h9, a10, _, rfl, h10, rfl⟩ := h
 obtain ⟨x0, rfl, w0⟩ := U6 d _ h0
 obtain ⟨x1, rfl, w1⟩ := Hp d _ h1
 obtain ⟨x2, rfl, w2⟩ := Hp d _ h2
 obtain ⟨x3, rfl, w3⟩ := Hp d _ h3
 obtain ⟨x4, rfl, w4⟩ := Hp d _ h4
 obtain ⟨x5, rfl, w5⟩ := Hp d _ h5
 obtain ⟨x6, rfl, w6⟩ := U6 d _ h6
 obtain ⟨x7, rfl, w7⟩ := Hp d _ h7
 obtain ⟨x8, rfl, w8⟩ := Hp d _ h8
 obtain ⟨x9, rfl, w9⟩ := Hp d _ h9
 obtain ⟨x10, rfl, w10⟩ := Hp d _ h10
 exact ⟨⟨x0, x1, x2, x3, x4, x5, x6, x7, x8, x9, x10⟩, rfl, w0, w1, w2, w3, w4, w5, w6, w7, w8, w9, w10, trivial⟩
theorem Vw : O2 zA 27 (L9 Aw) (Lq Ju) := HC (el := 37) (by kernel_rfl) VS (fun _ => rfl)
theorem Vf : Gy zA 29 = some [25, 22, 26, 27] := by kernel_rfl
theorem Vz : O2 zA 29 LO zFS := by
 intro d ts h
 obtain ⟨d, h⟩ := HN Vf h
 obtain ⟨a0, _, rfl, h0, a1, _, rfl, h1, a2, _, rfl, h2, a3, _, rfl, h3, rfl⟩ := h
 obtain ⟨x0, rfl, w0⟩ := VN d _ h0
 obtain ⟨x1, rfl, w1⟩ := OS d _ h1
 obtain ⟨x2, rfl, w2⟩ := V2 d _ h2
 obtain ⟨x3, rfl, w3⟩ := Vw d _ h3
 exact ⟨⟨x0, x1, x2, x3⟩, rfl, w0, w1, w2, w3, trivial⟩
theorem TW (N d : Nat) (plain : ∀ (x0 : B3), zFS x0 → CB N x0 = some true) : ∀ Ds, IJ zA d [29] Ds → Ar zA 9 Ds [] (.e (.one (.pure (.val (.bool true))))) := by
 intro Ds h
 obtain ⟨u0, Ds0, rfl, f0, g0⟩ := Or h
 obtain ⟨x0, rfl, w0⟩ := Vz _ _ f0
 rw [Qy Vf]
 obtain rfl := Pz g0
 exact Im N x0 true (plain x0 w0)
end Go.Lift
