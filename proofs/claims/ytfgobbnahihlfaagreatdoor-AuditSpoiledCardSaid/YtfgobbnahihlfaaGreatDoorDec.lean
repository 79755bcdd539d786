/- Lemmas for AuditSpoiledCardSaid, which YtfgobbnahihlfaaGreatDoorFinA10 proves. -/
import Derived.Test.YtfgobbnahihlfaaGreatDoorCode4
open Go.Proofs.Tryz renaming prog → zA0
namespace Go.Lift
open Go.RowKit
open Go.Proofs
theorem GM : MK zA0 3 Au Gw := NV (k := .i64) (by kernel_rfl) (fun _ => rfl)
theorem N4 : MK zA0 22 (Li Au) (KY Gw) := GW (el := 3) (by kernel_rfl) GM (fun _ => rfl)
theorem T5 : MK zA0 4 eB (fun _ => True) := RY (by kernel_rfl) (fun _ => rfl)
theorem Tr : MK zA0 125 (Li eB) (KY (fun _ => True)) := GW (el := 4) (by kernel_rfl) T5 (fun _ => rfl)
theorem Qw : MK zA0 110 (Li (Li eB)) (KY (KY (fun _ => True))) := GW (el := 125) (by kernel_rfl) Tr (fun _ => rfl)
theorem UZ : E3 zA0 112 = some [3, 3, 3, 4, 110, 110] := by kernel_rfl
theorem SZ : MK zA0 112 BF KJ := by
 intro d ts h
 obtain ⟨d, h⟩ := Hh UZ h
 obtain ⟨a0, _, rfl, h0, a1, _, rfl, h1, a2, _, rfl, h2, a3, _, rfl, h3, a4, _, rfl, h4, a5, _, rfl, h5, rfl⟩ := h
 obtain ⟨x0, rfl, w0⟩ := GM d _ h0
 obtain ⟨x1, rfl, w1⟩ := GM d _ h1
 obtain ⟨x2, rfl, w2⟩ := GM d _ h2
 obtain ⟨x3, rfl, w3⟩ := T5 d _ h3
 obtain ⟨x4, rfl, w4⟩ := Qw d _ h4
 obtain ⟨x5, rfl, w5⟩ := Qw d _ h5
 exact ⟨⟨x0, x1, x2, x3, x4, x5⟩, rfl, w0, w1, w2, w3, w4, w5, trivial⟩
theorem UO : MK zA0 23 (Li BF) (KY KJ) := GW (el := 112) (by kernel_rfl) SZ (fun _ => rfl)
theorem Wp : E3 zA0 25 = some [22, 22, 22, 23] := by kernel_rfl
theorem U3 : MK zA0 25 OF KR := by
 intro d ts h
 obtain ⟨d, h⟩ := Hh Wp h
 obtain ⟨a0, _, rfl, h0, a1, _, rfl, h1, a2, _, rfl, h2, a3, _, rfl, h3, rfl⟩ := h
 obtain ⟨x0, rfl, w0⟩ := N4 d _ h0
 obtain ⟨x1, rfl, w1⟩ := N4 d _ h1
 obtain ⟨x2, rfl, w2⟩ := N4 d _ h2
 obtain ⟨x3, rfl, w3⟩ := UO d _ h3
 exact ⟨⟨x0, x1, x2, x3⟩, rfl, w0, w1, w2, w3, trivial⟩
theorem WB : E3 zA0 67 = some [3, 3, 3] := by kernel_rfl
theorem Vc : MK zA0 67 AM LN := by
 intro d ts h
 obtain ⟨d, h⟩ := Hh WB h
 obtain ⟨a0, _, rfl, h0, a1, _, rfl, h1, a2, _, rfl, h2, rfl⟩ := h
 obtain ⟨x0, rfl, w0⟩ := GM d _ h0
 obtain ⟨x1, rfl, w1⟩ := GM d _ h1
 obtain ⟨x2, rfl, w2⟩ := GM d _ h2
 exact ⟨⟨x0, x1, x2⟩, rfl, w0, w1, w2, trivial⟩
theorem UT : MK zA0 26 (Li AM) (KY LN) := GW (el := 67) (by kernel_rfl) Vc (fun _ => rfl)
theorem Ue : MK zA0 2 Au Gw := NV (k := .i64) (by kernel_rfl) (fun _ => rfl)
theorem V5 : E3 zA0 37 = some [2, 3, 3, 3, 3, 3, 2, 3, 3, 3, 3] := by kernel_rfl
theorem UG : MK zA0 37 AE IV := by
 intro d ts h
 obtain ⟨d, h⟩ := Hh V5 h
 obtain ⟨a0, _, rfl, h0, a1, _, rfl, h1, a2, _, rfl, h2, a3, _, rfl, h3, a4, _, rfl, h4, a5, _, rfl, h5, a6, _, rfl, h6, a7, _, rfl, h7, a8, _, rfl, h8, a9, _, rfl, h9, a10, _, rfl, h10, rfl⟩ := h
 obtain ⟨x0, rfl, w0⟩ := Ue d _ h0
 obtain ⟨x1, rfl, w1⟩ := GM d _ h1
 obtain ⟨x2, rfl, w2⟩ := GM d _ h2
 obtain ⟨x3, rfl, w3⟩ := GM d _ h3
 obtain ⟨x4, rfl, w4⟩ := GM d _ h4
 obtain ⟨x5, rfl, w5⟩ := GM d _ h5
 obtain ⟨x6, rfl, w6⟩ := Ue d _ h6
 obtain ⟨x7, rfl, w7⟩ := GM d _ h7
 obtain ⟨x8, rfl, w8⟩ := GM d _ h8
 obtain ⟨x9, rfl, w9⟩ := GM d _ h9
 obtain ⟨x10, rfl, w10⟩ := GM d _ h10
 exact ⟨⟨x0, x1, x2, x3, x4, x5, x6, x7, x8, x9, x10⟩, rfl, w0, w1, w2, w3, w4, w5, w6, w7, w8, w9, w10, trivial⟩
theorem U4 : MK zA0 27 (Li AE) (KY IV) := GW (el := 37) (by kernel_rfl) UG (fun _ => rfl)
theorem Uk : E3 zA0 29 = some [25, 22, 26, 27] := by kernel_rfl
theorem US : MK zA0 29 K6 Fx := by
 intro d ts h
 obtain ⟨d, h⟩ := Hh Uk h
 obtain ⟨a0, _, rfl, h0, a1, _, rfl, h1, a2, _, rfl, h2, a3, _, rfl, h3, rfl⟩ := h
 obtain ⟨x0, rfl, w0⟩ := U3 d _ h0
 obtain ⟨x1, rfl, w1⟩ := N4 d _ h1
 obtain ⟨x2, rfl, w2⟩ := UT d _ h2
 obtain ⟨x3, rfl, w3⟩ := U4 d _ h3
 exact ⟨⟨x0, x1, x2, x3⟩, rfl, w0, w1, w2, w3, trivial⟩
theorem Vu : MK zA0 5 DL Pn := NV (k := .u8) (by kernel_rfl) (fun _ => rfl)
theorem Se (N d : Nat) (plain : ∀ (x0 : BB) (x1 : Int), Fx x0 → Pn x1 → Cc N x0 x1 = some true) : ∀ Ds, Ic zA0 d [29, 5] Ds → Ar zA0 10 Ds [] (.e (.one (.pure (.val (.bool true))))) := by
 intro Ds h
 obtain ⟨u0, Ds0, rfl, f0, g0⟩ := Kh h
 obtain ⟨x0, rfl, w0⟩ := US _ _ f0
 rw [P6 Uk]
 obtain ⟨u1, Ds1, rfl, f1, g1⟩ := Kh g0
 obtain ⟨x1, rfl, w1⟩ := Vu _ _ f1
 rw [Ts (by kernel_rfl)]
 obtain rfl := OT g1
 exact G7 N x0 x1 true (plain x0 x1 w0 w1)
end Go.Lift
