/- Lemmas for AuditFirstCardSaid, which YtfgobbnahihlfaaGreatDoorFinA3 proves. -/
import Derived.Test.YtfgobbnahihlfaaGreatDoorCode4
open Go.Proofs.Tryz renaming prog → zA
namespace Go.Lift
open Go.RowKit
open Go.Proofs
theorem GP : Ny zA 3 As GD := QH (k := .i64) (by kernel_rfl) (fun _ => rfl)
theorem NS : Ny zA 22 (Lq As) (KW GD) := G5 (el := 3) (by kernel_rfl) GP (fun _ => rfl)
theorem TW : Ny zA 4 eB (fun _ => True) := RF (by kernel_rfl) (fun _ => rfl)
theorem TM : Ny zA 125 (Lq eB) (KW (fun _ => True)) := G5 (el := 4) (by kernel_rfl) TW (fun _ => rfl)
theorem Qn : Ny zA 110 (Lq (Lq eB)) (KW (KW (fun _ => True))) := G5 (el := 125) (by kernel_rfl) TM (fun _ => rfl)
theorem Vc : F6 zA 112 = some [3, 3, 3, 4, 110, 110] := by kernel_rfl
theorem S1 : Ny zA 112 BD Kz := by
 intro d ts h
 obtain ⟨d, h⟩ := Hb Vc h
 obtain ⟨a0, _, rfl, h0, a1, _, rfl, h1, a2, _, rfl, h2, a3, _, rfl, h3, a4, _, rfl, h4, a5, _, rfl, h5, rfl⟩ := h
 obtain ⟨x0, rfl, w0⟩ := GP d _ h0
 obtain ⟨x1, rfl, w1⟩ := GP d _ h1
 obtain ⟨x2, rfl, w2⟩ := GP d _ h2
 obtain ⟨x3, rfl, w3⟩ := TW d _ h3
 obtain ⟨x4, rfl, w4⟩ := Qn d _ h4
 obtain ⟨x5, rfl, w5⟩ := Qn d _ h5
 exact ⟨⟨x0, x1, x2, x3, x4, x5⟩, rfl, w0, w1, w2, w3, w4, w5, trivial⟩
theorem UJ : Ny zA 23 (Lq BD) (KW Kz) := G5 (el := 112) (by kernel_rfl) S1 (fun _ => rfl)
theorem We : F6 zA 25 = some [22, 22, 22, 23] := by kernel_rfl
theorem Uv : Ny zA 25 OD KR := by
 intro d ts h
 obtain ⟨d, h⟩ := Hb We h
 obtain ⟨a0, _, rfl, h0, a1, _, rfl, h1, a2, _, rfl, h2, a3, _, rfl, h3, rfl⟩ := h
 obtain ⟨x0, rfl, w0⟩ := NS d _ h0
 obtain ⟨x1, rfl, w1⟩ := NS d _ h1
 obtain ⟨x2, rfl, w2⟩ := NS d _ h2
 obtain ⟨x3, rfl, w3⟩ := UJ d _ h3
 exact ⟨⟨x0, x1, x2, x3⟩, rfl, w0, w1, w2, w3, trivial⟩
theorem V8 : F6 zA 67 = some [3, 3, 3] := by kernel_rfl
theorem UW : Ny zA 67 AP LV := by
 intro d ts h
 obtain ⟨d, h⟩ := Hb V8 h
 obtain ⟨a0, _, rfl, h0, a1, _, rfl, h1, a2, _, rfl, h2, rfl⟩ := h
 obtain ⟨x0, rfl, w0⟩ := GP d _ h0
 obtain ⟨x1, rfl, w1⟩ := GP d _ h1
 obtain ⟨x2, rfl, w2⟩ := GP d _ h2
 exact ⟨⟨x0, x1, x2⟩, rfl, w0, w1, w2, trivial⟩
theorem UF : Ny zA 26 (Lq AP) (KW LV) := G5 (el := 67) (by kernel_rfl) UW (fun _ => rfl)
theorem TV : Ny zA 2 As GD := QH (k := .i64) (by kernel_rfl) (fun _ => rfl)
theorem WF : F6 zA 37 = some [2, 3, 3, 3, 3, 3, 2, 3, 3, 3, 3] := by kernel_rfl
theorem Uz : Ny zA 37 AG I2 := by
 intro d ts h
 obtain ⟨d, h⟩ := Hb WF h
 obtain ⟨a0, _, rfl, h0, a1, _, rfl, h1, a2, _, rfl, h2, a3, _, rfl, h3, a4, _, rfl, h4, a5, _, rfl, h5, a6, _, rfl, h6, a7, _, rfl, h7, a8, _, rfl, h8, a9, _, rfl, h9, a10, _, rfl, h10, rfl⟩ := h
 obtain ⟨x0, rfl, w0⟩ := TV d _ h0
 obtain ⟨x1, rfl, w1⟩ := GP d _ h1
 obtain ⟨x2, rfl, w2⟩ := GP d _ h2
 obtain ⟨x3, rfl, w3⟩ := GP d _ h3
 obtain ⟨x4, rfl, w4⟩ := GP d _ h4
 obtain ⟨x5, rfl, w5⟩ := GP d _ h5
 obtain ⟨x6, rfl, w6⟩ := TV d _ h6
 obtain ⟨x7, rfl, w7⟩ := GP d _ h7
 obtain ⟨x8, rfl, w8⟩ := GP d _ h8
 obtain ⟨x9, rfl, w9⟩ := GP d _ h9
 obtain ⟨x10, rfl, w10⟩ := GP d _ h10
 exact ⟨⟨x0, x1, x2, x3, x4, x5, x6, x7, x8, x9, x10⟩, rfl, w0, w1, w2, w3, w4, w5, w6, w7, w8, w9, w10, trivial⟩
theorem UE : Ny zA 27 (Lq AG) (KW I2) := G5 (el := 37) (by kernel_rfl) Uz (fun _ => rfl)
theorem T4 : F6 zA 29 = some [25, 22, 26, 27] := by kernel_rfl
theorem Va : Ny zA 29 Lc Fr := by
 intro d ts h
 obtain ⟨d, h⟩ := Hb T4 h
 obtain ⟨a0, _, rfl, h0, a1, _, rfl, h1, a2, _, rfl, h2, a3, _, rfl, h3, rfl⟩ := h
 obtain ⟨x0, rfl, w0⟩ := Uv d _ h0
 obtain ⟨x1, rfl, w1⟩ := NS d _ h1
 obtain ⟨x2, rfl, w2⟩ := UF d _ h2
 obtain ⟨x3, rfl, w3⟩ := UE d _ h3
 exact ⟨⟨x0, x1, x2, x3⟩, rfl, w0, w1, w2, w3, trivial⟩
theorem Tt (N d : Nat) (plain : ∀ (x0 : BU), Fr x0 → Cs N x0 = some true) : ∀ Ds, H4 zA d [29] Ds → Ar zA 3 Ds [] (.e (.one (.pure (.val (.bool true))))) := by
 intro Ds h
 obtain ⟨u0, Ds0, rfl, f0, g0⟩ := NX h
 obtain ⟨x0, rfl, w0⟩ := Va _ _ f0
 rw [Po T4]
 obtain rfl := O0 g0
 exact HB N x0 true (plain x0 w0)
end Go.Lift
