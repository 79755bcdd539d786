/- Lemmas for AuditCompleteCardSaid, which YtfgobbnahihlfaaGreatDoorFinA8 proves. -/
import Derived.Test.YtfgobbnahihlfaaGreatDoorCode4
open Go.Proofs.Tryz renaming prog → zA
namespace Go.Lift
open Go.RowKit
open Go.Proofs
theorem GZ : N3 zA 3 As GC := QS (k := .i64) (by kernel_rfl) (fun _ => rfl)
theorem NL : N3 zA 22 (Lu As) (K7 GC) := Hb (el := 3) (by kernel_rfl) GZ (fun _ => rfl)
theorem Uu : N3 zA 4 eB (fun _ => True) := RT (by kernel_rfl) (fun _ => rfl)
theorem TY : N3 zA 125 (Lu eB) (K7 (fun _ => True)) := Hb (el := 4) (by kernel_rfl) Uu (fun _ => rfl)
theorem Qu : N3 zA 110 (Lu (Lu eB)) (K7 (K7 (fun _ => True))) := Hb (el := 125) (by kernel_rfl) TY (fun _ => rfl)
theorem Vh : FU zA 112 = some [3, 3, 3, 4, 110, 110] := by kernel_rfl
theorem T8 : N3 zA 112 BG KH := by
 intro d ts h
 obtain ⟨d, h⟩ := Hw Vh h
 obtain ⟨a0, _, rfl, h0, a1, _, rfl, h1, a2, _, rfl, h2, a3, _, rfl, h3, a4, _, rfl, h4, a5, _, rfl, h5, rfl⟩ := h
 obtain ⟨x0, rfl, w0⟩ := GZ d _ h0
 obtain ⟨x1, rfl, w1⟩ := GZ d _ h1
 obtain ⟨x2, rfl, w2⟩ := GZ d _ h2
 obtain ⟨x3, rfl, w3⟩ := Uu d _ h3
 obtain ⟨x4, rfl, w4⟩ := Qu d _ h4
 obtain ⟨x5, rfl, w5⟩ := Qu d _ h5
 exact ⟨⟨x0, x1, x2, x3, x4, x5⟩, rfl, w0, w1, w2, w3, w4, w5, trivial⟩
theorem Vd : N3 zA 23 (Lu BG) (K7 KH) := Hb (el := 112) (by kernel_rfl) T8 (fun _ => rfl)
theorem WX : FU zA 25 = some [22, 22, 22, 23] := by kernel_rfl
theorem Ve : N3 zA 25 PB K2 := by
 intro d ts h
 obtain ⟨d, h⟩ := Hw WX h
 obtain ⟨a0, _, rfl, h0, a1, _, rfl, h1, a2, _, rfl, h2, a3, _, rfl, h3, rfl⟩ := h
 obtain ⟨x0, rfl, w0⟩ := NL d _ h0
 obtain ⟨x1, rfl, w1⟩ := NL d _ h1
 obtain ⟨x2, rfl, w2⟩ := NL d _ h2
 obtain ⟨x3, rfl, w3⟩ := Vd d _ h3
 exact ⟨⟨x0, x1, x2, x3⟩, rfl, w0, w1, w2, w3, trivial⟩
theorem VT : FU zA 67 = some [3, 3, 3] := by kernel_rfl
theorem Vg : N3 zA 67 AN L8 := by
 intro d ts h
 obtain ⟨d, h⟩ := Hw VT h
 obtain ⟨a0, _, rfl, h0, a1, _, rfl, h1, a2, _, rfl, h2, rfl⟩ := h
 obtain ⟨x0, rfl, w0⟩ := GZ d _ h0
 obtain ⟨x1, rfl, w1⟩ := GZ d _ h1
 obtain ⟨x2, rfl, w2⟩ := GZ d _ h2
 exact ⟨⟨x0, x1, x2⟩, rfl, w0, w1, w2, trivial⟩
theorem UZ : N3 zA 26 (Lu AN) (K7 L8) := Hb (el := 67) (by kernel_rfl) Vg (fun _ => rfl)
theorem Uh : N3 zA 2 As GC := QS (k := .i64) (by kernel_rfl) (fun _ => rfl)
theorem V2 : FU zA 37 = some [2, 3, 3, 3, 3, 3, 2, 3, 3, 3, 3] := by kernel_rfl
theorem UY : N3 zA 37 AD Jj := by
 intro d ts h
 obtain ⟨d, h⟩ := Hw V2 h
 obtain ⟨a0, _, rfl, h0, a1, _, rfl, h1, a2, _, rfl, h2, a3, _, rfl, h3, a4, _, rfl, h4, a5, _, rfl, h5, a6, _, rfl, h6, a7, _, rfl, h7, a8, _, rfl, h8, a9, _, rfl, h9, a10, _, rfl, h10, rfl⟩ := h
 obtain ⟨x0, rfl, w0⟩ := Uh d _ h0
 obtain ⟨x1, rfl, w1⟩ := GZ d _ h1
 obtain ⟨x2, rfl, w2⟩ := GZ d _ h2
 obtain ⟨x3, rfl, w3⟩ := GZ d _ h3
 obtain ⟨x4, rfl, w4⟩ := GZ d _ h4
 obtain ⟨x5, rfl, w5⟩ := GZ d _ h5
 obtain ⟨x6, rfl, w6⟩ := Uh d _ h6
 obtain ⟨x7, rfl, w7⟩ := GZ d _ h7
 obtain ⟨x8, rfl, w8⟩ := GZ d _ h8
 obtain ⟨x9, rfl, w9⟩ := GZ d _ h9
 obtain ⟨x10, rfl, w10⟩ := GZ d _ h10
 exact ⟨⟨x0, x1, x2, x3, x4, x5, x6, x7, x8, x9, x10⟩, rfl, w0, w1, w2, w3, w4, w5, w6, w7, w8, w9, w10, trivial⟩
theorem UX : N3 zA 27 (Lu AD) (K7 Jj) := Hb (el := 37) (by kernel_rfl) UY (fun _ => rfl)
theorem Ug : FU zA 29 = some [25, 22, 26, 27] := by kernel_rfl
theorem U8 : N3 zA 29 Lj Fs := by
 intro d ts h
 obtain ⟨d, h⟩ := Hw Ug h
 obtain ⟨a0, _, rfl, h0, a1, _, rfl, h1, a2, _, rfl, h2, a3, _, rfl, h3, rfl⟩ := h
 obtain ⟨x0, rfl, w0⟩ := Ve d _ h0
 obtain ⟨x1, rfl, w1⟩ := NL d _ h1
 obtain ⟨x2, rfl, w2⟩ := UZ d _ h2
 obtain ⟨x3, rfl, w3⟩ := UX d _ h3
 exact ⟨⟨x0, x1, x2, x3⟩, rfl, w0, w1, w2, w3, trivial⟩
theorem Ti (N d : Nat) (plain : ∀ (x0 : BZ), Fs x0 → B9 N x0 = some true) : ∀ Ds, Ie zA d [29] Ds → Ar zA 8 Ds [] (.e (.one (.pure (.val (.bool true))))) := by
 intro Ds h
 obtain ⟨u0, Ds0, rfl, f0, g0⟩ := NP h
 obtain ⟨x0, rfl, w0⟩ := U8 _ _ f0
 rw [PP Ug]
 obtain rfl := Pv g0
 exact G9 N x0 true (plain x0 w0)
end Go.Lift
