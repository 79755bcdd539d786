/- Lemmas for WavesErrorsCardSaid, which YtncnphcfgojgmaaDoorFinV6 proves. -/
import Derived.Test.YtncnphcfgojgmaaDoorCode3
namespace Go.Lift
open Go.RowKit
open Go.Proofs
theorem Jg : Lr Tryd.prog 3 An Jb := N3 (k := .i64) (by kernel_rfl) (fun _ => rfl)
theorem Ll : Lr Tryd.prog 29 (FP An) (Jv Jb) := Gd (el := 3) (by kernel_rfl) Jg (fun _ => rfl)
theorem OI : Lr Tryd.prog 4 eB (fun _ => True) := MS (by kernel_rfl) (fun _ => rfl)
theorem PA : Lr Tryd.prog 79 (FP eB) (Jv (fun _ => True)) := Gd (el := 4) (by kernel_rfl) OI (fun _ => rfl)
theorem Nv : Lr Tryd.prog 64 (FP (FP eB)) (Jv (Jv (fun _ => True))) := Gd (el := 79) (by kernel_rfl) PA (fun _ => rfl)
theorem P8 : Ek Tryd.prog 66 = some [3, 3, 3, 4, 64, 64] := by kernel_rfl
theorem PB : Lr Tryd.prog 66 AI Id := by
 intro d ts h
 obtain ⟨d, h⟩ := Hq P8 h
 obtain ⟨a0, _, rfl, h0, a1, _, rfl, h1, a2, _, rfl, h2, a3, _, rfl, h3, a4, _, rfl, h4, a5, _, rfl, h5, rfl⟩ := h
 obtain ⟨x0, rfl, w0⟩ := Jg d _ h0
 obtain ⟨x1, rfl, w1⟩ := Jg d _ h1
 obtain ⟨x2, rfl, w2⟩ := Jg d _ h2
 obtain ⟨x3, rfl, w3⟩ := OI d _ h3
 obtain ⟨x4, rfl, w4⟩ := Nv d _ h4
 obtain ⟨x5, rfl, w5⟩ := Nv d _ h5
 exact ⟨⟨x0, x1, x2, x3, x4, x5⟩, rfl, w0, w1, w2, w3, w4, w5, trivial⟩
theorem O7 : Lr Tryd.prog 30 (FP AI) (Jv Id) := Gd (el := 66) (by kernel_rfl) PB (fun _ => rfl)
theorem OQ : Ek Tryd.prog 32 = some [29, 29, 29, 30] := by kernel_rfl
theorem Px : Lr Tryd.prog 32 KI G4 := by
 intro d ts h
 obtain ⟨d, h⟩ := Hq OQ h
 obtain ⟨a0, _, rfl, h0, a1, _, rfl, h1, a2, _, rfl, h2, a3, _, rfl, h3, rfl⟩ := h
 obtain ⟨x0, rfl, w0⟩ := Ll d _ h0
 obtain ⟨x1, rfl, w1⟩ := Ll d _ h1
 obtain ⟨x2, rfl, w2⟩ := Ll d _ h2
 obtain ⟨x3, rfl, w3⟩ := O7 d _ h3
 exact ⟨⟨x0, x1, x2, x3⟩, rfl, w0, w1, w2, w3, trivial⟩
theorem PT : Ek Tryd.prog 44 = some [3, 3, 3] := by kernel_rfl
theorem Pm : Lr Tryd.prog 44 Ag HO := by
 intro d ts h
 obtain ⟨d, h⟩ := Hq PT h
 obtain ⟨a0, _, rfl, h0, a1, _, rfl, h1, a2, _, rfl, h2, rfl⟩ := h
 obtain ⟨x0, rfl, w0⟩ := Jg d _ h0
 obtain ⟨x1, rfl, w1⟩ := Jg d _ h1
 obtain ⟨x2, rfl, w2⟩ := Jg d _ h2
 exact ⟨⟨x0, x1, x2⟩, rfl, w0, w1, w2, trivial⟩
theorem Pa : Lr Tryd.prog 28 (FP Ag) (Jv HO) := Gd (el := 44) (by kernel_rfl) Pm (fun _ => rfl)
theorem Ox (N d : Nat) (plain : ∀ (x0 : Ab) (x1 : List Ac), G4 x0 → (Jv HO) x1 → Bq N x0 x1 = some true) : ∀ Ds, Gx Tryd.prog d [32, 28] Ds → Ap Tryd.prog 4 Ds [] (.e (.one (.pure (.val (.bool true))))) := by
 intro Ds h
 obtain ⟨u0, Ds0, rfl, f0, g0⟩ := HN h
 obtain ⟨x0, rfl, w0⟩ := Px _ _ f0
 rw [LF OQ]
 obtain ⟨u1, Ds1, rfl, f1, g1⟩ := HN g0
 obtain ⟨x1, rfl, w1⟩ := Pa _ _ f1
 rw [NJ (by kernel_rfl)]
 obtain rfl := KR g1
 exact FG N x0 x1 true (plain x0 x1 w0 w1)
end Go.Lift
