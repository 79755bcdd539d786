/- Lemmas for UnblockPlansSaid, which YtjpgllmfenogoaaGreatFinU7 proves. -/
import Derived.Test.YtjpgllmfenogoaaGreatCode5
namespace Go.Lift
open Go.RowKit
open Go.Proofs
theorem Wv : Xu Tryz.prog 5 Ex MW := V7 (k := .u8) (by kernel_rfl) (fun _ => rfl)
theorem VL : Xu Tryz.prog 22 (FN Ex) (PN MW) := R9 (el := 5) (by kernel_rfl) Wv (fun _ => rfl)
theorem cI : Xu Tryz.prog 4 eB (fun _ => True) := Y0 (by kernel_rfl) (fun _ => rfl)
theorem Yn : Xu Tryz.prog 86 eO bq := V7 (k := .u16) (by kernel_rfl) (fun _ => rfl)
theorem dm : Lt Tryz.prog 88 = some [5, 5, 5, 4, 86, 86] := by kernel_rfl
theorem bX : Xu Tryz.prog 88 Ih Jv := by
 intro d ts h
 obtain ⟨d, h⟩ := QL dm h
 obtain ⟨a0, _, rfl, h0, a1, _, rfl, h1, a2, _, rfl, h2, a3, _, rfl, h3, a4, _, rfl, h4, a5, _, rfl, h5, rfl⟩ := h
 obtain ⟨x0, rfl, w0⟩ := Wv d _ h0
 obtain ⟨x1, rfl, w1⟩ := Wv d _ h1
 obtain ⟨x2, rfl, w2⟩ := Wv d _ h2
 obtain ⟨x3, rfl, w3⟩ := cI d _ h3
 obtain ⟨x4, rfl, w4⟩ := Yn d _ h4
 obtain ⟨x5, rfl, w5⟩ := Yn d _ h5
 exact ⟨⟨x0, x1, x2, x3, x4, x5⟩, rfl, w0, w1, w2, w3, w4, w5, trivial⟩
theorem cj : Xu Tryz.prog 23 (FN Ih) (PN Jv) := R9 (el := 88) (by kernel_rfl) bX (fun _ => rfl)
theorem aq : Lt Tryz.prog 25 = some [22, 22, 22, 23] := by kernel_rfl
theorem bG : Xu Tryz.prog 25 OR GS := by
 intro d ts h
 obtain ⟨d, h⟩ := QL aq h
 obtain ⟨a0, _, rfl, h0, a1, _, rfl, h1, a2, _, rfl, h2, a3, _, rfl, h3, rfl⟩ := h
 obtain ⟨x0, rfl, w0⟩ := VL d _ h0
 obtain ⟨x1, rfl, w1⟩ := VL d _ h1
 obtain ⟨x2, rfl, w2⟩ := VL d _ h2
 obtain ⟨x3, rfl, w3⟩ := cj d _ h3
 exact ⟨⟨x0, x1, x2, x3⟩, rfl, w0, w1, w2, w3, trivial⟩
theorem ZB (N d : Nat) (plain : ∀ (x0 : B1), GS x0 → D5 N x0 = some true) : ∀ Ds, L1 Tryz.prog d [25] Ds → Au Tryz.prog 7 Ds [] (.e (.one (.pure (.val (.bool true))))) := by
 intro Ds h
 obtain ⟨u0, Ds0, rfl, f0, g0⟩ := Th h
 obtain ⟨x0, rfl, w0⟩ := bG _ _ f0
 rw [Vv aq]
 obtain rfl := T6 g0
 exact Kn N x0 true (plain x0 w0)
end Go.Lift
