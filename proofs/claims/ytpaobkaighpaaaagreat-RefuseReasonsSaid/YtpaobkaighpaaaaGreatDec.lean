/- Lemmas for RefuseReasonsSaid, which YtpaobkaighpaaaaGreatFinR7 proves. -/
import Derived.Test.YtpaobkaighpaaaaGreatCode5
open Go.Proofs.Tryz renaming prog → zA0
namespace Go.Lift
open Go.RowKit
open Go.Proofs
theorem UH : Vl zA0 5 C8 JT := UD (k := .u8) (by kernel_rfl) (fun _ => rfl)
theorem TE : Vl zA0 22 (HB C8) (LL JT) := Qk (el := 5) (by kernel_rfl) UH (fun _ => rfl)
theorem Z8 : Vl zA0 4 eB (fun _ => True) := WC (by kernel_rfl) (fun _ => rfl)
theorem Vu : Vl zA0 99 cx ZJ := UD (k := .u16) (by kernel_rfl) (fun _ => rfl)
theorem Zj : JP zA0 101 = some [5, 5, 5, 4, 99, 99] := by kernel_rfl
theorem Yd : Vl zA0 101 GM H1 := by
 intro d ts h
 obtain ⟨d, h⟩ := Oq Zj h
 obtain ⟨a0, _, rfl, h0, a1, _, rfl, h1, a2, _, rfl, h2, a3, _, rfl, h3, a4, _, rfl, h4, a5, _, rfl, h5, rfl⟩ := h
 obtain ⟨x0, rfl, w0⟩ := UH d _ h0
 obtain ⟨x1, rfl, w1⟩ := UH d _ h1
 obtain ⟨x2, rfl, w2⟩ := UH d _ h2
 obtain ⟨x3, rfl, w3⟩ := Z8 d _ h3
 obtain ⟨x4, rfl, w4⟩ := Vu d _ h4
 obtain ⟨x5, rfl, w5⟩ := Vu d _ h5
 exact ⟨⟨x0, x1, x2, x3, x4, x5⟩, rfl, w0, w1, w2, w3, w4, w5, trivial⟩
theorem Zv : Vl zA0 23 (HB GM) (LL H1) := Qk (el := 101) (by kernel_rfl) Yd (fun _ => rfl)
theorem YG : JP zA0 25 = some [22, 22, 22, 23] := by kernel_rfl
theorem Y1 : Vl zA0 25 Mz FD := by
 intro d ts h
 obtain ⟨d, h⟩ := Oq YG h
 obtain ⟨a0, _, rfl, h0, a1, _, rfl, h1, a2, _, rfl, h2, a3, _, rfl, h3, rfl⟩ := h
 obtain ⟨x0, rfl, w0⟩ := TE d _ h0
 obtain ⟨x1, rfl, w1⟩ := TE d _ h1
 obtain ⟨x2, rfl, w2⟩ := TE d _ h2
 obtain ⟨x3, rfl, w3⟩ := Zv d _ h3
 exact ⟨⟨x0, x1, x2, x3⟩, rfl, w0, w1, w2, w3, trivial⟩
theorem Ym (N d : Nat) (plain : ∀ (x0 : BJ), FD x0 → Cr N x0 = some true) : ∀ Ds, Kn zA0 d [25] Ds → Av zA0 7 Ds [] (.e (.one (.pure (.val (.bool true))))) := by
 intro Ds h
 obtain ⟨u0, Ds0, rfl, f0, g0⟩ := QI h
 obtain ⟨x0, rfl, w0⟩ := Y1 _ _ f0
 rw [TS YG]
 obtain rfl := Sq g0
 exact IN N x0 true (plain x0 w0)
end Go.Lift
