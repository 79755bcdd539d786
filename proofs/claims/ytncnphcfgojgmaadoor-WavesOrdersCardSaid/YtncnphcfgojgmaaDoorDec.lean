/- Lemmas for WavesOrdersCardSaid, which YtncnphcfgojgmaaDoorFinV7 proves. -/
import Derived.Test.YtncnphcfgojgmaaDoorCode3
namespace Go.Lift
open Go.RowKit
open Go.Proofs
theorem OE : Or Tryd.prog 5 BW O6 := MW (k := .u8) (by kernel_rfl) (fun _ => rfl)
theorem N5 : Or Tryd.prog 22 (Fl BW) (Pm O6) := Lc (el := 5) (by kernel_rfl) OE (fun _ => rfl)
theorem M6 (N d : Nat) (plain : ∀ (x0 : List Int), (Pm O6) x0 → Bd N x0 = some true) : ∀ Ds, F6 Tryd.prog d [22] Ds → Ap Tryd.prog 5 Ds [] (.e (.one (.pure (.val (.bool true))))) := by
 intro Ds h
 obtain ⟨u0, Ds0, rfl, f0, g0⟩ := JD h
 obtain ⟨x0, rfl, w0⟩ := N5 _ _ f0
 rw [MI (by kernel_rfl)]
 obtain rfl := J1 g0
 exact Fm N x0 true (plain x0 w0)
end Go.Lift
