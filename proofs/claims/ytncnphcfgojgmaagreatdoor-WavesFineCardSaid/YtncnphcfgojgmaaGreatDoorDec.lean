/- Lemmas for WavesFineCardSaid, which YtncnphcfgojgmaaGreatDoorFinV3 proves. -/
import Derived.Test.YtncnphcfgojgmaaGreatDoorCode4
namespace Go.Lift
open Go.RowKit
open Go.Proofs
theorem Qx : PP Tryz.prog 5 B3 IE := OH (k := .u8) (by kernel_rfl) (fun _ => rfl)
theorem Lj : PP Tryz.prog 22 (Fj B3) (JA IE) := K0 (el := 5) (by kernel_rfl) Qx (fun _ => rfl)
theorem VJ : PP Tryz.prog 4 eB (fun _ => True) := Sk (by kernel_rfl) (fun _ => rfl)
theorem R5 : PP Tryz.prog 58 XL UQ := OH (k := .u16) (by kernel_rfl) (fun _ => rfl)
theorem VN : FJ Tryz.prog 60 = some [5, 5, 5, 4, 58, 58] := by kernel_rfl
theorem Va : PP Tryz.prog 60 FA GX := by
 intro d ts h
 obtain ⟨d, h⟩ := IX VN h
 obtain ⟨a0, _, rfl, h0, a1, _, rfl, h1, a2, _, rfl, h2, a3, _, rfl, h3, a4, _, rfl, h4, a5, _, rfl, h5, rfl⟩ := h
 obtain ⟨x0, rfl, w0⟩ := Qx d _ h0
 obtain ⟨x1, rfl, w1⟩ := Qx d _ h1
 obtain ⟨x2, rfl, w2⟩ := Qx d _ h2
 obtain ⟨x3, rfl, w3⟩ := VJ d _ h3
 obtain ⟨x4, rfl, w4⟩ := R5 d _ h4
 obtain ⟨x5, rfl, w5⟩ := R5 d _ h5
 exact ⟨⟨x0, x1, x2, x3, x4, x5⟩, rfl, w0, w1, w2, w3, w4, w5, trivial⟩
theorem Vg : PP Tryz.prog 23 (Fj FA) (JA GX) := K0 (el := 60) (by kernel_rfl) Va (fun _ => rfl)
theorem Uj : FJ Tryz.prog 25 = some [22, 22, 22, 23] := by kernel_rfl
theorem Vo : PP Tryz.prog 25 KJ Ek := by
 intro d ts h
 obtain ⟨d, h⟩ := IX Uj h
 obtain ⟨a0, _, rfl, h0, a1, _, rfl, h1, a2, _, rfl, h2, a3, _, rfl, h3, rfl⟩ := h
 obtain ⟨x0, rfl, w0⟩ := Lj d _ h0
 obtain ⟨x1, rfl, w1⟩ := Lj d _ h1
 obtain ⟨x2, rfl, w2⟩ := Lj d _ h2
 obtain ⟨x3, rfl, w3⟩ := Vg d _ h3
 exact ⟨⟨x0, x1, x2, x3⟩, rfl, w0, w1, w2, w3, trivial⟩
theorem Ur : FJ Tryz.prog 27 = some [22, 22, 22] := by kernel_rfl
theorem UW : PP Tryz.prog 27 KB En := by
 intro d ts h
 obtain ⟨d, h⟩ := IX Ur h
 obtain ⟨a0, _, rfl, h0, a1, _, rfl, h1, a2, _, rfl, h2, rfl⟩ := h
 obtain ⟨x0, rfl, w0⟩ := Lj d _ h0
 obtain ⟨x1, rfl, w1⟩ := Lj d _ h1
 obtain ⟨x2, rfl, w2⟩ := Lj d _ h2
 exact ⟨⟨x0, x1, x2⟩, rfl, w0, w1, w2, trivial⟩
theorem SH : PP Tryz.prog 3 An Ty := OH (k := .i64) (by kernel_rfl) (fun _ => rfl)
theorem V4 : FJ Tryz.prog 54 = some [3, 3, 3] := by kernel_rfl
theorem UU : PP Tryz.prog 54 Ai Jf := by
 intro d ts h
 obtain ⟨d, h⟩ := IX V4 h
 obtain ⟨a0, _, rfl, h0, a1, _, rfl, h1, a2, _, rfl, h2, rfl⟩ := h
 obtain ⟨x0, rfl, w0⟩ := SH d _ h0
 obtain ⟨x1, rfl, w1⟩ := SH d _ h1
 obtain ⟨x2, rfl, w2⟩ := SH d _ h2
 exact ⟨⟨x0, x1, x2⟩, rfl, w0, w1, w2, trivial⟩
theorem UJ : PP Tryz.prog 28 (Fj Ai) (JA Jf) := K0 (el := 54) (by kernel_rfl) UU (fun _ => rfl)
theorem Tp (N d : Nat) (plain : ∀ (x0 : BF) (x1 : Bk) (x2 : List Ad), Ek x0 → En x1 → (JA Jf) x2 → CU N x0 x1 x2 = some true) : ∀ Ds, IR Tryz.prog d [25, 27, 28] Ds → Aq Tryz.prog 3 Ds [] (.e (.one (.pure (.val (.bool true))))) := by
 intro Ds h
 obtain ⟨u0, Ds0, rfl, f0, g0⟩ := IG h
 obtain ⟨x0, rfl, w0⟩ := Vo _ _ f0
 rw [Ma Uj]
 obtain ⟨u1, Ds1, rfl, f1, g1⟩ := IG g0
 obtain ⟨x1, rfl, w1⟩ := UW _ _ f1
 rw [Ma Ur]
 obtain ⟨u2, Ds2, rfl, f2, g2⟩ := IG g1
 obtain ⟨x2, rfl, w2⟩ := UJ _ _ f2
 rw [Tg (by kernel_rfl)]
 obtain rfl := PC g2
 exact Iu N x0 x1 x2 true (plain x0 x1 x2 w0 w1 w2)
end Go.Lift
