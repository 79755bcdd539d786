/- Lemmas for WavesPlansCardSaid, which YtncnphcfgojgmaaGreatDoorFinV9 proves. -/
import Derived.Test.YtncnphcfgojgmaaGreatDoorCode4
namespace Go.Lift
open Go.RowKit
open Go.Proofs
theorem QN : P8 Tryz.prog 5 B6 Ju := Oe (k := .u8) (by kernel_rfl) (fun _ => rfl)
theorem NN : P8 Tryz.prog 22 (GF B6) (Ka Ju) := KV (el := 5) (by kernel_rfl) QN (fun _ => rfl)
theorem V7 : P8 Tryz.prog 4 eB (fun _ => True) := RK (by kernel_rfl) (fun _ => rfl)
theorem Rv : P8 Tryz.prog 58 WJ UF := Oe (k := .u16) (by kernel_rfl) (fun _ => rfl)
theorem VB : Gf Tryz.prog 60 = some [5, 5, 5, 4, 58, 58] := by kernel_rfl
theorem Vh : P8 Tryz.prog 60 Fr GD := by
 intro d ts h
 obtain ⟨d, h⟩ := JY VB h
 obtain ⟨a0, _, rfl, h0, a1, _, rfl, h1, a2, _, rfl, h2, a3, _, rfl, h3, a4, _, rfl, h4, a5, _, rfl, h5, rfl⟩ := h
 obtain ⟨x0, rfl, w0⟩ := QN d _ h0
 obtain ⟨x1, rfl, w1⟩ := QN d _ h1
 obtain ⟨x2, rfl, w2⟩ := QN d _ h2
 obtain ⟨x3, rfl, w3⟩ := V7 d _ h3
 obtain ⟨x4, rfl, w4⟩ := Rv d _ h4
 obtain ⟨x5, rfl, w5⟩ := Rv d _ h5
 exact ⟨⟨x0, x1, x2, x3, x4, x5⟩, rfl, w0, w1, w2, w3, w4, w5, trivial⟩
theorem U5 : P8 Tryz.prog 23 (GF Fr) (Ka GD) := KV (el := 60) (by kernel_rfl) Vh (fun _ => rfl)
theorem Up : Gf Tryz.prog 25 = some [22, 22, 22, 23] := by kernel_rfl
theorem Va : P8 Tryz.prog 25 Kq EY := by
 intro d ts h
 obtain ⟨d, h⟩ := JY Up h
 obtain ⟨a0, _, rfl, h0, a1, _, rfl, h1, a2, _, rfl, h2, a3, _, rfl, h3, rfl⟩ := h
 obtain ⟨x0, rfl, w0⟩ := NN d _ h0
 obtain ⟨x1, rfl, w1⟩ := NN d _ h1
 obtain ⟨x2, rfl, w2⟩ := NN d _ h2
 obtain ⟨x3, rfl, w3⟩ := U5 d _ h3
 exact ⟨⟨x0, x1, x2, x3⟩, rfl, w0, w1, w2, w3, trivial⟩
theorem Sv : P8 Tryz.prog 3 Ao ST := Oe (k := .i64) (by kernel_rfl) (fun _ => rfl)
theorem VT : Gf Tryz.prog 54 = some [3, 3, 3] := by kernel_rfl
theorem Ux : P8 Tryz.prog 54 Ai IW := by
 intro d ts h
 obtain ⟨d, h⟩ := JY VT h
 obtain ⟨a0, _, rfl, h0, a1, _, rfl, h1, a2, _, rfl, h2, rfl⟩ := h
 obtain ⟨x0, rfl, w0⟩ := Sv d _ h0
 obtain ⟨x1, rfl, w1⟩ := Sv d _ h1
 obtain ⟨x2, rfl, w2⟩ := Sv d _ h2
 exact ⟨⟨x0, x1, x2⟩, rfl, w0, w1, w2, trivial⟩
theorem UM : P8 Tryz.prog 28 (GF Ai) (Ka IW) := KV (el := 54) (by kernel_rfl) Ux (fun _ => rfl)
theorem Tx (N d : Nat) (plain : ∀ (x0 : BP) (x1 : List Ac) (x2 : List Int), EY x0 → (Ka IW) x1 → (Ka Ju) x2 → CA N x0 x1 x2 = some true) : ∀ Ds, Io Tryz.prog d [25, 28, 22] Ds → As Tryz.prog 6 Ds [] (.e (.one (.pure (.val (.bool true))))) := by
 intro Ds h
 obtain ⟨u0, Ds0, rfl, f0, g0⟩ := IE h
 obtain ⟨x0, rfl, w0⟩ := Va _ _ f0
 rw [PY Up]
 obtain ⟨u1, Ds1, rfl, f1, g1⟩ := IE g0
 obtain ⟨x1, rfl, w1⟩ := UM _ _ f1
 rw [QB (by kernel_rfl)]
 obtain ⟨u2, Ds2, rfl, f2, g2⟩ := IE g1
 obtain ⟨x2, rfl, w2⟩ := NN _ _ f2
 rw [QB (by kernel_rfl)]
 obtain rfl := OQ g2
 exact H5 N x0 x1 x2 true (plain x0 x1 x2 w0 w1 w2)
end Go.Lift
