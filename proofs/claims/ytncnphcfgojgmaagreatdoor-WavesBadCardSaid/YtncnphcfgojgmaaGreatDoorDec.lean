/- Lemmas for WavesBadCardSaid, which YtncnphcfgojgmaaGreatDoorFinV4 proves. -/
import Derived.Test.YtncnphcfgojgmaaGreatDoorCode4
namespace Go.Lift
open Go.RowKit
open Go.Proofs
theorem QQ : PL Tryz.prog 5 B3 IB := Od (k := .u8) (by kernel_rfl) (fun _ => rfl)
theorem Lc : PL Tryz.prog 22 (Fg B3) (Jf IB) := La (el := 5) (by kernel_rfl) QQ (fun _ => rfl)
theorem VB : PL Tryz.prog 4 eB (fun _ => True) := Rx (by kernel_rfl) (fun _ => rfl)
theorem RE : PL Tryz.prog 58 W3 UB := Od (k := .u16) (by kernel_rfl) (fun _ => rfl)
theorem VD : FN Tryz.prog 60 = some [5, 5, 5, 4, 58, 58] := by kernel_rfl
theorem UN : PL Tryz.prog 60 FA GZ := by
 intro d ts h
 obtain ⟨d, h⟩ := IF VD h
 obtain ⟨a0, _, rfl, h0, a1, _, rfl, h1, a2, _, rfl, h2, a3, _, rfl, h3, a4, _, rfl, h4, a5, _, rfl, h5, rfl⟩ := h
 obtain ⟨x0, rfl, w0⟩ := QQ d _ h0
 obtain ⟨x1, rfl, w1⟩ := QQ d _ h1
 obtain ⟨x2, rfl, w2⟩ := QQ d _ h2
 obtain ⟨x3, rfl, w3⟩ := VB d _ h3
 obtain ⟨x4, rfl, w4⟩ := RE d _ h4
 obtain ⟨x5, rfl, w5⟩ := RE d _ h5
 exact ⟨⟨x0, x1, x2, x3, x4, x5⟩, rfl, w0, w1, w2, w3, w4, w5, trivial⟩
theorem UF : PL Tryz.prog 23 (Fg FA) (Jf GZ) := La (el := 60) (by kernel_rfl) UN (fun _ => rfl)
theorem Ub : FN Tryz.prog 25 = some [22, 22, 22, 23] := by kernel_rfl
theorem Vq : PL Tryz.prog 25 KB En := by
 intro d ts h
 obtain ⟨d, h⟩ := IF Ub h
 obtain ⟨a0, _, rfl, h0, a1, _, rfl, h1, a2, _, rfl, h2, a3, _, rfl, h3, rfl⟩ := h
 obtain ⟨x0, rfl, w0⟩ := Lc d _ h0
 obtain ⟨x1, rfl, w1⟩ := Lc d _ h1
 obtain ⟨x2, rfl, w2⟩ := Lc d _ h2
 obtain ⟨x3, rfl, w3⟩ := UF d _ h3
 exact ⟨⟨x0, x1, x2, x3⟩, rfl, w0, w1, w2, w3, trivial⟩
theorem Uf : FN Tryz.prog 27 = some [22, 22, 22] := by kernel_rfl
theorem Vl : PL Tryz.prog 27 KK Eh := by
 intro d ts h
 obtain ⟨d, h⟩ := IF Uf h
 obtain ⟨a0, _, rfl, h0, a1, _, rfl, h1, a2, _, rfl, h2, rfl⟩ := h
 obtain ⟨x0, rfl, w0⟩ := Lc d _ h0
 obtain ⟨x1, rfl, w1⟩ := Lc d _ h1
 obtain ⟨x2, rfl, w2⟩ := Lc d _ h2
 exact ⟨⟨x0, x1, x2⟩, rfl, w0, w1, w2, trivial⟩
theorem Si : PL Tryz.prog 3 An Tb := Od (k := .i64) (by kernel_rfl) (fun _ => rfl)
theorem VQ : FN Tryz.prog 54 = some [3, 3, 3] := by kernel_rfl
theorem Vj : PL Tryz.prog 54 Ai Jp := by
 intro d ts h
 obtain ⟨d, h⟩ := IF VQ h
 obtain ⟨a0, _, rfl, h0, a1, _, rfl, h1, a2, _, rfl, h2, rfl⟩ := h
 obtain ⟨x0, rfl, w0⟩ := Si d _ h0
 obtain ⟨x1, rfl, w1⟩ := Si d _ h1
 obtain ⟨x2, rfl, w2⟩ := Si d _ h2
 exact ⟨⟨x0, x1, x2⟩, rfl, w0, w1, w2, trivial⟩
theorem UT : PL Tryz.prog 28 (Fg Ai) (Jf Jp) := La (el := 54) (by kernel_rfl) Vj (fun _ => rfl)
theorem S6 (N d : Nat) (plain : ∀ (x0 : BE) (x1 : Bj) (x2 : List Ad), En x0 → Eh x1 → (Jf Jp) x2 → CZ N x0 x1 x2 = some true) : ∀ Ds, IC Tryz.prog d [25, 27, 28] Ds → Aq Tryz.prog 4 Ds [] (.e (.one (.pure (.val (.bool true))))) := by
 intro Ds h
 obtain ⟨u0, Ds0, rfl, f0, g0⟩ := IG h
 obtain ⟨x0, rfl, w0⟩ := Vq _ _ f0
 rw [Ms Ub]
 obtain ⟨u1, Ds1, rfl, f1, g1⟩ := IG g0
 obtain ⟨x1, rfl, w1⟩ := Vl _ _ f1
 rw [Ms Uf]
 obtain ⟨u2, Ds2, rfl, f2, g2⟩ := IG g1
 obtain ⟨x2, rfl, w2⟩ := UT _ _ f2
 rw [TD (by kernel_rfl)]
 obtain rfl := Pz g2
 exact IU N x0 x1 x2 true (plain x0 x1 x2 w0 w1 w2)
end Go.Lift
