/- Lemmas for AuditLongerCardSaid, which YtfgobbnahihlfaaGreatDoorFinA7 proves. -/
import Derived.Test.YtfgobbnahihlfaaGreatDoorCode4
open Go.Proofs.Tryz renaming prog → uS
namespace Go.Lift
open Go.RowKit
open Go.Proofs
theorem Gq : Mx uS 3 As Gb := NH (k := .i64) (by kernel_rfl) (fun _ => rfl)
theorem NQ : Mx uS 22 (KV As) (Kv Gb) := GD (el := 3) (by kernel_rfl) Gq (fun _ => rfl)
theorem T3 : Mx uS 4 eB (fun _ => True) := RA (by kernel_rfl) (fun _ => rfl)
theorem SS : Mx uS 125 (KV eB) (Kv (fun _ => True)) := GD (el := 4) (by kernel_rfl) T3 (fun _ => rfl)
theorem P8 : Mx uS 110 (KV (KV eB)) (Kv (Kv (fun _ => True))) := GD (el := 125) (by kernel_rfl) SS (fun _ => rfl)
theorem Ub : EM uS 112 = some [3, 3, 3, 4, 110, 110] := by kernel_rfl
theorem SR : Mx uS 112 Bv J4 := by
 intro d ts h
 obtain ⟨d, h⟩ := GG Ub h
 obtain ⟨a0, _, rfl, h0, a1, _, rfl, h1, a2, _, rfl, h2, a3, _, rfl, h3, a4, _, rfl, h4, a5, _, rfl, h5, rfl⟩ := h
 obtain ⟨x0, rfl, w0⟩ := Gq d _ h0
 obtain ⟨x1, rfl, w1⟩ := Gq d _ h1
 obtain ⟨x2, rfl, w2⟩ := Gq d _ h2
 obtain ⟨x3, rfl, w3⟩ := T3 d _ h3
 obtain ⟨x4, rfl, w4⟩ := P8 d _ h4
 obtain ⟨x5, rfl, w5⟩ := P8 d _ h5
 exact ⟨⟨x0, x1, x2, x3, x4, x5⟩, rfl, w0, w1, w2, w3, w4, w5, trivial⟩
theorem Ux : Mx uS 23 (KV Bv) (Kv J4) := GD (el := 112) (by kernel_rfl) SR (fun _ => rfl)
theorem Vo : EM uS 25 = some [22, 22, 22, 23] := by kernel_rfl
theorem UG : Mx uS 25 Oc KA := by
 intro d ts h
 obtain ⟨d, h⟩ := GG Vo h
 obtain ⟨a0, _, rfl, h0, a1, _, rfl, h1, a2, _, rfl, h2, a3, _, rfl, h3, rfl⟩ := h
 obtain ⟨x0, rfl, w0⟩ := NQ d _ h0
 obtain ⟨x1, rfl, w1⟩ := NQ d _ h1
 obtain ⟨x2, rfl, w2⟩ := NQ d _ h2
 obtain ⟨x3, rfl, w3⟩ := Ux d _ h3
 exact ⟨⟨x0, x1, x2, x3⟩, rfl, w0, w1, w2, w3, trivial⟩
theorem Vm : EM uS 67 = some [3, 3, 3] := by kernel_rfl
theorem UJ : Mx uS 67 AM LO := by
 intro d ts h
 obtain ⟨d, h⟩ := GG Vm h
 obtain ⟨a0, _, rfl, h0, a1, _, rfl, h1, a2, _, rfl, h2, rfl⟩ := h
 obtain ⟨x0, rfl, w0⟩ := Gq d _ h0
 obtain ⟨x1, rfl, w1⟩ := Gq d _ h1
 obtain ⟨x2, rfl, w2⟩ := Gq d _ h2
 exact ⟨⟨x0, x1, x2⟩, rfl, w0, w1, w2, trivial⟩
theorem UA : Mx uS 26 (KV AM) (Kv LO) := GD (el := 67) (by kernel_rfl) UJ (fun _ => rfl)
theorem T4 : Mx uS 2 As Gb := NH (k := .i64) (by kernel_rfl) (fun _ => rfl)
theorem U6 : EM uS 37 = some [2, 3, 3, 3, 3, 3, 2, 3, 3, 3, 3] := by kernel_rfl
theorem UB : Mx uS 37 AJ IF := by
 intro d ts h
 obtain ⟨d, h⟩ := GG U6 h
 obtain ⟨a0, _, rfl, h0, a1, _, rfl, h1, a2, _, rfl, h2, a3, _, rfl, h3, a4, _, rfl, h4, a5, _, rfl, h5, a6, _, rfl, h6, a7, _, rfl, h7, a8, _, rfl, h8, a9, _, rfl, h9, a10, _, rfl, h10, rfl⟩ := h
 obtain ⟨x0, rfl, w0⟩ := T4 d _ h0
 obtain ⟨x1, rfl, w1⟩ := Gq d _ h1
 obtain ⟨x2, rfl, w2⟩ := Gq d _ h2
 obtain ⟨x3, rfl, w3⟩ := Gq d _ h3
 obtain ⟨x4, rfl, w4⟩ := Gq d _ h4
 obtain ⟨x5, rfl, w5⟩ := Gq d _ h5
 obtain ⟨x6, rfl, w6⟩ := T4 d _ h6
 obtain ⟨x7, rfl, w7⟩ := Gq d _ h7
 obtain ⟨x8, rfl, w8⟩ := Gq d _ h8
 obtain ⟨x9, rfl, w9⟩ := Gq d _ h9
 obtain ⟨x10, rfl, w10⟩ := Gq d _ h10
 exact ⟨⟨x0, x1, x2, x3, x4, x5, x6, x7, x8, x9, x10⟩, rfl, w0, w1, w2, w3, w4, w5, w6, w7, w8, w9, w10, trivial⟩
theorem T9 : Mx uS 27 (KV AJ) (Kv IF) := GD (el := 37) (by kernel_rfl) UB (fun _ => rfl)
theorem TF : EM uS 29 = some [25, 22, 26, 27] := by kernel_rfl
theorem Ua : Mx uS 29 KM Fb := by
 intro d ts h
 obtain ⟨d, h⟩ := GG TF h
 obtain ⟨a0, _, rfl, h0, a1, _, rfl, h1, a2, _, rfl, h2, a3, _, rfl, h3, rfl⟩ := h
 obtain ⟨x0, rfl, w0⟩ := UG d _ h0
 obtain ⟨x1, rfl, w1⟩ := NQ d _ h1
 obtain ⟨x2, rfl, w2⟩ := UA d _ h2
 obtain ⟨x3, rfl, w3⟩ := T9 d _ h3
 exact ⟨⟨x0, x1, x2, x3⟩, rfl, w0, w1, w2, w3, trivial⟩
theorem U7 : Mx uS 5 Dw O0 := NH (k := .u8) (by kernel_rfl) (fun _ => rfl)
theorem S4 (N d : Nat) (plain : ∀ (x0 : BK) (x1 : Int), Fb x0 → O0 x1 → B8 N x0 x1 = some true) : ∀ Ds, HP uS d [29, 5] Ds → Aq uS 7 Ds [] (.e (.one (.pure (.val (.bool true))))) := by
 intro Ds h
 obtain ⟨u0, Ds0, rfl, f0, g0⟩ := Jr h
 obtain ⟨x0, rfl, w0⟩ := Ua _ _ f0
 rw [Pn TF]
 obtain ⟨u1, Ds1, rfl, f1, g1⟩ := Jr g0
 obtain ⟨x1, rfl, w1⟩ := U7 _ _ f1
 rw [Sp (by kernel_rfl)]
 obtain rfl := OU g1
 exact G1 N x0 x1 true (plain x0 x1 w0 w1)
end Go.Lift
