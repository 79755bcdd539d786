/- Lemmas for AuditMixCardSaid, which YtfgobbnahihlfaaGreatDoorFinA4 proves. -/
import Derived.Test.YtfgobbnahihlfaaGreatDoorCode4
open Go.Proofs.Tryz renaming prog → uS
namespace Go.Lift
open Go.RowKit
open Go.Proofs
theorem GF : NE uS 3 Ar GI := PP (k := .i64) (by kernel_rfl) (fun _ => rfl)
theorem NP : NE uS 22 (K5 Ar) (Jt GI) := GP (el := 3) (by kernel_rfl) GF (fun _ => rfl)
theorem TC : NE uS 4 eB (fun _ => True) := Rn (by kernel_rfl) (fun _ => rfl)
theorem Sp : NE uS 125 (K5 eB) (Jt (fun _ => True)) := GP (el := 4) (by kernel_rfl) TC (fun _ => rfl)
theorem PG : NE uS 110 (K5 (K5 eB)) (Jt (Jt (fun _ => True))) := GP (el := 125) (by kernel_rfl) Sp (fun _ => rfl)
theorem TU : Fx uS 112 = some [3, 3, 3, 4, 110, 110] := by kernel_rfl
theorem Sw : NE uS 112 Bw J7 := by
 intro d ts h
 obtain ⟨d, h⟩ := G6 TU h
 obtain ⟨a0, _, rfl, h0, a1, _, rfl, h1, a2, _, rfl, h2, a3, _, rfl, h3, a4, _, rfl, h4, a5, _, rfl, h5, rfl⟩ := h
 obtain ⟨x0, rfl, w0⟩ := GF d _ h0
 obtain ⟨x1, rfl, w1⟩ := GF d _ h1
 obtain ⟨x2, rfl, w2⟩ := GF d _ h2
 obtain ⟨x3, rfl, w3⟩ := TC d _ h3
 obtain ⟨x4, rfl, w4⟩ := PG d _ h4
 obtain ⟨x5, rfl, w5⟩ := PG d _ h5
 exact ⟨⟨x0, x1, x2, x3, x4, x5⟩, rfl, w0, w1, w2, w3, w4, w5, trivial⟩
theorem Uo : NE uS 23 (K5 Bw) (Jt J7) := GP (el := 112) (by kernel_rfl) Sw (fun _ => rfl)
theorem VA : Fx uS 25 = some [22, 22, 22, 23] := by kernel_rfl
theorem Uj : NE uS 25 Oy Kx := by
 intro d ts h
 obtain ⟨d, h⟩ := G6 VA h
 obtain ⟨a0, _, rfl, h0, a1, _, rfl, h1, a2, _, rfl, h2, a3, _, rfl, h3, rfl⟩ := h
 obtain ⟨x0, rfl, w0⟩ := NP d _ h0
 obtain ⟨x1, rfl, w1⟩ := NP d _ h1
 obtain ⟨x2, rfl, w2⟩ := NP d _ h2
 obtain ⟨x3, rfl, w3⟩ := Uo d _ h3
 exact ⟨⟨x0, x1, x2, x3⟩, rfl, w0, w1, w2, w3, trivial⟩
theorem Vp : Fx uS 67 = some [3, 3, 3] := by kernel_rfl
theorem TS : NE uS 67 AO Lz := by
 intro d ts h
 obtain ⟨d, h⟩ := G6 Vp h
 obtain ⟨a0, _, rfl, h0, a1, _, rfl, h1, a2, _, rfl, h2, rfl⟩ := h
 obtain ⟨x0, rfl, w0⟩ := GF d _ h0
 obtain ⟨x1, rfl, w1⟩ := GF d _ h1
 obtain ⟨x2, rfl, w2⟩ := GF d _ h2
 exact ⟨⟨x0, x1, x2⟩, rfl, w0, w1, w2, trivial⟩
theorem TW : NE uS 26 (K5 AO) (Jt Lz) := GP (el := 67) (by kernel_rfl) TS (fun _ => rfl)
theorem Ty : NE uS 2 Ar GI := PP (k := .i64) (by kernel_rfl) (fun _ => rfl)
theorem UC : Fx uS 37 = some [2, 3, 3, 3, 3, 3, 2, 3, 3, 3, 3] := by kernel_rfl
theorem Ug : NE uS 37 AL Kb := by
 intro d ts h
 obtain ⟨d, h⟩ := G6 UC h
 obtain ⟨a0, _, rfl, h0, a1, _, rfl, h1, a2, _, rfl, h2, a3, _, rfl, h3, a4, _, rfl, h4, a5, _, rfl, h5, a6, _, rfl, h6, a7, _, rfl, h7, a8, _, rfl, h8, a9, _, rfl, h9, a10, _, rfl, h10, rfl⟩ := h
 obtain ⟨x0, rfl, w0⟩ := Ty d _ h0
 obtain ⟨x1, rfl, w1⟩ := GF d _ h1
 obtain ⟨x2, rfl, w2⟩ := GF d _ h2
 obtain ⟨x3, rfl, w3⟩ := GF d _ h3
 obtain ⟨x4, rfl, w4⟩ := GF d _ h4
 obtain ⟨x5, rfl, w5⟩ := GF d _ h5
 obtain ⟨x6, rfl, w6⟩ := Ty d _ h6
 obtain ⟨x7, rfl, w7⟩ := GF d _ h7
 obtain ⟨x8, rfl, w8⟩ := GF d _ h8
 obtain ⟨x9, rfl, w9⟩ := GF d _ h9
 obtain ⟨x10, rfl, w10⟩ := GF d _ h10
 exact ⟨⟨x0, x1, x2, x3, x4, x5, x6, x7, x8, x9, x10⟩, rfl, w0, w1, w2, w3, w4, w5, w6, w7, w8, w9, w10, trivial⟩
theorem Ua : NE uS 27 (K5 AL) (Jt Kb) := GP (el := 37) (by kernel_rfl) Ug (fun _ => rfl)
theorem Tz : Fx uS 29 = some [25, 22, 26, 27] := by kernel_rfl
theorem TQ : NE uS 29 KV Gq := by
 intro d ts h
 obtain ⟨d, h⟩ := G6 Tz h
 obtain ⟨a0, _, rfl, h0, a1, _, rfl, h1, a2, _, rfl, h2, a3, _, rfl, h3, rfl⟩ := h
 obtain ⟨x0, rfl, w0⟩ := Uj d _ h0
 obtain ⟨x1, rfl, w1⟩ := NP d _ h1
 obtain ⟨x2, rfl, w2⟩ := TW d _ h2
 obtain ⟨x3, rfl, w3⟩ := Ua d _ h3
 exact ⟨⟨x0, x1, x2, x3⟩, rfl, w0, w1, w2, w3, trivial⟩
theorem Sr (N d : Nat) (plain : ∀ (x0 : B0), Gq x0 → CI N x0 = some true) : ∀ Ds, HY uS d [29] Ds → Ap uS 4 Ds [] (.e (.one (.pure (.val (.bool true))))) := by
 intro Ds h
 obtain ⟨u0, Ds0, rfl, f0, g0⟩ := Nq h
 obtain ⟨x0, rfl, w0⟩ := TQ _ _ f0
 rw [OX Tz]
 obtain rfl := OQ g0
 exact HV N x0 true (plain x0 w0)
end Go.Lift
