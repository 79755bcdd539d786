/- Lemmas for ReachPlaySaid, which YtfnobkfnohhmmaaGreatFinW7 proves. -/
import Derived.Test.YtfnobkfnohhmmaaGreatCode4
/- The laws, from typed inputs to the code. Written by a program (gen.py). -/
namespace Go.Lift
open Go.RowKit
open Go.Proofs
theorem OZ : Or Tryz.prog 5 Bk Kc := Ni (k := .u8) (by kernel_rfl) (fun _ => rfl)
theorem OF : Or Tryz.prog 22 (EQ Bk) (LT Kc) := Kq (el := 5) (by kernel_rfl) OZ (fun _ => rfl)
theorem TL : Or Tryz.prog 4 eB (fun _ => True) := PT (by kernel_rfl) (fun _ => rfl)
theorem PL : Or Tryz.prog 71 UI Sm := Ni (k := .u16) (by kernel_rfl) (fun _ => rfl)
theorem SS : Gn Tryz.prog 73 = some [5, 5, 5, 4, 71, 71] := by kernel_rfl
theorem Sf : Or Tryz.prog 73 BZ GC := by
 intro d ts h
 obtain ⟨d, h⟩ := Jq SS h
 obtain ⟨a0, _, rfl, h0, a1, _, rfl, h1, a2, _, rfl, h2, a3, _, rfl, h3, a4, _, rfl, h4, a5, _, rfl, h5, rfl⟩ := h
 obtain ⟨x0, rfl, w0⟩ := OZ d _ h0
 obtain ⟨x1, rfl, w1⟩ := OZ d _ h1
 obtain ⟨x2, rfl, w2⟩ := OZ d _ h2
 obtain ⟨x3, rfl, w3⟩ := TL d _ h3
 obtain ⟨x4, rfl, w4⟩ := PL d _ h4
 obtain ⟨x5, rfl, w5⟩ := PL d _ h5
 exact ⟨⟨x0, x1, x2, x3, x4, x5⟩, rfl, w0, w1, w2, w3, w4, w5, trivial⟩
theorem Sj : Or Tryz.prog 23 (EQ BZ) (LT GC) := Kq (el := 73) (by kernel_rfl) Sf (fun _ => rfl)
theorem R3 : Gn Tryz.prog 25 = some [22, 22, 22, 23] := by kernel_rfl
theorem R8 : Or Tryz.prog 25 JN E5 := by
 intro d ts h
 obtain ⟨d, h⟩ := Jq R3 h
 obtain ⟨a0, _, rfl, h0, a1, _, rfl, h1, a2, _, rfl, h2, a3, _, rfl, h3, rfl⟩ := h
 obtain ⟨x0, rfl, w0⟩ := OF d _ h0
 obtain ⟨x1, rfl, w1⟩ := OF d _ h1
 obtain ⟨x2, rfl, w2⟩ := OF d _ h2
 obtain ⟨x3, rfl, w3⟩ := Sj d _ h3
 exact ⟨⟨x0, x1, x2, x3⟩, rfl, w0, w1, w2, w3, trivial⟩
theorem PR : Or Tryz.prog 3 Ai RC := Ni (k := .i64) (by kernel_rfl) (fun _ => rfl)
theorem TZ : Gn Tryz.prog 40 = some [3, 3, 3] := by kernel_rfl
theorem SH : Or Tryz.prog 40 AF J6 := by
 intro d ts h
 obtain ⟨d, h⟩ := Jq TZ h
 obtain ⟨a0, _, rfl, h0, a1, _, rfl, h1, a2, _, rfl, h2, rfl⟩ := h
 obtain ⟨x0, rfl, w0⟩ := PR d _ h0
 obtain ⟨x1, rfl, w1⟩ := PR d _ h1
 obtain ⟨x2, rfl, w2⟩ := PR d _ h2
 exact ⟨⟨x0, x1, x2⟩, rfl, w0, w1, w2, trivial⟩
theorem Sy : Or Tryz.prog 26 (EQ AF) (LT J6) := Kq (el := 40) (by kernel_rfl) SH (fun _ => rfl)
theorem Rv (N d : Nat) (plain : ∀ (x0 : Ch) (x1 : List Ap), E5 x0 → (LT J6) x1 → C1 N x0 x1 = some true) : ∀ Ds, It Tryz.prog d [25, 26] Ds → Az Tryz.prog 7 Ds [] (.e (.one (.pure (.val (.bool true))))) := by
 intro Ds h
 obtain ⟨u0, Ds0, rfl, f0, g0⟩ := JU h
 obtain ⟨x0, rfl, w0⟩ := R8 _ _ f0
 rw [OD R3]
 obtain ⟨u1, Ds1, rfl, f1, g1⟩ := JU g0
 obtain ⟨x1, rfl, w1⟩ := Sy _ _ f1
 rw [Q8 (by kernel_rfl)]
 obtain rfl := NI g1
 exact H5 N x0 x1 true (plain x0 x1 w0 w1)
end Go.Lift

