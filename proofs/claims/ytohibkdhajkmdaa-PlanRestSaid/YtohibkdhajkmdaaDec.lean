/- Lemmas for PlanRestSaid, which YtohibkdhajkmdaaFinP8 proves. -/
import Derived.Test.YtohibkdhajkmdaaCode4
/- The laws, from typed inputs to the code. Written by a program (gen.py). -/
namespace Go.Lift
open Go.RowKit
open Go.Proofs
theorem P3 : Sc Try.prog 5 Ba JB := Q8 (k := .u8) (by kernel_rfl) (fun _ => rfl)
theorem QP : Sc Try.prog 22 (Eo Ba) (Mc JB) := N7 (el := 5) (by kernel_rfl) P3 (fun _ => rfl)
theorem WJ : Sc Try.prog 4 eB (fun _ => True) := Sx (by kernel_rfl) (fun _ => rfl)
theorem Sr : Sc Try.prog 82 XG VP := Q8 (k := .u16) (by kernel_rfl) (fun _ => rfl)
theorem Wx : GZ Try.prog 84 = some [5, 5, 5, 4, 82, 82] := by kernel_rfl
theorem VI : Sc Try.prog 84 BV GG := by
 intro d ts h
 obtain ⟨d, h⟩ := MO Wx h
 obtain ⟨a0, _, rfl, h0, a1, _, rfl, h1, a2, _, rfl, h2, a3, _, rfl, h3, a4, _, rfl, h4, a5, _, rfl, h5, rfl⟩ := h
 obtain ⟨x0, rfl, w0⟩ := P3 d _ h0
 obtain ⟨x1, rfl, w1⟩ := P3 d _ h1
 obtain ⟨x2, rfl, w2⟩ := P3 d _ h2
 obtain ⟨x3, rfl, w3⟩ := WJ d _ h3
 obtain ⟨x4, rfl, w4⟩ := Sr d _ h4
 obtain ⟨x5, rfl, w5⟩ := Sr d _ h5
 exact ⟨⟨x0, x1, x2, x3, x4, x5⟩, rfl, w0, w1, w2, w3, w4, w5, trivial⟩
theorem VQ : Sc Try.prog 23 (Eo BV) (Mc GG) := N7 (el := 84) (by kernel_rfl) VI (fun _ => rfl)
theorem UY : GZ Try.prog 25 = some [22, 22, 22, 23] := by kernel_rfl
theorem Vt : Sc Try.prog 25 KZ EE := by
 intro d ts h
 obtain ⟨d, h⟩ := MO UY h
 obtain ⟨a0, _, rfl, h0, a1, _, rfl, h1, a2, _, rfl, h2, a3, _, rfl, h3, rfl⟩ := h
 obtain ⟨x0, rfl, w0⟩ := QP d _ h0
 obtain ⟨x1, rfl, w1⟩ := QP d _ h1
 obtain ⟨x2, rfl, w2⟩ := QP d _ h2
 obtain ⟨x3, rfl, w3⟩ := VQ d _ h3
 exact ⟨⟨x0, x1, x2, x3⟩, rfl, w0, w1, w2, w3, trivial⟩
theorem T2 (N d : Nat) (plain : ∀ (x0 : BI) (x1 : Int), EE x0 → JB x1 → Dm N x0 x1 = some true) : ∀ Ds, IX Try.prog d [25, 5] Ds → AC Try.prog 8 Ds [] (.e (.one (.pure (.val (.bool true))))) := by
 intro Ds h
 obtain ⟨u0, Ds0, rfl, f0, g0⟩ := KU h
 obtain ⟨x0, rfl, w0⟩ := Vt _ _ f0
 rw [QK UY]
 obtain ⟨u1, Ds1, rfl, f1, g1⟩ := KU g0
 obtain ⟨x1, rfl, w1⟩ := P3 _ _ f1
 rw [UH (by kernel_rfl)]
 obtain rfl := PX g1
 exact IM N x0 x1 true (plain x0 x1 w0 w1)
end Go.Lift

