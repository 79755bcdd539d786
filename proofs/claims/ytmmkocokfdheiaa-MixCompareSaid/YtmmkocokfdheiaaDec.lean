/- Lemmas for MixCompareSaid, which YtmmkocokfdheiaaFin9 proves. -/
/- The laws, from typed inputs to the code. Written by a program (gen.py). -/
import Derived.Test.YtmmkocokfdheiaaCode2
namespace Go.Lift
open Go.RowKit
open Go.Proofs
theorem dec_3 : Dec Try.prog 3 eI64 wI64 := dec_int (k := .i64) (by kernel_rfl) (fun _ => rfl)
theorem dec_28 : Dec Try.prog 28 (eSl eI64) (wSl wI64) := dec_slice (el := 3) (by kernel_rfl) dec_3 (fun _ => rfl)
theorem dec_80 : Dec Try.prog 80 eU8 wU8 := dec_int (k := .u8) (by kernel_rfl) (fun _ => rfl)
theorem dec_35 : Dec Try.prog 35 (eSl eU8) (wSl wU8) := dec_slice (el := 80) (by kernel_rfl) dec_80 (fun _ => rfl)
theorem ft_37 : fieldTys Try.prog 37 = some [28, 28, 35] := by kernel_rfl
theorem dec_37 : Dec Try.prog 37 eApiMix wApiMix := by
  intro d ts h
  obtain ⟨d, h⟩ := fit_struct ft_37 h
  obtain ⟨a0, _, rfl, h0, a1, _, rfl, h1, a2, _, rfl, h2, rfl⟩ := h
  obtain ⟨x0, rfl, w0⟩ := dec_28 d _ h0
  obtain ⟨x1, rfl, w1⟩ := dec_28 d _ h1
  obtain ⟨x2, rfl, w2⟩ := dec_35 d _ h2
  exact ⟨⟨x0, x1, x2⟩, rfl, w0, w1, w2, trivial⟩
theorem entry_9 (N d : Nat) (plain : ∀ (x0 : ApiMix) (x1 : ApiMix) (x2 : ApiMix), wApiMix x0 → wApiMix x1 → wApiMix x2 → Sh.sheavelaw36_MixCompare N x0 x1 x2 = some true) : ∀ Ds, FitArgs Try.prog d [37, 37, 37] Ds → Contract Try.prog 9 Ds [] (.e (.one (.pure (.val (.bool true))))) := by
  intro Ds h
  obtain ⟨u0, Ds0, rfl, f0, g0⟩ := fitArgs_cons h
  obtain ⟨x0, rfl, w0⟩ := dec_37 _ _ f0
  rw [dOf_struct ft_37]
  obtain ⟨u1, Ds1, rfl, f1, g1⟩ := fitArgs_cons g0
  obtain ⟨x1, rfl, w1⟩ := dec_37 _ _ f1
  rw [dOf_struct ft_37]
  obtain ⟨u2, Ds2, rfl, f2, g2⟩ := fitArgs_cons g1
  obtain ⟨x2, rfl, w2⟩ := dec_37 _ _ f2
  rw [dOf_struct ft_37]
  obtain rfl := fitArgs_nil g2
  exact sheavelaw36_MixCompare_c N x0 x1 x2 true (plain x0 x1 x2 w0 w1 w2)
end Go.Lift
