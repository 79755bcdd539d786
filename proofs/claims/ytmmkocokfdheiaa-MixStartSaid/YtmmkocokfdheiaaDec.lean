/- Lemmas for MixStartSaid, which YtmmkocokfdheiaaFin10 proves. -/
/- The laws, from typed inputs to the code. Written by a program (gen.py). -/
import Derived.Test.YtmmkocokfdheiaaCode2
namespace Go.Lift
open Go.RowKit
open Go.Proofs
theorem dec_3 : Dec Try.prog 3 eI64 wI64 := dec_int (k := .i64) (by kernel_rfl) (fun _ => rfl)
theorem dec_28 : Dec Try.prog 28 (eSl eI64) (wSl wI64) := dec_slice (el := 3) (by kernel_rfl) dec_3 (fun _ => rfl)
theorem dec_4 : Dec Try.prog 4 eB (fun _ => True) := dec_bool (by kernel_rfl) (fun _ => rfl)
theorem dec_65 : Dec Try.prog 65 (eSl eB) (wSl (fun _ => True)) := dec_slice (el := 4) (by kernel_rfl) dec_4 (fun _ => rfl)
theorem dec_59 : Dec Try.prog 59 (eSl (eSl eB)) (wSl (wSl (fun _ => True))) := dec_slice (el := 65) (by kernel_rfl) dec_65 (fun _ => rfl)
theorem ft_61 : fieldTys Try.prog 61 = some [3, 3, 3, 4, 59, 59] := by kernel_rfl
theorem dec_61 : Dec Try.prog 61 eApiTable wApiTable := by
  intro d ts h
  obtain ⟨d, h⟩ := fit_struct ft_61 h
  obtain ⟨a0, _, rfl, h0, a1, _, rfl, h1, a2, _, rfl, h2, a3, _, rfl, h3, a4, _, rfl, h4, a5, _, rfl, h5, rfl⟩ := h
  obtain ⟨x0, rfl, w0⟩ := dec_3 d _ h0
  obtain ⟨x1, rfl, w1⟩ := dec_3 d _ h1
  obtain ⟨x2, rfl, w2⟩ := dec_3 d _ h2
  obtain ⟨x3, rfl, w3⟩ := dec_4 d _ h3
  obtain ⟨x4, rfl, w4⟩ := dec_59 d _ h4
  obtain ⟨x5, rfl, w5⟩ := dec_59 d _ h5
  exact ⟨⟨x0, x1, x2, x3, x4, x5⟩, rfl, w0, w1, w2, w3, w4, w5, trivial⟩
theorem dec_29 : Dec Try.prog 29 (eSl eApiTable) (wSl wApiTable) := dec_slice (el := 61) (by kernel_rfl) dec_61 (fun _ => rfl)
theorem ft_31 : fieldTys Try.prog 31 = some [28, 28, 28, 29] := by kernel_rfl
theorem dec_31 : Dec Try.prog 31 eApiProblem wApiProblem := by
  intro d ts h
  obtain ⟨d, h⟩ := fit_struct ft_31 h
  obtain ⟨a0, _, rfl, h0, a1, _, rfl, h1, a2, _, rfl, h2, a3, _, rfl, h3, rfl⟩ := h
  obtain ⟨x0, rfl, w0⟩ := dec_28 d _ h0
  obtain ⟨x1, rfl, w1⟩ := dec_28 d _ h1
  obtain ⟨x2, rfl, w2⟩ := dec_28 d _ h2
  obtain ⟨x3, rfl, w3⟩ := dec_29 d _ h3
  exact ⟨⟨x0, x1, x2, x3⟩, rfl, w0, w1, w2, w3, trivial⟩
theorem entry_10 (N d : Nat) (plain : ∀ (x0 : ApiProblem), wApiProblem x0 → Sh.sheavelaw36_MixStart N x0 = some true) : ∀ Ds, FitArgs Try.prog d [31] Ds → Contract Try.prog 10 Ds [] (.e (.one (.pure (.val (.bool true))))) := by
  intro Ds h
  obtain ⟨u0, Ds0, rfl, f0, g0⟩ := fitArgs_cons h
  obtain ⟨x0, rfl, w0⟩ := dec_31 _ _ f0
  rw [dOf_struct ft_31]
  obtain rfl := fitArgs_nil g0
  exact sheavelaw36_MixStart_c N x0 true (plain x0 w0)
end Go.Lift
