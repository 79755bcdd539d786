/- Lemmas for PlanFailureSaid, which YtohibkdhajkmdaaFinP5 proves. -/
import Derived.Test.YtohibkdhajkmdaaCode4
/- The laws, from typed inputs to the code. Written by a program (gen.py). -/
namespace Go.Lift
open Go.RowKit
open Go.Proofs
theorem dec_3 : Dec Try.prog 3 eI64 wI64 := dec_int (k := .i64) (by kernel_rfl) (fun _ => rfl)
theorem dec_27 : Dec Try.prog 27 (eSl eI64) (wSl wI64) := dec_slice (el := 3) (by kernel_rfl) dec_3 (fun _ => rfl)
theorem dec_4 : Dec Try.prog 4 eB (fun _ => True) := dec_bool (by kernel_rfl) (fun _ => rfl)
theorem dec_76 : Dec Try.prog 76 (eSl eB) (wSl (fun _ => True)) := dec_slice (el := 4) (by kernel_rfl) dec_4 (fun _ => rfl)
theorem dec_73 : Dec Try.prog 73 (eSl (eSl eB)) (wSl (wSl (fun _ => True))) := dec_slice (el := 76) (by kernel_rfl) dec_76 (fun _ => rfl)
theorem ft_75 : fieldTys Try.prog 75 = some [3, 3, 3, 4, 73, 73] := by kernel_rfl
theorem dec_75 : Dec Try.prog 75 eApiTable wApiTable := by
  intro d ts h
  obtain ⟨d, h⟩ := fit_struct ft_75 h
  obtain ⟨a0, _, rfl, h0, a1, _, rfl, h1, a2, _, rfl, h2, a3, _, rfl, h3, a4, _, rfl, h4, a5, _, rfl, h5, rfl⟩ := h
  obtain ⟨x0, rfl, w0⟩ := dec_3 d _ h0
  obtain ⟨x1, rfl, w1⟩ := dec_3 d _ h1
  obtain ⟨x2, rfl, w2⟩ := dec_3 d _ h2
  obtain ⟨x3, rfl, w3⟩ := dec_4 d _ h3
  obtain ⟨x4, rfl, w4⟩ := dec_73 d _ h4
  obtain ⟨x5, rfl, w5⟩ := dec_73 d _ h5
  exact ⟨⟨x0, x1, x2, x3, x4, x5⟩, rfl, w0, w1, w2, w3, w4, w5, trivial⟩
theorem dec_28 : Dec Try.prog 28 (eSl eApiTable) (wSl wApiTable) := dec_slice (el := 75) (by kernel_rfl) dec_75 (fun _ => rfl)
theorem ft_30 : fieldTys Try.prog 30 = some [27, 27, 27, 28] := by kernel_rfl
theorem dec_30 : Dec Try.prog 30 eApiProblem wApiProblem := by
  intro d ts h
  obtain ⟨d, h⟩ := fit_struct ft_30 h
  obtain ⟨a0, _, rfl, h0, a1, _, rfl, h1, a2, _, rfl, h2, a3, _, rfl, h3, rfl⟩ := h
  obtain ⟨x0, rfl, w0⟩ := dec_27 d _ h0
  obtain ⟨x1, rfl, w1⟩ := dec_27 d _ h1
  obtain ⟨x2, rfl, w2⟩ := dec_27 d _ h2
  obtain ⟨x3, rfl, w3⟩ := dec_28 d _ h3
  exact ⟨⟨x0, x1, x2, x3⟩, rfl, w0, w1, w2, w3, trivial⟩
theorem ft_63 : fieldTys Try.prog 63 = some [3, 3, 3] := by kernel_rfl
theorem dec_63 : Dec Try.prog 63 eApiStep wApiStep := by
  intro d ts h
  obtain ⟨d, h⟩ := fit_struct ft_63 h
  obtain ⟨a0, _, rfl, h0, a1, _, rfl, h1, a2, _, rfl, h2, rfl⟩ := h
  obtain ⟨x0, rfl, w0⟩ := dec_3 d _ h0
  obtain ⟨x1, rfl, w1⟩ := dec_3 d _ h1
  obtain ⟨x2, rfl, w2⟩ := dec_3 d _ h2
  exact ⟨⟨x0, x1, x2⟩, rfl, w0, w1, w2, trivial⟩
theorem dec_33 : Dec Try.prog 33 (eSl eApiStep) (wSl wApiStep) := dec_slice (el := 63) (by kernel_rfl) dec_63 (fun _ => rfl)
theorem entry_5 (N d : Nat) (plain : ∀ (x0 : ApiProblem) (x1 : List ApiStep), wApiProblem x0 → (wSl wApiStep) x1 → Sh.sheavelaw39_PlanFailure N x0 x1 = some true) : ∀ Ds, FitArgs Try.prog d [30, 33] Ds → Contract Try.prog 5 Ds [] (.e (.one (.pure (.val (.bool true))))) := by
  intro Ds h
  obtain ⟨u0, Ds0, rfl, f0, g0⟩ := fitArgs_cons h
  obtain ⟨x0, rfl, w0⟩ := dec_30 _ _ f0
  rw [dOf_struct ft_30]
  obtain ⟨u1, Ds1, rfl, f1, g1⟩ := fitArgs_cons g0
  obtain ⟨x1, rfl, w1⟩ := dec_33 _ _ f1
  rw [dOf_one (by kernel_rfl)]
  obtain rfl := fitArgs_nil g1
  exact sheavelaw39_PlanFailure_c N x0 x1 true (plain x0 x1 w0 w1)
end Go.Lift

