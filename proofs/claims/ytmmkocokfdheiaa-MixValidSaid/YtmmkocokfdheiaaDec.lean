/- Lemmas for MixValidSaid, which YtmmkocokfdheiaaFin7 proves. -/
/- The laws, from typed inputs to the code. Written by a program (gen.py). -/
import Derived.Test.YtmmkocokfdheiaaCode3
namespace Go.Lift
open Go.RowKit
open Go.Proofs
theorem dec_5 : Dec Try.prog 5 eU8 wU8 := dec_int (k := .u8) (by kernel_rfl) (fun _ => rfl)
theorem dec_22 : Dec Try.prog 22 (eSl eU8) (wSl wU8) := dec_slice (el := 5) (by kernel_rfl) dec_5 (fun _ => rfl)
theorem dec_4 : Dec Try.prog 4 eB (fun _ => True) := dec_bool (by kernel_rfl) (fun _ => rfl)
theorem dec_66 : Dec Try.prog 66 eU16 wU16 := dec_int (k := .u16) (by kernel_rfl) (fun _ => rfl)
theorem ft_77 : fieldTys Try.prog 77 = some [5, 5, 5, 4, 66, 66] := by kernel_rfl
theorem dec_77 : Dec Try.prog 77 eSheaveref35Link wSheaveref35Link := by
  intro d ts h
  obtain ⟨d, h⟩ := fit_struct ft_77 h
  obtain ⟨a0, _, rfl, h0, a1, _, rfl, h1, a2, _, rfl, h2, a3, _, rfl, h3, a4, _, rfl, h4, a5, _, rfl, h5, rfl⟩ := h
  obtain ⟨x0, rfl, w0⟩ := dec_5 d _ h0
  obtain ⟨x1, rfl, w1⟩ := dec_5 d _ h1
  obtain ⟨x2, rfl, w2⟩ := dec_5 d _ h2
  obtain ⟨x3, rfl, w3⟩ := dec_4 d _ h3
  obtain ⟨x4, rfl, w4⟩ := dec_66 d _ h4
  obtain ⟨x5, rfl, w5⟩ := dec_66 d _ h5
  exact ⟨⟨x0, x1, x2, x3, x4, x5⟩, rfl, w0, w1, w2, w3, w4, w5, trivial⟩
theorem dec_23 : Dec Try.prog 23 (eSl eSheaveref35Link) (wSl wSheaveref35Link) := dec_slice (el := 77) (by kernel_rfl) dec_77 (fun _ => rfl)
theorem ft_25 : fieldTys Try.prog 25 = some [22, 22, 22, 23] := by kernel_rfl
theorem dec_25 : Dec Try.prog 25 eSheaveref35Draft wSheaveref35Draft := by
  intro d ts h
  obtain ⟨d, h⟩ := fit_struct ft_25 h
  obtain ⟨a0, _, rfl, h0, a1, _, rfl, h1, a2, _, rfl, h2, a3, _, rfl, h3, rfl⟩ := h
  obtain ⟨x0, rfl, w0⟩ := dec_22 d _ h0
  obtain ⟨x1, rfl, w1⟩ := dec_22 d _ h1
  obtain ⟨x2, rfl, w2⟩ := dec_22 d _ h2
  obtain ⟨x3, rfl, w3⟩ := dec_23 d _ h3
  exact ⟨⟨x0, x1, x2, x3⟩, rfl, w0, w1, w2, w3, trivial⟩
theorem ft_27 : fieldTys Try.prog 27 = some [22, 22, 22] := by kernel_rfl
theorem dec_27 : Dec Try.prog 27 eSheaveref36Draft wSheaveref36Draft := by
  intro d ts h
  obtain ⟨d, h⟩ := fit_struct ft_27 h
  obtain ⟨a0, _, rfl, h0, a1, _, rfl, h1, a2, _, rfl, h2, rfl⟩ := h
  obtain ⟨x0, rfl, w0⟩ := dec_22 d _ h0
  obtain ⟨x1, rfl, w1⟩ := dec_22 d _ h1
  obtain ⟨x2, rfl, w2⟩ := dec_22 d _ h2
  exact ⟨⟨x0, x1, x2⟩, rfl, w0, w1, w2, trivial⟩
theorem dec_3 : Dec Try.prog 3 eI64 wI64 := dec_int (k := .i64) (by kernel_rfl) (fun _ => rfl)
theorem dec_28 : Dec Try.prog 28 (eSl eI64) (wSl wI64) := dec_slice (el := 3) (by kernel_rfl) dec_3 (fun _ => rfl)
theorem dec_65 : Dec Try.prog 65 (eSl eB) (wSl (fun _ => True)) := dec_slice (el := 4) (by kernel_rfl) dec_4 (fun _ => rfl)
theorem dec_59 : Dec Try.prog 59 (eSl (eSl eB)) (wSl (wSl (fun _ => True))) := dec_slice (el := 65) (by kernel_rfl) dec_65 (fun _ => rfl)
theorem ft_61 : fieldTys Try.prog 61 = some [3, 3, 3, 4, 59, 59] := by kernel_rfl
theorem dec_61 : Dec Try.prog 61 eApiTable wApiTable := by
  intro d ts h
  obtain ⟨d, h⟩ := fit_struct ft_61 h
  obtain ⟨a0, _, rfl, h0, a1, _, rfl, h1, a2, _, rfl, h2, a3, _, rfl, h3, a4, _, rfl, h4, a5, _, rfl, h5, rfl⟩ := h
  obtain ⟨x0, rfl, w0⟩ := dec_3 d _ h0
  obtain ⟨x1, rfl, w1⟩ := dec_3 d _ h1
  obtain ⟨x2, rfl, w2⟩ := dec_3 d _ h2
  obtain ⟨x3, rfl, w3⟩ := dec_4 d _ h3
  obtain ⟨x4, rfl, w4⟩ := dec_59 d _ h4
  obtain ⟨x5, rfl, w5⟩ := dec_59 d _ h5
  exact ⟨⟨x0, x1, x2, x3, x4, x5⟩, rfl, w0, w1, w2, w3, w4, w5, trivial⟩
theorem dec_29 : Dec Try.prog 29 (eSl eApiTable) (wSl wApiTable) := dec_slice (el := 61) (by kernel_rfl) dec_61 (fun _ => rfl)
theorem ft_31 : fieldTys Try.prog 31 = some [28, 28, 28, 29] := by kernel_rfl
theorem dec_31 : Dec Try.prog 31 eApiProblem wApiProblem := by
  intro d ts h
  obtain ⟨d, h⟩ := fit_struct ft_31 h
  obtain ⟨a0, _, rfl, h0, a1, _, rfl, h1, a2, _, rfl, h2, a3, _, rfl, h3, rfl⟩ := h
  obtain ⟨x0, rfl, w0⟩ := dec_28 d _ h0
  obtain ⟨x1, rfl, w1⟩ := dec_28 d _ h1
  obtain ⟨x2, rfl, w2⟩ := dec_28 d _ h2
  obtain ⟨x3, rfl, w3⟩ := dec_29 d _ h3
  exact ⟨⟨x0, x1, x2, x3⟩, rfl, w0, w1, w2, w3, trivial⟩
theorem dec_80 : Dec Try.prog 80 eU8 wU8 := dec_int (k := .u8) (by kernel_rfl) (fun _ => rfl)
theorem dec_35 : Dec Try.prog 35 (eSl eU8) (wSl wU8) := dec_slice (el := 80) (by kernel_rfl) dec_80 (fun _ => rfl)
theorem ft_37 : fieldTys Try.prog 37 = some [28, 28, 35] := by kernel_rfl
theorem dec_37 : Dec Try.prog 37 eApiMix wApiMix := by
  intro d ts h
  obtain ⟨d, h⟩ := fit_struct ft_37 h
  obtain ⟨a0, _, rfl, h0, a1, _, rfl, h1, a2, _, rfl, h2, rfl⟩ := h
  obtain ⟨x0, rfl, w0⟩ := dec_28 d _ h0
  obtain ⟨x1, rfl, w1⟩ := dec_28 d _ h1
  obtain ⟨x2, rfl, w2⟩ := dec_35 d _ h2
  exact ⟨⟨x0, x1, x2⟩, rfl, w0, w1, w2, trivial⟩
theorem entry_3 (N d : Nat) (plain : ∀ (x0 : Sheaveref35Draft) (x1 : Sheaveref36Draft), wSheaveref35Draft x0 → wSheaveref36Draft x1 → Sh.sheavelaw36_MixConflicts N x0 x1 = some true) : ∀ Ds, FitArgs Try.prog d [25, 27] Ds → Contract Try.prog 3 Ds [] (.e (.one (.pure (.val (.bool true))))) := by
  intro Ds h
  obtain ⟨u0, Ds0, rfl, f0, g0⟩ := fitArgs_cons h
  obtain ⟨x0, rfl, w0⟩ := dec_25 _ _ f0
  rw [dOf_struct ft_25]
  obtain ⟨u1, Ds1, rfl, f1, g1⟩ := fitArgs_cons g0
  obtain ⟨x1, rfl, w1⟩ := dec_27 _ _ f1
  rw [dOf_struct ft_27]
  obtain rfl := fitArgs_nil g1
  exact sheavelaw36_MixConflicts_c N x0 x1 true (plain x0 x1 w0 w1)
theorem entry_4 (N d : Nat) (plain : ∀ (x0 : Sheaveref35Draft) (x1 : Sheaveref36Draft), wSheaveref35Draft x0 → wSheaveref36Draft x1 → Sh.sheavelaw36_MixAborts N x0 x1 = some true) : ∀ Ds, FitArgs Try.prog d [25, 27] Ds → Contract Try.prog 4 Ds [] (.e (.one (.pure (.val (.bool true))))) := by
  intro Ds h
  obtain ⟨u0, Ds0, rfl, f0, g0⟩ := fitArgs_cons h
  obtain ⟨x0, rfl, w0⟩ := dec_25 _ _ f0
  rw [dOf_struct ft_25]
  obtain ⟨u1, Ds1, rfl, f1, g1⟩ := fitArgs_cons g0
  obtain ⟨x1, rfl, w1⟩ := dec_27 _ _ f1
  rw [dOf_struct ft_27]
  obtain rfl := fitArgs_nil g1
  exact sheavelaw36_MixAborts_c N x0 x1 true (plain x0 x1 w0 w1)
theorem entry_5 (N d : Nat) (plain : ∀ (x0 : Sheaveref35Draft) (x1 : Sheaveref36Draft), wSheaveref35Draft x0 → wSheaveref36Draft x1 → Sh.sheavelaw36_MixAborted N x0 x1 = some true) : ∀ Ds, FitArgs Try.prog d [25, 27] Ds → Contract Try.prog 5 Ds [] (.e (.one (.pure (.val (.bool true))))) := by
  intro Ds h
  obtain ⟨u0, Ds0, rfl, f0, g0⟩ := fitArgs_cons h
  obtain ⟨x0, rfl, w0⟩ := dec_25 _ _ f0
  rw [dOf_struct ft_25]
  obtain ⟨u1, Ds1, rfl, f1, g1⟩ := fitArgs_cons g0
  obtain ⟨x1, rfl, w1⟩ := dec_27 _ _ f1
  rw [dOf_struct ft_27]
  obtain rfl := fitArgs_nil g1
  exact sheavelaw36_MixAborted_c N x0 x1 true (plain x0 x1 w0 w1)
theorem entry_7 (N d : Nat) (plain : ∀ (x0 : ApiProblem) (x1 : ApiMix), wApiProblem x0 → wApiMix x1 → Sh.sheavelaw36_MixValid N x0 x1 = some true) : ∀ Ds, FitArgs Try.prog d [31, 37] Ds → Contract Try.prog 7 Ds [] (.e (.one (.pure (.val (.bool true))))) := by
  intro Ds h
  obtain ⟨u0, Ds0, rfl, f0, g0⟩ := fitArgs_cons h
  obtain ⟨x0, rfl, w0⟩ := dec_31 _ _ f0
  rw [dOf_struct ft_31]
  obtain ⟨u1, Ds1, rfl, f1, g1⟩ := fitArgs_cons g0
  obtain ⟨x1, rfl, w1⟩ := dec_37 _ _ f1
  rw [dOf_struct ft_37]
  obtain rfl := fitArgs_nil g1
  exact sheavelaw36_MixValid_c N x0 x1 true (plain x0 x1 w0 w1)
theorem entry_8 (N d : Nat) (plain : ∀ (x0 : Sheaveref35Draft) (x1 : Sheaveref36Draft), wSheaveref35Draft x0 → wSheaveref36Draft x1 → Sh.sheavelaw36_MixGoal N x0 x1 = some true) : ∀ Ds, FitArgs Try.prog d [25, 27] Ds → Contract Try.prog 8 Ds [] (.e (.one (.pure (.val (.bool true))))) := by
  intro Ds h
  obtain ⟨u0, Ds0, rfl, f0, g0⟩ := fitArgs_cons h
  obtain ⟨x0, rfl, w0⟩ := dec_25 _ _ f0
  rw [dOf_struct ft_25]
  obtain ⟨u1, Ds1, rfl, f1, g1⟩ := fitArgs_cons g0
  obtain ⟨x1, rfl, w1⟩ := dec_27 _ _ f1
  rw [dOf_struct ft_27]
  obtain rfl := fitArgs_nil g1
  exact sheavelaw36_MixGoal_c N x0 x1 true (plain x0 x1 w0 w1)
theorem entry_9 (N d : Nat) (plain : ∀ (x0 : ApiMix) (x1 : ApiMix) (x2 : ApiMix), wApiMix x0 → wApiMix x1 → wApiMix x2 → Sh.sheavelaw36_MixCompare N x0 x1 x2 = some true) : ∀ Ds, FitArgs Try.prog d [37, 37, 37] Ds → Contract Try.prog 9 Ds [] (.e (.one (.pure (.val (.bool true))))) := by
  intro Ds h
  obtain ⟨u0, Ds0, rfl, f0, g0⟩ := fitArgs_cons h
  obtain ⟨x0, rfl, w0⟩ := dec_37 _ _ f0
  rw [dOf_struct ft_37]
  obtain ⟨u1, Ds1, rfl, f1, g1⟩ := fitArgs_cons g0
  obtain ⟨x1, rfl, w1⟩ := dec_37 _ _ f1
  rw [dOf_struct ft_37]
  obtain ⟨u2, Ds2, rfl, f2, g2⟩ := fitArgs_cons g1
  obtain ⟨x2, rfl, w2⟩ := dec_37 _ _ f2
  rw [dOf_struct ft_37]
  obtain rfl := fitArgs_nil g2
  exact sheavelaw36_MixCompare_c N x0 x1 x2 true (plain x0 x1 x2 w0 w1 w2)
end Go.Lift
