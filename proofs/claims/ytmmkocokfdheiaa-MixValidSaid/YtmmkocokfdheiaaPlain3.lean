/- Lemmas for MixValidSaid, which YtmmkocokfdheiaaFin7 proves. -/
/- The law MixCompare in plain words. -/
import Derived.Test.YtmmkocokfdheiaaPlain2
import Derived.KernelRfl
namespace Go.Lift
theorem awake_true : Sh.sheavelaw36_awake 1000 = some true := by kernel_rfl

theorem mixCompare_plain (x0 x1 x2 : ApiMix) (w0 : wApiMix x0) (w1 : wApiMix x1) (_ : wApiMix x2) : Sh.sheavelaw36_MixCompare 1000 x0 x1 x2 = some true := by
  unfold Sh.sheavelaw36_MixCompare
  simp only [join, awake_true, Option.bind_some, Bool.not_true, cnd_false]
  obtain ⟨b0, e0, f0⟩ := ref_few 1000 x0
  obtain ⟨b1, e1, f1⟩ := ref_few 1000 x1
  obtain ⟨b2, e2, f2⟩ := ref_few 1000 x2
  rw [e0, e1, e2]
  simp only [Option.bind_some]
  cases b0
  · rfl
  cases b1
  · rfl
  cases b2
  · rfl
  have f0 := f0 rfl
  have f1 := f1 rfl
  simp only [Bool.not_true, cnd_false]
  rw [mix_cmp f0, mix_cmp f1, mix_cmp f0, ref_cmp f0 f1 w0 w1, mix_cmp f1, mix_cmp f0]
  simp only [Option.bind_some, cmpM_self, cmpM_anti x0 x1]
  have hr := cmpM_range x0 x1
  rw [wrap_small (by omega) (by omega)]
  have hle := cmpM_le x0 x1 x2
  simp only [beq_self_eq_true, cnd_true, show (0 - cmpM x0 x1) = - cmpM x0 x1 from by omega]
  by_cases h1 : 0 < cmpM x0 x1
  · rw [cnd_pos h1]
  · rw [cnd_neg h1]
    by_cases h2 : 0 < cmpM x1 x2
    · rw [cnd_pos h2]
    · rw [cnd_neg h2]
      have := hle (by omega) (by omega)
      simp [this]
end Go.Lift
