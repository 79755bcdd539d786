/- Lemmas for MixStartSaid, which YtmmkocokfdheiaaFin10 proves. -/
/- The laws of the mixes in plain words: MixConflicts, MixAborts, MixAborted, MixGoal, MixValid. -/
import Derived.Test.YtmmkocokfdheiaaMAbort2
namespace Go.Lift
theorem ref_cmp_gen {N : Nat} {a b : ApiMix} (hN : N ≤ 1000000) (h1 : a.fBase.length < N) (h2 : a.fNext.length < N) (h3 : a.fHeld.length < N) (h4 : b.fHeld.length < N) (wa : wSl wU8 a.fHeld) (wb : wSl wU8 b.fHeld) : Sh.sheaveref36_Compare N a b = some (cmpM a b) := by
  unfold Sh.sheaveref36_Compare
  rw [ref_ints h1 hN, ref_ints h2 hN, ref_numbers h3 hN wa, ref_numbers h4 hN wb]
  simp only [Option.bind_some]
  rw [ref_ints h3 hN]
  unfold cmpM orF
  by_cases h1 : cmpL a.fBase b.fBase = 0
  · simp only [h1, orF]
    by_cases h2 : cmpL a.fNext b.fNext = 0
    · simp only [h2]
      by_cases h3 : cmpL a.fHeld b.fHeld = 0 <;> simp [h3]
    · have : (cmpL a.fNext b.fNext != 0) = true := by simpa using h2
      simp [h2, this]
  · have : (cmpL a.fBase b.fBase != 0) = true := by simpa using h1
    simp [h1, this]
theorem ref_eq_self {N : Nat} {a : ApiMix} (hN : N ≤ 1000000) (h1 : a.fBase.length < N) (h2 : a.fNext.length < N) (h3 : a.fHeld.length < N) (wa : wSl wU8 a.fHeld) : Sh.sheaveref36_Equal N a a = some true := by
  unfold Sh.sheaveref36_Equal
  rw [ref_cmp_gen hN h1 h2 h3 h3 wa wa, cmpM_self]; rfl
theorem ref_eq_ok {N : Nat} {p : ApiProblem} {a : ApiMix} (hN : N ≤ 1000000) (h20 : 100 ≤ N) (hp : ProbOk p) (ha : MixOk p a) : Sh.sheaveref36_Equal N a a = some true := by
  have := hp.nv
  have := hp.nt
  exact ref_eq_self hN (by rw [ha.base]; omega) (by rw [ha.next]; omega) (by rw [ha.held]; omega) (ok_u8 ha)
end Go.Lift
