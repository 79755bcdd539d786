/- Lemmas for MixStartSaid, which YtmmkocokfdheiaaFin10 proves. -/
/- Aborts, the first mix that is to blame, and robustness: both implementations give one answer. -/
import Derived.Test.YtmmkocokfdheiaaMAbort
namespace Go.Lift
theorem ok_u8 {p : ApiProblem} {m : ApiMix} (hm : MixOk p m) : wSl wU8 m.fHeld := by
  intro x hx
  obtain ⟨q, hq⟩ := List.mem_iff_getElem?.1 hx
  have h1 := (List.getElem?_eq_some_iff.1 hq).1
  have := hm.range q (by rw [← hm.held]; exact h1)
  rw [List.getD_eq_getElem?_getD, hq] at this
  unfold wU8
  simp only [Option.getD_some] at this
  simp [Lit.wf, IntKind.min, IntKind.max, IntKind.signed, IntKind.bits]
  omega
end Go.Lift
