/- Lemmas for MixValidSaid, which YtmmkocokfdheiaaFin7 proves. -/
/- The test of a mix: both implementations give one answer. -/
import Derived.Test.YtmmkocokfdheiaaPlain8
namespace Go.Lift

def runM (m : ApiMix) (s : Nat) : Int :=
  if 0 ≤ m.fNext.getD s 0 then orI .u8 (shlI .u8 1 (m.fBase.getD s 0)) (shlI .u8 1 (m.fNext.getD s 0)) else shlI .u8 1 (m.fBase.getD s 0)
def mixE (m : ApiMix) (i : Nat) (v : Int) : Option Int :=
  if m.fBase.getD i 0 < 0 ∨ v ≤ m.fBase.getD i 0 ∨ m.fNext.getD i 0 < -1 ∨ v ≤ m.fNext.getD i 0 then some 7
  else if m.fBase.getD i 0 = m.fNext.getD i 0 then some 1 else none
def storedB (t : ApiTable) : Bool := t.fKind == 3 || t.fKind == 4
def allM (p : ApiProblem) (t : ApiTable) : Int := IntKind.wrap .u8 (shlI .u8 1 (p.fVersions.getD t.fFrom.toNat 0) - 1)
def heldE (p : ApiProblem) (m : ApiMix) (i : Nat) (t : ApiTable) : Option Int :=
  if storedB t = true then (if andNotI .u8 (runM m t.fFrom.toNat) (m.fHeld.getD i 0) ≠ 0 ∨ andNotI .u8 (m.fHeld.getD i 0) (allM p t) ≠ 0 then some 1 else none)
  else if m.fHeld.getD i 0 ≠ 0 then some 1 else none
def validM (p : ApiProblem) (m : ApiMix) : Int :=
  if validP p ≠ 0 then validP p
  else if m.fBase.length ≠ p.fVersions.length ∨ m.fNext.length ≠ p.fVersions.length ∨ m.fHeld.length ≠ p.fTables.length then 6
  else (orElse (scan (mixE m) 0 p.fVersions) (scan (heldE p m) 0 p.fTables)).getD 0

theorem tab_in {p : ApiProblem} {t : ApiTable} (h : tableE p t = 0) : 0 ≤ t.fFrom ∧ t.fFrom < (p.fVersions.length : Int) ∧ 0 ≤ t.fTo ∧ t.fTo < (p.fVersions.length : Int) := by
  unfold tableE at h
  split at h
  · cases h
  · split at h
    · cases h
    · omega

theorem mix_run_eq (N : Nat) (m : ApiMix) (s : Int) (h0 : 0 ≤ s) (h1 : s < (m.fBase.length : Int)) (h2 : s < (m.fNext.length : Int)) (hb : 0 ≤ m.fBase.getD s.toNat 0) : Sh.mix_running N m s = some (runM m s.toNat) := by
  unfold Sh.mix_running runM
  rw [idx_in (d := 0) h0 h1, idx_in (d := 0) h0 h2]
  simp only [Option.bind_some, join]
  rw [show chk (0 ≤ m.fBase.getD s.toNat 0) = some () from by unfold chk; rw [if_pos hb]]
  simp only [Option.bind_some]
  by_cases h : 0 ≤ m.fNext.getD s.toNat 0
  · rw [cnd_pos h, if_pos h, show chk (0 ≤ m.fNext.getD s.toNat 0) = some () from by unfold chk; rw [if_pos h]]; rfl
  · rw [cnd_neg h, if_neg h]
theorem ref_run_eq (N : Nat) (m : ApiMix) (s : Int) (h0 : 0 ≤ s) (h1 : s < (m.fBase.length : Int)) (h2 : s < (m.fNext.length : Int)) (hb : 0 ≤ m.fBase.getD s.toNat 0) : Sh.sheaveref36_Running N m s = some (runM m s.toNat) := by
  unfold Sh.sheaveref36_Running runM
  rw [idx_in (d := 0) h0 h1, idx_in (d := 0) h0 h2]
  simp only [Option.bind_some, join]
  rw [show chk (0 ≤ m.fBase.getD s.toNat 0) = some () from by unfold chk; rw [if_pos hb]]
  simp only [Option.bind_some]
  by_cases h : 0 ≤ m.fNext.getD s.toNat 0
  · rw [cnd_pos h, if_pos h, show chk (0 ≤ m.fNext.getD s.toNat 0) = some () from by unfold chk; rw [if_pos h]]; rfl
  · rw [cnd_neg h, if_neg h]

theorem mix_services (N : Nat) (p : ApiProblem) (m : ApiMix) (hN : N ≤ 1000000) (h1 : p.fVersions.length < N) (h2 : m.fBase.length = p.fVersions.length) (h3 : m.fNext.length = p.fVersions.length) (j : Option Int) :
    Sh.mix_Valid_L7 N p m (fun _ => j) N 0 = orElse (scan (mixE m) 0 p.fVersions) j := by
  have := loop_scan (Sh.mix_Valid_L7 N p m (fun _ => j)) p.fVersions j (mixE m)
    (fun n i x hx => by
      have hi := (List.getElem?_eq_some_iff.1 hx).1
      rw [Sh.mix_Valid_L7, cnd_pos (by omega), idx_nat, hx]
      simp only [Option.bind_some, join]
      rw [idx_lt (d := 0) (by omega), idx_lt (d := 0) (by omega), wrap_succ (by omega)]
      simp only [Option.bind_some]
      unfold mixE
      generalize m.fBase.getD i 0 = a
      generalize m.fNext.getD i 0 = b
      by_cases k7 : a = b
      · subst k7
        by_cases k3 : a < 0 <;> by_cases k4 : x ≤ a <;> by_cases k5 : a < -1 <;> simp [k3, k4, k5, orElse]
      · have k8 : (a == b) = false := beq_eq_false_iff_ne.2 k7
        by_cases k3 : a < 0 <;> by_cases k4 : x ≤ a <;> by_cases k5 : b < -1 <;> by_cases k6 : x ≤ b <;> simp [k3, k4, k5, k6, k7, k8, orElse])
    (fun n => by rw [Sh.mix_Valid_L7, cnd_neg (by omega)]) N 0 (by omega) (by omega)
  simpa using this
theorem ref_services (N : Nat) (p : ApiProblem) (m : ApiMix) (hN : N ≤ 1000000) (h1 : p.fVersions.length < N) (h2 : m.fBase.length = p.fVersions.length) (h3 : m.fNext.length = p.fVersions.length) (j : Option Int) :
    Sh.sheaveref36_Valid_L7 N p m (fun _ => j) N 0 = orElse (scan (mixE m) 0 p.fVersions) j := by
  have := loop_scan (Sh.sheaveref36_Valid_L7 N p m (fun _ => j)) p.fVersions j (mixE m)
    (fun n i x hx => by
      have hi := (List.getElem?_eq_some_iff.1 hx).1
      rw [Sh.sheaveref36_Valid_L7, cnd_pos (by omega), show idx p.fVersions (i : Int) = some x from by rw [idx_nat, hx]]
      simp only [Option.bind_some, join]
      rw [idx_lt (d := 0) (by omega), idx_lt (d := 0) (by omega), wrap_succ (by omega)]
      simp only [Option.bind_some]
      unfold mixE
      generalize m.fBase.getD i 0 = a
      generalize m.fNext.getD i 0 = b
      by_cases k7 : a = b
      · subst k7
        by_cases k3 : a < 0 <;> by_cases k4 : x ≤ a <;> by_cases k5 : a < -1 <;> simp [k3, k4, k5, orElse]
      · have k8 : (a == b) = false := beq_eq_false_iff_ne.2 k7
        by_cases k3 : a < 0 <;> by_cases k4 : x ≤ a <;> by_cases k5 : b < -1 <;> by_cases k6 : x ≤ b <;> simp [k3, k4, k5, k6, k7, k8, orElse])
    (fun n => by rw [Sh.sheaveref36_Valid_L7, cnd_neg (by omega)]) N 0 (by omega) (by omega)
  simpa using this
end Go.Lift
