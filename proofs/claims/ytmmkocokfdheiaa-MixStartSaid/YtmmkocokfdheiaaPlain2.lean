/- Lemmas for MixStartSaid, which YtmmkocokfdheiaaFin10 proves. -/
/- MixCompare: the order on mixes. -/
import Derived.Test.YtmmkocokfdheiaaPlain1
namespace Go.Lift
theorem cmpL_self : ∀ a : List Int, cmpL a a = 0
  | [] => rfl
  | a :: as => by simp [cmpL, cmpL_self as]
def orF : List Int → Int
  | [] => 0
  | x :: xs => if x = 0 then orF xs else x
theorem numL (N : Nat) (a : List Int) (hb : a.length < 1000000) (hw : wSl wU8 a) : ∀ (n i : Nat), i ≤ a.length → a.length - i < n →
    Sh.sheaveref36_numbers_L1 N a (fun v => some v) n (a.take i, (i : Int)) = some a
  | 0, i, _, h => by omega
  | n + 1, i, hi, h => by
    unfold Sh.sheaveref36_numbers_L1
    by_cases h1 : i < a.length
    · have ha : a[i]? = some a[i] := by simp [h1]
      rw [cnd_pos (by simpa using h1)]
      simp only
      rw [idx_nat, ha]
      have hr : IntKind.wrap .i64 a[i] = a[i] := by
        have := hw a[i] (List.getElem_mem h1)
        unfold wU8 at this
        have h2 : 0 ≤ a[i] ∧ a[i] ≤ 255 := by simpa [Lit.wf, IntKind.min, IntKind.max, IntKind.signed, IntKind.bits] using this
        exact wrap_small (by omega) (by omega)
      simp only [Option.bind_some, hr]
      have hlen : (a.take i).length + ([a[i]] : List Int).length ≤ lim := by
        simp [lim]; omega
      rw [show chk ((a.take i).length + ([a[i]] : List Int).length ≤ lim) = some () from by unfold chk; rw [if_pos hlen]]
      simp only [Option.bind_some]
      rw [wrap_succ (by omega), show a.take i ++ [a[i]] = a.take (i + 1) from by rw [List.take_add_one, ha]; rfl]
      exact numL N a hb hw n (i + 1) (by omega) (by omega)
    · rw [cnd_neg (by simpa using h1)]
      simp only
      rw [List.take_of_length_le (by omega)]
theorem ref_numbers {N : Nat} {a : List Int} (h : a.length < N) (hN : N ≤ 1000000) (hw : wSl wU8 a) : Sh.sheaveref36_numbers N a = some a := by
  have := numL N a (by omega) hw N 0 (by omega) (by omega)
  simpa [Sh.sheaveref36_numbers] using this
def cmpM (a b : ApiMix) : Int := orF [cmpL a.fBase b.fBase, cmpL a.fNext b.fNext, cmpL a.fHeld b.fHeld]
theorem cmpM_self (a : ApiMix) : cmpM a a = 0 := by unfold cmpM; simp [cmpL_self, orF]
end Go.Lift
