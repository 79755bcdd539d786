/- Lemmas for MixValidSaid, which YtmmkocokfdheiaaFin7 proves. -/
/- The tests of a table and of a problem: both implementations give one answer. -/
import Derived.Test.YtmmkocokfdheiaaPlain4
namespace Go.Lift

theorem scan_congr {α R : Type} {f g : Nat → α → Option R} : ∀ (i : Nat) (xs : List α), (∀ j x, xs[j]? = some x → f (i + j) x = g (i + j) x) → scan f i xs = scan g i xs
  | i, [], _ => rfl
  | i, x :: xs, h => by
    have e1 := scan_congr (f := f) (g := g) (i + 1) xs (fun j y hy => by
      have := h (j + 1) y (by simpa using hy)
      rwa [show i + (j + 1) = i + 1 + j from by omega] at this)
    have e2 := h 0 x rfl
    rw [Nat.add_zero] at e2
    rw [scan_cons, scan_cons, e1, e2]

/-- At which place a row of the wrong length lies. -/
theorem matrix_eq (N : Nat) (l : List (List Bool)) (n m : Int) (h : n < (N : Int)) (hN : N ≤ 1000000) : Sh.fleet_matrix N l n m = some (sq l n m) := by
  unfold Sh.fleet_matrix sq
  simp only [join]
  by_cases h1 : (l.length : Int) = n
  · subst h1
    simp only [beq_self_eq_true, cnd_true, decide_true, Bool.true_and]
    have := loop_scan (Sh.slices_IndexFunc_bool_bool_L1 N l (fun x => Sh.fleet_matrix_1 N x m) (fun _ => some (-1))) l (some (-1)) (fun i r => if decide ((r.length : Int) = m) then none else some (i : Int))
      (fun n i x hx => by
        have hi := (List.getElem?_eq_some_iff.1 hx).1
        rw [Sh.slices_IndexFunc_bool_bool_L1, cnd_pos (by omega), idx_nat, hx]
        simp only [Option.bind_some, Sh.fleet_matrix_1]
        rw [wrap_succ (by omega)]
        by_cases h2 : (x.length : Int) = m
        · simp [h2, orElse]
        · have : ((x.length : Int) != m) = true := by simpa using h2
          simp [h2, this, orElse])
      (fun n => by rw [Sh.slices_IndexFunc_bool_bool_L1, cnd_neg (by omega)]) N 0 (by omega) (by omega)
    simp only [Int.ofNat_zero, List.drop_zero] at this
    unfold Sh.slices_ContainsFunc_bool_bool Sh.slices_IndexFunc_bool_bool
    rw [this]
    have h3 := scan_all (fun r : List Bool => decide ((r.length : Int) = m)) (fun i : Nat => (i : Int)) 0 l
    cases hsc : scan (fun (i : Nat) (r : List Bool) => if decide ((r.length : Int) = m) = true then none else some (i : Int)) 0 l with
    | none => rw [hsc] at h3; rw [← h3]; rfl
    | some b =>
      rw [hsc] at h3
      rw [← h3]
      have : ∀ (i : Nat) (xs : List (List Bool)) b, scan (fun (i : Nat) (r : List Bool) => if decide ((r.length : Int) = m) = true then none else some (i : Int)) i xs = some b → 0 ≤ b := by
        intro i xs
        induction xs generalizing i with
        | nil => intro b hb; cases hb
        | cons x xs ih =>
          intro b hb
          rw [scan_cons] at hb
          split at hb
          · rename_i r hr
            cases hb
            split at hr
            · cases hr
            · cases hr; omega
          · exact ih _ b hb
      have := this 0 l b hsc
      simp [orElse, this]
  · have : ((l.length : Int) == n) = false := by simpa using h1
    simp [this, h1]
end Go.Lift
