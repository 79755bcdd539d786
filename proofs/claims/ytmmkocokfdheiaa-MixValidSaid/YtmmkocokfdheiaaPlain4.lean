/- Lemmas for MixValidSaid, which YtmmkocokfdheiaaFin7 proves. -/
/- Search loops in plain words; the two tests of a problem give the same answer. -/
import Derived.Test.YtmmkocokfdheiaaPlain1
namespace Go.Lift

/-- The first answer along a list. -/
def scan {α R : Type} (f : Nat → α → Option R) : Nat → List α → Option R
  | _, [] => none
  | i, x :: xs => match f i x with
    | some r => some r
    | none => scan f (i + 1) xs

theorem scan_cons {α R : Type} (f : Nat → α → Option R) (i : Nat) (x : α) (xs : List α) : scan f i (x :: xs) = match f i x with
    | some r => some r
    | none => scan f (i + 1) xs := rfl

def orElse {R : Type} (a : Option R) (b : Option R) : Option R := match a with
  | some r => some r
  | none => b

theorem loop_scan {α R : Type} (L : Nat → Int → Option R) (xs : List α) (j : Option R) (f : Nat → α → Option R)
    (hs : ∀ (n i : Nat) (x : α), xs[i]? = some x → L (n + 1) (i : Int) = orElse (f i x) (L n ((i + 1 : Nat) : Int))) (he : ∀ n : Nat, L (n + 1) (xs.length : Int) = j) :
    ∀ n i : Nat, i ≤ xs.length → xs.length - i < n → L n (i : Int) = orElse (scan f i (xs.drop i)) j
  | 0, i, _, h => by omega
  | n + 1, i, hi, h => by
    by_cases h1 : i < xs.length
    · have hx : xs[i]? = some xs[i] := by simp [h1]
      rw [hs n i _ hx, drop_cons hx, loop_scan L xs j f hs he n (i + 1) (by omega) (by omega)]
      rw [scan_cons]
      cases f i xs[i] <;> rfl
    · have : i = xs.length := by omega
      subst this
      rw [he n, List.drop_eq_nil_of_le (Nat.le_refl _)]
      rfl

theorem within_eq (N : Nat) (k n : Int) : Sh.fleet_within N k n = some (decide (0 ≤ k) && decide (k < n)) := by
  unfold Sh.fleet_within
  simp only [join]
  by_cases h : 0 ≤ k
  · rw [cnd_pos h]; simp [h]
  · rw [cnd_neg h]; simp [h]
theorem stored_eq (N : Nat) (t : ApiTable) : Sh.sheaveref35_Stored N t = some (t.fKind == 3 || t.fKind == 4) := by
  unfold Sh.sheaveref35_Stored
  simp only [join]
  cases h : t.fKind == 3 <;> simp

def sq (l : List (List Bool)) (n m : Int) : Bool := decide ((l.length : Int) = n) && l.all fun r => decide ((r.length : Int) = m)

theorem scan_all {α : Type} (p : α → Bool) {R : Type} (r : Nat → R) : ∀ (i : Nat) (xs : List α), (scan (fun i x => if p x then none else some (r i)) i xs).isNone = xs.all p
  | i, [] => rfl
  | i, x :: xs => by
    unfold scan
    cases h : p x <;> simp [h, scan_all p r (i + 1) xs]

theorem square_eq (N : Nat) (l : List (List Bool)) (n m : Int) (h : n < (N : Int)) (hN : N ≤ 1000000) : Sh.sheaveref35_square N l n m = some (sq l n m) := by
  unfold Sh.sheaveref35_square sq
  by_cases h1 : (l.length : Int) = n
  · subst h1
    simp only [bne_self_eq_false, cnd_false, decide_true, Bool.true_and]
    have := loop_scan (Sh.sheaveref35_square_L2 N l (l.length : Int) m (fun _ => some true)) l (some true) (fun _ r => if decide ((r.length : Int) = m) then none else some false)
      (fun n i x hx => by
        have hi := (List.getElem?_eq_some_iff.1 hx).1
        rw [Sh.sheaveref35_square_L2, cnd_pos (by omega), idx_nat, hx]
        simp only [Option.bind_some]
        rw [wrap_succ (by omega)]
        by_cases h2 : (x.length : Int) = m
        · simp [h2, orElse]
        · have : ((x.length : Int) != m) = true := by simpa using h2
          simp [h2, this, orElse])
      (fun n => by rw [Sh.sheaveref35_square_L2, cnd_neg (by omega)]) N 0 (by omega) (by omega)
    simp only [Int.ofNat_zero, List.drop_zero] at this
    rw [this]
    have h3 := scan_all (fun r : List Bool => decide ((r.length : Int) = m)) (fun _ => false) 0 l
    cases hsc : scan (fun (_ : Nat) (r : List Bool) => if decide ((r.length : Int) = m) = true then none else some false) 0 l with
    | none => rw [hsc] at h3; rw [← h3]; rfl
    | some b =>
      rw [hsc] at h3
      rw [← h3]
      have : ∀ (i : Nat) (xs : List (List Bool)) b, scan (fun (_ : Nat) (r : List Bool) => if decide ((r.length : Int) = m) = true then none else some false) i xs = some b → b = false := by
        intro i xs
        induction xs generalizing i with
        | nil => intro b hb; cases hb
        | cons x xs ih =>
          intro b hb
          unfold scan at hb
          split at hb
          · rename_i r hr; cases hb; split at hr <;> simp at hr; exact hr
          · exact ih _ b hb
      rw [this 0 l b hsc]; rfl
  · have : ((l.length : Int) != n) = true := by simpa using h1
    simp [this, h1]
end Go.Lift
