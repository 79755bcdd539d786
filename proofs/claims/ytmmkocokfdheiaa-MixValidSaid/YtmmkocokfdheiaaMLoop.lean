/- Lemmas for MixValidSaid, which YtmmkocokfdheiaaFin7 proves. -/
/- Loops of the shallow programs as folds along lists. -/
import Derived.Test.YtmmkocokfdheiaaPlain10
namespace Go.Lift

@[simp] theorem join_eq {α β : Type} (k : α) (f : α → β) : join k f = f k := rfl
@[simp] theorem chk_true {p : Prop} [Decidable p] (h : p) : chk p = some () := by unfold chk; rw [if_pos h]
theorem chk_bind_true {β : Type} {p : Prop} [Decidable p] (h : p) (f : Unit → Option β) : (chk p).bind f = f () := by rw [chk_true h]; rfl
theorem cnd_ite {α : Type} (b : Bool) (x y : Option α) : cnd b x y = if b = true then x else y := by cases b <;> rfl
theorem bind_if {α β : Type} {p : Prop} [Decidable p] (x y : Option α) (f : α → Option β) : (if p then x else y).bind f = if p then x.bind f else y.bind f := by split <;> rfl

/-- The parts along a list, with their places. -/
def flatI {α β : Type} (g : Nat → α → List β) : Nat → List α → List β
  | _, [] => []
  | i, x :: xs => g i x ++ flatI g (i + 1) xs
/-- A fold along a list, with the places. -/
def foldI {α A : Type} (f : Nat → α → A → A) : Nat → List α → A → A
  | _, [], a => a
  | i, x :: xs, a => foldI f (i + 1) xs (f i x a)

theorem flatI_append {α β : Type} (g : Nat → α → List β) : ∀ (i : Nat) (xs ys : List α), flatI g i (xs ++ ys) = flatI g i xs ++ flatI g (i + xs.length) ys
  | i, [], ys => by simp [flatI]
  | i, x :: xs, ys => by
    rw [List.cons_append, flatI, flatI, flatI_append g (i + 1) xs ys, List.append_assoc, List.length_cons, Nat.add_assoc, Nat.add_comm 1]
theorem flatI_congr {α β : Type} {g h : Nat → α → List β} : ∀ {i : Nat} {xs : List α}, (∀ j x, xs[j]? = some x → g (i + j) x = h (i + j) x) → flatI g i xs = flatI h i xs
  | _, [], _ => rfl
  | i, x :: xs, hh => by
    rw [flatI, flatI, show g i x = h i x from hh 0 x rfl]
    exact congrArg _ (flatI_congr fun j y hy => by have := hh (j + 1) y (by simpa using hy); rwa [show i + (j + 1) = i + 1 + j from by omega] at this)
theorem mem_flatI {α β : Type} {g : Nat → α → List β} {y : β} : ∀ {i : Nat} {xs : List α}, y ∈ flatI g i xs ↔ ∃ j x, xs[j]? = some x ∧ y ∈ g (i + j) x
  | _, [] => by simp [flatI]
  | i, x :: xs => by
    rw [flatI, List.mem_append, mem_flatI]
    constructor
    · rintro (h | ⟨j, z, hz, h⟩)
      · exact ⟨0, x, rfl, h⟩
      · exact ⟨j + 1, z, by simpa using hz, by rwa [show i + (j + 1) = i + 1 + j from by omega]⟩
    · rintro ⟨j, z, hz, h⟩
      cases j with
      | zero => simp at hz; subst hz; exact .inl h
      | succ j => exact .inr ⟨j, z, by simpa using hz, by rwa [show i + 1 + j = i + (j + 1) from by omega]⟩
theorem flatI_nil_iff {α β : Type} {g : Nat → α → List β} {i : Nat} {xs : List α} : flatI g i xs = [] ↔ ∀ j x, xs[j]? = some x → g (i + j) x = [] := by
  rw [List.eq_nil_iff_forall_not_mem]
  constructor
  · intro h j x hx
    rw [List.eq_nil_iff_forall_not_mem]
    exact fun y hy => h y (mem_flatI.2 ⟨j, x, hx, hy⟩)
  · intro h y hy
    obtain ⟨j, x, hx, hm⟩ := mem_flatI.1 hy
    rw [h j x hx] at hm; cases hm
theorem flatI_len {α β : Type} {g : Nat → α → List β} {c : Nat} : ∀ {i : Nat} {xs : List α}, (∀ j x, xs[j]? = some x → (g (i + j) x).length ≤ c) → (flatI g i xs).length ≤ c * xs.length
  | _, [], _ => by simp [flatI]
  | i, x :: xs, h => by
    have h1 := h 0 x rfl
    have h2 := flatI_len (g := g) (c := c) (i := i + 1) (xs := xs) fun j y hy => by
      have := h (j + 1) y (by simpa using hy)
      rwa [show i + (j + 1) = i + 1 + j from by omega] at this
    rw [flatI, List.length_append, List.length_cons, Nat.mul_add]
    simp only [Nat.add_zero] at h1
    omega

theorem loop_fold {α A S R : Type} (L : Nat → S → Option R) (mk : A → Int → S) (xs : List α) (j : A → Option R) (f : Nat → α → A → A) (I : Nat → A → Prop)
    (hs : ∀ (n i : Nat) (x : α) (a : A), xs[i]? = some x → I i a → L (n + 1) (mk a (i : Int)) = L n (mk (f i x a) ((i + 1 : Nat) : Int)) ∧ I (i + 1) (f i x a))
    (he : ∀ (n : Nat) (a : A), I xs.length a → L (n + 1) (mk a (xs.length : Int)) = j a) :
    ∀ (n i : Nat) (a : A), i ≤ xs.length → xs.length - i < n → I i a → L n (mk a (i : Int)) = j (foldI f i (xs.drop i) a) ∧ I xs.length (foldI f i (xs.drop i) a)
  | 0, i, _, _, h, _ => by omega
  | n + 1, i, a, hi, h, ha => by
    by_cases h1 : i < xs.length
    · have hx : xs[i]? = some xs[i] := by simp [h1]
      obtain ⟨e1, e2⟩ := hs n i _ a hx ha
      rw [e1, drop_cons hx, foldI]
      exact loop_fold L mk xs j f I hs he n (i + 1) _ (by omega) (by omega) e2
    · have : i = xs.length := by omega
      subst this
      rw [List.drop_eq_nil_of_le (Nat.le_refl _), foldI]
      exact ⟨he n a ha, ha⟩

theorem foldI_flat {α β : Type} (g : Nat → α → List β) : ∀ (i : Nat) (xs : List α) (acc : List β), foldI (fun i x a => a ++ g i x) i xs acc = acc ++ flatI g i xs
  | _, [], acc => by simp [foldI, flatI]
  | i, x :: xs, acc => by rw [foldI, foldI_flat g (i + 1) xs, flatI, List.append_assoc]

/-- A loop that appends parts. -/
theorem loop_flat {α β S R : Type} (L : Nat → S → Option R) (mk : List β → Int → S) (xs : List α) (j : List β → Option R) (g : Nat → α → List β) (c B : Nat)
    (hg : ∀ i x, xs[i]? = some x → (g i x).length ≤ c)
    (hs : ∀ (n i : Nat) (x : α) (a : List β), xs[i]? = some x → a.length + (g i x).length ≤ B → L (n + 1) (mk a (i : Int)) = L n (mk (a ++ g i x) ((i + 1 : Nat) : Int)))
    (he : ∀ (n : Nat) (a : List β), L (n + 1) (mk a (xs.length : Int)) = j a) (n : Nat) (a : List β) (hn : xs.length < n) (ha : a.length + c * xs.length ≤ B) :
    L n (mk a 0) = j (a ++ flatI g 0 xs) := by
  have := loop_fold L mk xs j (fun i x a => a ++ g i x) (fun i b => i ≤ xs.length ∧ b.length ≤ a.length + c * i)
    (fun n i x b hx hb => by
      have h1 := hg i x hx
      have hi := (List.getElem?_eq_some_iff.1 hx).1
      have h2 : c * (i + 1) ≤ c * xs.length := Nat.mul_le_mul_left c hi
      have h3 : c * (i + 1) = c * i + c := Nat.mul_succ c i
      refine ⟨hs n i x b hx (by have := hb.2; omega), hi, ?_⟩
      rw [List.length_append]
      have := hb.2
      omega)
    (fun n b _ => he n b) n 0 a (Nat.zero_le _) (by omega) ⟨Nat.zero_le _, by omega⟩
  have h2 := this.1
  rw [List.drop_zero, foldI_flat] at h2
  exact h2
end Go.Lift
