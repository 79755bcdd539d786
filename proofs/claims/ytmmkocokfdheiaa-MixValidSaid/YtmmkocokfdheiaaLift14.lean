/- Lemmas for MixValidSaid, which YtmmkocokfdheiaaFin7 proves. -/
/- Small words of the shallow programs, and the rules by which a shallow program and the code go side by side. No condition. -/
import Derived.Test.YtmmkocokfdheiaaLift13
import Derived.KernelRfl
namespace Go.Lift
open Go.RowKit

def idx {α : Type} (xs : List α) (i : Int) : Option α := if 0 ≤ i then xs[i.toNat]? else none
def chk (p : Prop) [Decidable p] : Option Unit := if p then some () else none
def cnd {α : Type} (b : Bool) (x y : Option α) : Option α := match b with | true => x | false => y
def join {α β : Type} (k : α) (f : α → β) : β := f k

theorem ltb {a b : Nat} (h : Nat.blt a b = true) : a < b := by rw [← Nat.blt_eq]; exact h
theorem leb {a b : Nat} (h : Nat.ble a b = true) : a ≤ b := Nat.le_of_ble_eq_true h

theorem bind_some {α β : Type} {x : Option α} {f : α → Option β} {r : β} (h : x.bind f = some r) : ∃ a, x = some a ∧ f a = some r := by
  cases x with
  | none => cases h
  | some a => exact ⟨a, rfl, h⟩
theorem idx_bind {α β : Type} {xs : List α} {i : Int} {f : α → Option β} {r : β} (h : (idx xs i).bind f = some r) : ∃ x, 0 ≤ i ∧ xs[i.toNat]? = some x ∧ f x = some r := by
  obtain ⟨x, h1, h2⟩ := bind_some h
  unfold idx at h1
  split at h1
  · rename_i h0; exact ⟨x, h0, h1, h2⟩
  · cases h1
theorem chk_bind {β : Type} {p : Prop} [Decidable p] {f : Unit → Option β} {r : β} (h : (chk p).bind f = some r) : p ∧ f () = some r := by
  obtain ⟨x, h1, h2⟩ := bind_some h
  unfold chk at h1
  split at h1
  · rename_i h0; exact ⟨h0, h2⟩
  · cases h1
theorem cnd_t {α : Type} {b : Bool} {x y : Option α} {r : α} (hb : b = true) (h : cnd b x y = some r) : x = some r := by subst hb; exact h
theorem cnd_f {α : Type} {b : Bool} {x y : Option α} {r : α} (hb : b = false) (h : cnd b x y = some r) : y = some r := by subst hb; exact h

theorem map_app {α β : Type} (f : α → β) (xs ys : List α) : xs.map f ++ ys.map f = (xs ++ ys).map f := by simp
theorem map_setv {α β : Type} (f : α → β) (xs : List α) (i : Nat) (y : α) : (xs.map f).set i (f y) = (xs.set i y).map f := by rw [List.map_set]
theorem map_rep {α β : Type} (f : α → β) (n : Nat) (y : α) : List.replicate n (f y) = (List.replicate n y).map f := by simp
theorem map_cut {α β : Type} (f : α → β) (xs : List α) (l n : Nat) : ((xs.map f).drop l).take n = ((xs.drop l).take n).map f := by rw [List.map_take, List.map_drop]
theorem map_cut' {α β : Type} (f : α → β) (xs : List α) (l n m : Nat) (h : n = m) : ((xs.map f).drop l).take n = ((xs.drop l).take m).map f := by rw [h, List.map_take, List.map_drop]
theorem map_rows {α : Type} {f : α → List T} {n : Nat} (h : ∀ x, (f x).length = n) (xs : List α) : ∀ (i : Nat) (row : List T), (xs.map f)[i]? = some row → row.length = n := by
  intro i row hi
  rw [List.getElem?_map] at hi
  cases hx : xs[i]? with
  | none => rw [hx] at hi; cases hi
  | some x => rw [hx] at hi; cases hi; exact h x
theorem len_lim {α β γ δ : Type} {f : α → γ} {g : β → δ} {xs : List α} {ys : List β} (h : xs.length + ys.length ≤ lim) : (xs.map f).length + (ys.map g).length ≤ lim := by simpa using h

def rn (l : List (Nat × Nat)) (b : Nat) : Nat := (look l b).getD b

section
variable {P : Program} {X : Ctx}

theorem Sees.trans {a b c : St} (h : Sees P X a b) (h2 : Sees P X b c) : Sees P X a c := fun x w hs => h2 x w (h x w hs)
theorem Sees.refl {a : St} : Sees P X a a := fun _ _ hs => hs

theorem sink {V R : Type} {J : V → Option R} {r : R} {S : V → St} {s : St} (v : V) (h : J v = some r) (hs : Sees P X s (S v)) : ∃ v, J v = some r ∧ Sees P X s (S v) := ⟨v, h, hs⟩

theorem W_join {V R : Type} {x y : Code} {Q : Exit → St → Prop} {st : St} {K : V → Option R} {F : (V → Option R) → Option R} {r : R} (h : join K F = some r) (S : V → St)
    (h1 : ∀ J : V → Option R, F J = some r → W P X x (thenQ (fun s => ∃ v, J v = some r ∧ Sees P X s (S v)) Q) st) (h2 : ∀ v, K v = some r → W P X y Q (S v)) : W P X (.seq x y) Q st := by
  refine W_seq (W_mono (h1 K h) ?_)
  intro e s hs
  cases e with
  | normal => obtain ⟨v, h3, h4⟩ := hs; exact W_sees h4 (h2 v h3)
  | _ => exact hs

def loopQ (id : Nat) (next brk : St → Prop) (Q : Exit → St → Prop) : Exit → St → Prop
  | .normal, s => next s
  | .exit id', s => if id' = id then brk s else Q (.exit id') s
  | e, s => Q e s

theorem W_whileE {V V' R : Type} {id : Nat} {body : Code} {Q : Exit → St → Prop} {st : St} {L : (V' → Option R) → Nat → V → Option R} {K : V' → Option R} {n : Nat} {v0 : V} {r : R} (h : L K n v0 = some r) (S : V → St) (S' : V' → St)
    (h0 : ∀ J v, L J 0 v = none) (hst : Sees P X st (S v0))
    (round : ∀ (J : V' → Option R) (n : Nat) (v : V), L J (n + 1) v = some r → W P X body (loopQ id (fun s => ∃ v2, L J n v2 = some r ∧ Sees P X s (S v2)) (fun s => ∃ v', J v' = some r ∧ Sees P X s (S' v')) Q) (S v))
    (h2 : ∀ v' s, K v' = some r → Sees P X s (S' v') → Q .normal s) : W P X (.block id (.loop body)) Q st := by
  refine W_sees hst (W_block ?_)
  refine W_loop (fun n s => ∃ v, L K n v = some r ∧ s = S v) n ⟨v0, h, rfl⟩ ?_
  rintro n s ⟨v, hv, rfl⟩
  cases n with
  | zero => rw [h0] at hv; cases hv
  | succ n =>
    intro a w hs
    refine wp_mono (round K n v hv a w hs) ?_
    rintro e a' w' ⟨s, hq, hs'⟩
    cases e with
    | normal =>
      obtain ⟨v2, h3, h4⟩ := hq
      exact ⟨S v2, ⟨n, Nat.lt_succ_self n, v2, h3, rfl⟩, h4 a' w' hs'⟩
    | exit id' =>
      simp only [loopQ] at hq
      by_cases e : id' = id
      · rw [if_pos e] at hq
        obtain ⟨v', h3, h4⟩ := hq
        refine ⟨s, ?_, hs'⟩
        simp only [thenQ, blockQ, e, if_true]
        exact h2 v' s h3 h4
      · rw [if_neg e] at hq
        refine ⟨s, ?_, hs'⟩
        simp only [thenQ, blockQ, e, if_false]
        exact hq
    | goto l => exact ⟨s, hq, hs'⟩
    | ret => exact ⟨s, hq, hs'⟩
    | panic c => exact ⟨s, hq, hs'⟩
    | outgrown => exact ⟨s, hq, hs'⟩

/-- A nil slice in a slot, or in a box, seen as a slice of no elements. -/
theorem sees_nrm {st : St} (s : Nat) (d : D) (hs : st.env s = some d) : Sees P X st (St.put st (some s) (some d.nrm)) := by
  rintro a w ⟨G, h⟩
  refine ⟨G, { h with env := ?_, live := ?_, blk := h.blk, at_ok := h.at_ok, at_inj := h.at_inj, liveB := h.liveB }⟩
  · intro t d' ht
    simp only [St.put] at ht
    split at ht
    · rename_i e; cases ht; rw [e]; exact (h.env s d hs).nrm
    · exact h.env t d' ht
  · intro t d' ht b hb
    simp only [St.put] at ht
    split at ht
    · cases ht
      refine h.live s d hs b ?_
      have hC : ∀ {c : C} {b : Nat}, b ∈ c.nrm.names → b ∈ c.names := by intro c b hb; cases c <;> exact hb
      have hE : ∀ {x : E} {b : Nat}, b ∈ x.nrm.names → b ∈ x.names := by
        intro x b hb
        cases x with
        | one c => exact hC hb
        | agg cs =>
          obtain ⟨c, hc, hbc⟩ := mem_cnames.1 hb
          obtain ⟨c0, h0, rfl⟩ := List.mem_map.1 hc
          exact mem_cnames.2 ⟨c0, h0, hC hbc⟩
      cases d with
      | e x => exact hE hb
      | tup xs =>
        obtain ⟨c, hc, hbc⟩ := mem_enames.1 hb
        obtain ⟨c0, h0, rfl⟩ := List.mem_map.1 hc
        exact mem_enames.2 ⟨c0, h0, hE hbc⟩
    · exact h.live t d' ht b hb

theorem sees_nrmB {st : St} (b : Nat) (cells : List C) (hb : st.bx b = some (.box cells)) : Sees P X st (St.setB st b (.box (cells.map C.nrm))) := by
  rintro a w ⟨G, h⟩
  refine ⟨G, ?_⟩
  have hC : ∀ {c : C} {b : Nat}, b ∈ c.nrm.names → b ∈ c.names := by intro c b hb; cases c <;> exact hb
  refine h.frame (bx' := (St.setB st b (.box (cells.map C.nrm))).bx) ?_ ⟨fun _ h => h, fun _ _ => rfl, fun _ _ => rfl⟩ (fun _ _ => rfl) ?_ ?_ ?_ h.S_lt h.S_src h.below
  · intro c hc; simp only [St.setB]; split <;> simp [hc]
  · intro c k hc
    simp only [St.setB] at hc
    split at hc
    · rename_i e; subst e; cases hc
      obtain ⟨β, arr, el, g1, g2, g3, g4⟩ := h.blk c _ hb
      refine .inr ⟨⟨β, arr, el, g1, g2, by simpa using g3, fun j u hj => ?_⟩, fun x hx => ?_⟩
      · rw [List.getElem?_map] at hj
        cases hx : cells[j]? with
        | none => rw [hx] at hj; cases hj
        | some c0 => rw [hx] at hj; cases hj; exact (g4 j c0 hx).nrm
      · obtain ⟨u, hu, hxu⟩ := mem_cnames.1 hx
        obtain ⟨u0, h0, rfl⟩ := List.mem_map.1 hu
        have := h.liveB c _ hb x (mem_cnames.2 ⟨u0, h0, hC hxu⟩)
        simp only [St.setB]; split
        · rfl
        · exact this
    · exact .inl ⟨hc, fun _ _ _ => rfl⟩
  · intro c k β hc hr hβ
    simp only [St.setB] at hc
    split at hc
    · rename_i e; subst e; exact h.at_ok _ _ β hb rfl hβ
    · exact h.at_ok c k β hc hr hβ
  · intro c c' k k' β hc hc' hr hr' hβ hβ'
    simp only [St.setB] at hc hc'
    split at hc <;> split at hc'
    · rename_i e e'; rw [e, e']
    · rename_i e e'; subst e; exact h.at_inj _ c' _ k' β hb hc' rfl hr' hβ hβ'
    · rename_i e e'; subst e'; exact h.at_inj c _ k _ β hc hb hr rfl hβ hβ'
    · exact h.at_inj c c' k k' β hc hc' hr hr' hβ hβ'

end
end Go.Lift
