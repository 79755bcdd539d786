/- Lemmas for MixValidSaid, which YtmmkocokfdheiaaFin7 proves. -/
/- A box given over to sharing; a slice against nil; two structs against each other; functions as values. No condition. -/
import Derived.Test.YtmmkocokfdheiaaLift15
namespace Go.Lift
open Go.RowKit

variable {P : Program} {X : Ctx} {ops : Array Oper}

def C.fzb (b : Nat) (ts : List T) : C → C
  | .own c => if c = b then .any else .own c
  | .ptr c k => if c = b then (if k ≤ ts.length then .rop (ts.drop k) else .any) else .ptr c k
  | .eptr c e i k => if c = b then .any else .eptr c e i k
  | c => c
def E.fzb (b : Nat) (ts : List T) : E → E
  | .one c => .one (c.fzb b ts)
  | .agg cs => .agg (cs.map (C.fzb b ts))
def D.fzb (b : Nat) (ts : List T) : D → D
  | .e x => .e (x.fzb b ts)
  | .tup xs => .tup (xs.map (E.fzb b ts))
def Blk.fzb (b : Nat) (ts : List T) : Blk → Blk
  | .box cs => .box (cs.map (C.fzb b ts))
  | k => k

def St.fzb (st : St) (b : Nat) (ts : List T) : St :=
  ⟨fun s => (st.env s).map (D.fzb b ts), fun c => if c = b then none else (st.bx c).map (Blk.fzb b ts)⟩

theorem fzb_C {w : World} {G : Gh} {b : Nat} {ts : List T} {S' : Nat → Prop} {v : Value} {c : C} (h : RdC P w G v c) (hS : ∀ β, G.S β → S' β) (hrow : ∀ β, G.loc b = some β → ∃ arr el fz, S' β ∧ w.heap[β]? = some (.cells arr el fz) ∧ arr.size = ts.length ∧ ∀ (j : Nat) (t : T), ts[j]? = some t → RdT w S' (cellAt arr j) t) : RdC P w { G with S := S' } v (c.fzb b ts) := by
  cases c with
  | pure t => exact RdT.mono h (fun _ _ => rfl) hS
  | own c =>
    simp only [C.fzb]
    split
    · exact RdC.one h
    · exact h
  | ptr c k =>
    simp only [C.fzb]
    split
    · rename_i e; subst e
      split
      · rename_i hk
        obtain ⟨β, hβ, rfl⟩ := h
        obtain ⟨arr, el, fz, h1, h2, h3, h4⟩ := hrow β hβ
        refine ⟨β, k, arr, el, fz, rfl, h1, h2, by simp; omega, fun j t hj => ?_⟩
        rw [List.getElem?_drop] at hj
        exact h4 _ t hj
      · exact RdC.one ((show RdC P w G v (.ptr c k) from h))
    · exact h
  | eptr c e i k =>
    simp only [C.fzb]
    split
    · exact RdC.one h
    · exact h
  | rop ts =>
    obtain ⟨β, off, arr, el, fz, h1, h2, h3, h4, h5⟩ := h
    exact ⟨β, off, arr, el, fz, h1, hS _ h2, h3, h4, fun j t hj => (h5 j t hj).mono (fun _ _ => rfl) hS⟩
  | clo g => exact CloOk.mono h (fun _ _ => rfl) hS
  | any => exact h
  | nilq p => exact h
  | fnc f => exact h

theorem fzb_E {w : World} {G : Gh} {b : Nat} {ts : List T} {S' : Nat → Prop} {v : Value} {x : E} (h : RdE P w G v x) (hS : ∀ β, G.S β → S' β) (hrow : ∀ β, G.loc b = some β → ∃ arr el fz, S' β ∧ w.heap[β]? = some (.cells arr el fz) ∧ arr.size = ts.length ∧ ∀ (j : Nat) (t : T), ts[j]? = some t → RdT w S' (cellAt arr j) t) : RdE P w { G with S := S' } v (x.fzb b ts) := by
  cases x with
  | one c => exact fzb_C h hS hrow
  | agg cs =>
    obtain ⟨vs, e, hs, h⟩ := h
    refine ⟨vs, e, by simp [hs], fun j c hj => ?_⟩
    rw [List.getElem?_map] at hj
    cases hx : cs[j]? with
    | none => rw [hx] at hj; cases hj
    | some c0 => rw [hx] at hj; cases hj; exact fzb_C (h j c0 hx) hS hrow

theorem fzb_D {w : World} {G : Gh} {b : Nat} {ts : List T} {S' : Nat → Prop} {v : Value} {d : D} (h : RdD P w G v d) (hS : ∀ β, G.S β → S' β) (hrow : ∀ β, G.loc b = some β → ∃ arr el fz, S' β ∧ w.heap[β]? = some (.cells arr el fz) ∧ arr.size = ts.length ∧ ∀ (j : Nat) (t : T), ts[j]? = some t → RdT w S' (cellAt arr j) t) : RdD P w { G with S := S' } v (d.fzb b ts) := by
  cases d with
  | e x => exact fzb_E h hS hrow
  | tup xs =>
    obtain ⟨vs, e, hs, h⟩ := h
    refine ⟨vs, e, by simp [hs], fun j c hj => ?_⟩
    rw [List.getElem?_map] at hj
    cases hx : xs[j]? with
    | none => rw [hx] at hj; cases hj
    | some c0 => rw [hx] at hj; cases hj; exact fzb_E (h j c0 hx) hS hrow

theorem fzb_names_C {b : Nat} {ts : List T} {c : C} {x : Nat} (h : x ∈ (c.fzb b ts).names) : x ∈ c.names ∧ x ≠ b := by
  cases c with
  | own c =>
    simp only [C.fzb] at h
    split at h
    · cases h
    · rename_i e; simp [C.names] at h ⊢; subst h; exact ⟨rfl, e⟩
  | ptr c k =>
    simp only [C.fzb] at h
    split at h
    · split at h <;> cases h
    · rename_i e; simp [C.names] at h ⊢; subst h; exact ⟨rfl, e⟩
  | eptr c e i k =>
    simp only [C.fzb] at h
    split at h
    · cases h
    · rename_i e; simp [C.names] at h ⊢; subst h; exact ⟨rfl, e⟩
  | _ => cases h
theorem fzb_cnames {b : Nat} {ts : List T} {cs : List C} {x : Nat} (h : x ∈ cnames (cs.map (C.fzb b ts))) : x ∈ cnames cs ∧ x ≠ b := by
  obtain ⟨c, hc, hx⟩ := mem_cnames.1 h
  obtain ⟨c0, h0, rfl⟩ := List.mem_map.1 hc
  obtain ⟨h1, h2⟩ := fzb_names_C hx
  exact ⟨mem_cnames.2 ⟨c0, h0, h1⟩, h2⟩
theorem fzb_names_E {b : Nat} {ts : List T} {y : E} {x : Nat} (h : x ∈ (y.fzb b ts).names) : x ∈ y.names ∧ x ≠ b := by
  cases y with
  | one c => exact fzb_names_C h
  | agg cs => exact fzb_cnames h
theorem fzb_names_D {b : Nat} {ts : List T} {d : D} {x : Nat} (h : x ∈ (d.fzb b ts).names) : x ∈ d.names ∧ x ≠ b := by
  cases d with
  | e y => exact fzb_names_E h
  | tup xs =>
    obtain ⟨c, hc, hx⟩ := mem_enames.1 h
    obtain ⟨c0, h0, rfl⟩ := List.mem_map.1 hc
    obtain ⟨h1, h2⟩ := fzb_names_E hx
    exact ⟨mem_enames.2 ⟨c0, h0, h1⟩, h2⟩

theorem sees_fzb {st : St} (b : Nat) (ts : List T) (hb : st.bx b = some (.box (ts.map .pure))) : Sees P X st (st.fzb b ts) := by
  rintro a w ⟨G, h⟩
  let S' : Nat → Prop := fun β => G.S β ∨ G.loc b = some β
  have hS : ∀ β, G.S β → S' β := fun β h => .inl h
  have hrow : ∀ β, G.loc b = some β → ∃ arr el fz, S' β ∧ w.heap[β]? = some (.cells arr el fz) ∧ arr.size = ts.length ∧ ∀ (j : Nat) (t : T), ts[j]? = some t → RdT w S' (cellAt arr j) t := by
    intro β hβ
    obtain ⟨β', arr, el, h1, h2, h3, h4⟩ := h.blk b _ hb
    rw [hβ] at h1; cases h1
    refine ⟨arr, el, (0, 0), .inr hβ, h2, by simpa using h3, fun j t hj => ?_⟩
    have : RdC P w G (cellAt arr j) (.pure t) := h4 j (.pure t) (by simp [hj])
    exact RdT.mono this (fun _ _ => rfl) hS
  have hbk : ∀ c k, (st.fzb b ts).bx c = some k → c ≠ b ∧ ∃ k0, st.bx c = some k0 ∧ k = k0.fzb b ts := fun c k hc => by
    simp only [St.fzb] at hc
    split at hc
    · cases hc
    · rename_i e
      cases hx : st.bx c with
      | none => rw [hx] at hc; cases hc
      | some k0 => rw [hx] at hc; exact ⟨e, k0, rfl, by simpa using hc.symm⟩
  have hreal : ∀ k : Blk, (k.fzb b ts).real = k.real := fun k => by cases k <;> rfl
  have hlv : ∀ c, (st.bx c).isSome = true → c ≠ b → ((st.fzb b ts).bx c).isSome = true := fun c hc hne => by
    simp only [St.fzb]; rw [if_neg hne]; simpa using hc
  refine ⟨{ G with S := S' }, ?_⟩
  refine { S_lt := ?_, S_src := ?_, S_0 := fun β hβ => .inl (h.S_0 β hβ), S0_lt := h.S0_lt, tsz := h.tsz, defers := h.defers, below := h.below, blk := ?_, at_ok := ?_, at_inj := ?_, env := ?_, live := ?_, liveB := ?_ }
  · rintro β (hβ | hβ)
    · exact h.S_lt β hβ
    · exact (h.at_ok b _ β hb rfl hβ).2.1
  · rintro β (hβ | hβ)
    · exact h.S_src β hβ
    · exact .inr (h.at_ok b _ β hb rfl hβ).1
  · intro c k hc
    obtain ⟨hne, k0, h0, rfl⟩ := hbk c k hc
    have := h.blk c k0 h0
    cases k0 with
    | box cells =>
      obtain ⟨β, arr, el, h1, h2, h3, h4⟩ := this
      refine ⟨β, arr, el, h1, h2, by simp [h3], fun j u hj => ?_⟩
      rw [List.getElem?_map] at hj
      cases hx : cells[j]? with
      | none => rw [hx] at hj; cases hj
      | some c0 => rw [hx] at hj; cases hj; exact fzb_C (h4 j c0 hx) hS hrow
    | vec e' rows' =>
      rcases this with h1 | ⟨β, cap, arr, el, h0, h1, h2, h3, h4, h5, h6⟩
      · exact .inl h1
      · exact .inr ⟨β, cap, arr, el, h0, h1, h2, h3, h4, h5, fun i row j t hi hj => (h6 i row j t hi hj).mono (fun _ _ => rfl) hS⟩
    | gone => trivial
  · intro c k β hc hr hβ
    obtain ⟨hne, k0, h0, rfl⟩ := hbk c k hc
    rw [hreal] at hr
    have h1 := h.at_ok c k0 β h0 hr hβ
    refine ⟨h1.1, h1.2.1, ?_⟩
    rintro (h2 | h2)
    · exact h1.2.2 h2
    · exact hne (h.at_inj c b k0 _ β h0 hb hr rfl hβ h2)
  · intro c c' k k' β hc hc' hr hr' hβ hβ'
    obtain ⟨_, k0, h0, rfl⟩ := hbk c k hc
    obtain ⟨_, k0', h0', rfl⟩ := hbk c' k' hc'
    rw [hreal] at hr hr'
    exact h.at_inj c c' k0 k0' β h0 h0' hr hr' hβ hβ'
  · intro s d hs
    simp only [St.fzb] at hs
    cases hx : st.env s with
    | none => rw [hx] at hs; cases hs
    | some d0 => rw [hx] at hs; cases hs; exact fzb_D (h.env s d0 hx) hS hrow
  · intro s d hs c hc
    simp only [St.fzb] at hs
    cases hx : st.env s with
    | none => rw [hx] at hs; cases hs
    | some d0 =>
      rw [hx] at hs; cases hs
      obtain ⟨h1, h2⟩ := fzb_names_D hc
      exact hlv c (h.live s d0 hx c h1) h2
  · intro c k hc x hx
    obtain ⟨_, k0, h0, rfl⟩ := hbk c k hc
    cases k0 with
    | box cells =>
      obtain ⟨h1, h2⟩ := fzb_cnames hx
      exact hlv x (h.liveB c _ h0 x h1) h2
    | vec e' rows' => cases hx
    | gone => cases hx

end Go.Lift
