/- Lemmas for PlanFailureSaid, which YtohibkdhajkmdaaFinP5 proves. -/
import Derived.Test.YtohibkdhajkmdaaLift15
import Derived.ProofKit
/- A box given over to sharing; a slice against nil; two structs against each other; functions as values. No condition. -/
namespace Go.Lift
open Go.RowKit
variable {P : Program} {X : Ctx} {ops : Array Oper}
def C.fzb (b : Nat) (ts : List T) : C → C
  | .own c => if c = b then .any else .own c
  | .ptr c k => if c = b then (if k ≤ ts.length then .rop (ts.drop k) else .any) else .ptr c k
  | .eptr c e i k => if c = b then .any else .eptr c e i k
  | .view c e lo len => if c = b then .any else .view c e lo len
  | .mref c => if c = b then .any else .mref c
  | c => c
def E.fzb (b : Nat) (ts : List T) : E → E
  | .one c => .one (c.fzb b ts)
  | .agg cs => .agg (cs.map (C.fzb b ts))
def D.fzb (b : Nat) (ts : List T) : D → D
  | .e x => .e (x.fzb b ts)
  | .tup xs => .tup (xs.map (E.fzb b ts))
def Blk.fzb (b : Nat) (ts : List T) : Blk → Blk
  | .box cs => .box (cs.map (C.fzb b ts))
  | .hol e cols i k c rs => if c = b then .gone else .hol e cols i k c rs
  | k => k
def St.fzb (st : St) (b : Nat) (ts : List T) : St :=
  ⟨fun s => (st.env s).map (D.fzb b ts), fun c => if c = b then none else (st.bx c).map (Blk.fzb b ts)⟩
theorem fzb_C {w : World} {G : Gh} {b : Nat} {ts : List T} {S' : Nat → Prop} {v : Value} {c : C} (h : RdC P w G v c) (hS : ∀ β, G.S β → S' β) (hrow : ∀ β, G.loc b = some β → ∃ arr el fz, S' β ∧ w.heap[β]? = some (.cells arr el fz) ∧ arr.size = ts.length ∧ ∀ (j : Nat) (t : T), ts[j]? = some t → RdT w S' (cellAt arr j) t) : RdC P w { G with S := S' } v (c.fzb b ts) := by
  cases c with
  | pure t => exact RdT.mono h (fun _ _ => rfl) hS
  | own c =>
    simp only [C.fzb]
    split
    · exact RdC.one h
    · exact h
  | ptr c k =>
    simp only [C.fzb]
    split
    · rename_i e; subst e
      split
      · rename_i hk
        obtain ⟨β, hβ, rfl⟩ := h
        obtain ⟨arr, el, fz, h1, h2, h3, h4⟩ := hrow β hβ
        refine ⟨β, k, arr, el, fz, rfl, h1, h2, by simp; omega, fun j t hj => ?_⟩
        rw [List.getElem?_drop] at hj
        exact h4 _ t hj
      · exact RdC.one ((show RdC P w G v (.ptr c k) from h))
    · exact h
  | eptr c e i k =>
    simp only [C.fzb]
    split
    · exact RdC.one h
    · exact h
  | view c e lo len =>
    simp only [C.fzb]
    split
    · exact RdC.one h
    · exact h
  | mref c =>
    simp only [C.fzb]
    split
    · exact RdC.one h
    · exact h
  | rop ts =>
    obtain ⟨β, off, arr, el, fz, h1, h2, h3, h4, h5⟩ := h
    exact ⟨β, off, arr, el, fz, h1, hS _ h2, h3, h4, fun j t hj => (h5 j t hj).mono (fun _ _ => rfl) hS⟩
  | clo g => exact CloOk.mono h (fun _ _ => rfl) hS
  | any => exact h
  | nilq p => exact h
  | fnc f => exact h
theorem fzb_E {w : World} {G : Gh} {b : Nat} {ts : List T} {S' : Nat → Prop} {v : Value} {x : E} (h : RdE P w G v x) (hS : ∀ β, G.S β → S' β) (hrow : ∀ β, G.loc b = some β → ∃ arr el fz, S' β ∧ w.heap[β]? = some (.cells arr el fz) ∧ arr.size = ts.length ∧ ∀ (j : Nat) (t : T), ts[j]? = some t → RdT w S' (cellAt arr j) t) : RdE P w { G with S := S' } v (x.fzb b ts) := by
  cases x with
  | one c => exact fzb_C h hS hrow
  | agg cs =>
    obtain ⟨vs, e, hs, h⟩ := h
    refine ⟨vs, e, by simp [hs], fun j c hj => ?_⟩
    rw [List.getElem?_map] at hj
    cases hx : cs[j]? with
    | none => rw [hx] at hj; cases hj
    | some c0 => rw [hx] at hj; cases hj; exact fzb_C (h j c0 hx) hS hrow
theorem fzb_D {w : World} {G : Gh} {b : Nat} {ts : List T} {S' : Nat → Prop} {v : Value} {d : D} (h : RdD P w G v d) (hS : ∀ β, G.S β → S' β) (hrow : ∀ β, G.loc b = some β → ∃ arr el fz, S' β ∧ w.heap[β]? = some (.cells arr el fz) ∧ arr.size = ts.length ∧ ∀ (j : Nat) (t : T), ts[j]? = some t → RdT w S' (cellAt arr j) t) : RdD P w { G with S := S' } v (d.fzb b ts) := by
  cases d with
  | e x => exact fzb_E h hS hrow
  | tup xs =>
    obtain ⟨vs, e, hs, h⟩ := h
    refine ⟨vs, e, by simp [hs], fun j c hj => ?_⟩
    rw [List.getElem?_map] at hj
    cases hx : xs[j]? with
    | none => rw [hx] at hj; cases hj
    | some c0 => rw [hx] at hj; cases hj; exact fzb_E (h j c0 hx) hS hrow
theorem fzb_names_C {b : Nat} {ts : List T} {c : C} {x : Nat} (h : x ∈ (c.fzb b ts).names) : x ∈ c.names ∧ x ≠ b := by
  cases c with
  | own c =>
    simp only [C.fzb] at h
    split at h
    · cases h
    · rename_i e; simp [C.names] at h ⊢; subst h; exact ⟨rfl, e⟩
  | ptr c k =>
    simp only [C.fzb] at h
    split at h
    · split at h <;> cases h
    · rename_i e; simp [C.names] at h ⊢; subst h; exact ⟨rfl, e⟩
  | eptr c e i k =>
    simp only [C.fzb] at h
    split at h
    · cases h
    · rename_i e; simp [C.names] at h ⊢; subst h; exact ⟨rfl, e⟩
  | view c e lo len =>
    simp only [C.fzb] at h
    split at h
    · cases h
    · rename_i e; simp [C.names] at h ⊢; subst h; exact ⟨rfl, e⟩
  | mref c =>
    simp only [C.fzb] at h
    split at h
    · cases h
    · rename_i e; simp [C.names] at h ⊢; subst h; exact ⟨rfl, e⟩
  | _ => cases h
theorem fzb_cnames {b : Nat} {ts : List T} {cs : List C} {x : Nat} (h : x ∈ cnames (cs.map (C.fzb b ts))) : x ∈ cnames cs ∧ x ≠ b := by
  obtain ⟨c, hc, hx⟩ := mem_cnames.1 h
  obtain ⟨c0, h0, rfl⟩ := List.mem_map.1 hc
  obtain ⟨h1, h2⟩ := fzb_names_C hx
  exact ⟨mem_cnames.2 ⟨c0, h0, h1⟩, h2⟩
theorem fzb_names_E {b : Nat} {ts : List T} {y : E} {x : Nat} (h : x ∈ (y.fzb b ts).names) : x ∈ y.names ∧ x ≠ b := by
  cases y with
  | one c => exact fzb_names_C h
  | agg cs => exact fzb_cnames h
theorem fzb_names_D {b : Nat} {ts : List T} {d : D} {x : Nat} (h : x ∈ (d.fzb b ts).names) : x ∈ d.names ∧ x ≠ b := by
  cases d with
  | e y => exact fzb_names_E h
  | tup xs =>
    obtain ⟨c, hc, hx⟩ := mem_enames.1 h
    obtain ⟨c0, h0, rfl⟩ := List.mem_map.1 hc
    obtain ⟨h1, h2⟩ := fzb_names_E hx
    exact ⟨mem_enames.2 ⟨c0, h0, h1⟩, h2⟩
theorem sees_fzb {st : St} (b : Nat) (ts : List T) (hb : st.bx b = some (.box (ts.map .pure))) (hlt : isLent b = false) : Sees P X st (st.fzb b ts) := by
  rintro a w ⟨G, h⟩
  let S' : Nat → Prop := fun β => G.S β ∨ G.loc b = some β
  have hS : ∀ β, G.S β → S' β := fun β h => .inl h
  have hrow : ∀ β, G.loc b = some β → ∃ arr el fz, S' β ∧ w.heap[β]? = some (.cells arr el fz) ∧ arr.size = ts.length ∧ ∀ (j : Nat) (t : T), ts[j]? = some t → RdT w S' (cellAt arr j) t := by
    intro β hβ
    obtain ⟨β', arr, el, h1, h2, h3, h4⟩ := h.blk b _ hb
    rw [hβ] at h1; cases h1
    refine ⟨arr, el, (0, 0), .inr hβ, h2, by simpa using h3, fun j t hj => ?_⟩
    have : RdC P w G (cellAt arr j) (.pure t) := h4 j (.pure t) (by simp [hj])
    exact RdT.mono this (fun _ _ => rfl) hS
  have hbk : ∀ c k, (st.fzb b ts).bx c = some k → c ≠ b ∧ ∃ k0, st.bx c = some k0 ∧ k = k0.fzb b ts := fun c k hc => by
    simp only [St.fzb] at hc
    split at hc
    · cases hc
    · rename_i e
      cases hx : st.bx c with
      | none => rw [hx] at hc; cases hc
      | some k0 => rw [hx] at hc; exact ⟨e, k0, rfl, by simpa using hc.symm⟩
  have hreal : ∀ k : Blk, (k.fzb b ts).real = true → k.real = true := fun k hk => by
    cases k <;> first | rfl | exact hk
  have hlv : ∀ c, (st.bx c).isSome = true → c ≠ b → ((st.fzb b ts).bx c).isSome = true := fun c hc hne => by
    simp only [St.fzb]; rw [if_neg hne]; simpa using hc
  refine ⟨{ G with S := S' }, ?_⟩
  refine { S_lt := ?_, S_src := ?_, S_0 := fun β hβ => .inl (h.S_0 β hβ), S0_lt := h.S0_lt, tsz := h.tsz, defers := h.defers, below := h.below, nlt := h.nlt, lent := h.lent, blk := ?_, at_ok := ?_, at_inj := ?_, env := ?_, live := ?_, liveB := ?_ }
  · rintro β (hβ | hβ)
    · exact h.S_lt β hβ
    · exact (h.at_ok b _ β hb rfl (.inl hβ)).2.1
  · rintro β (hβ | hβ)
    · exact h.S_src β hβ
    · exact .inr ((h.at_ok b _ β hb rfl (.inl hβ)).1.1 hlt)
  · intro c k hc
    obtain ⟨hne, k0, h0, rfl⟩ := hbk c k hc
    have := h.blk c k0 h0
    cases k0 with
    | box cells =>
      obtain ⟨β, arr, el, h1, h2, h3, h4⟩ := this
      refine ⟨β, arr, el, h1, h2, by simp [h3], fun j u hj => ?_⟩
      rw [List.getElem?_map] at hj
      cases hx : cells[j]? with
      | none => rw [hx] at hj; cases hj
      | some c0 => rw [hx] at hj; cases hj; exact fzb_C (h4 j c0 hx) hS hrow
    | vec e' rows' =>
      rcases this with h1 | ⟨β, cap, arr, el, h0, h1, h2, h3, h4, h5, h6⟩
      · exact .inl h1
      · exact .inr ⟨β, cap, arr, el, h0, h1, h2, h3, h4, h5, fun i row j t hi hj => (h6 i row j t hi hj).mono (fun _ _ => rfl) hS⟩
    | mp es =>
      obtain ⟨β, arr, clock, h1, h2, h3, h4⟩ := this
      exact ⟨β, arr, clock, h1, h2, h3, fun i x hi => by
        obtain ⟨m, e1, e2, e3⟩ := h4 i x hi
        exact ⟨m, e1, e2, e3.mono (fun _ _ => rfl) hS⟩⟩
    | dvec e cols rs =>
      rcases this with h1 | ⟨β, cap, arr, el, Rf, h0, h1, h2, h3, h4, h5, h6, h7, h8, h9⟩
      · exact .inl h1
      · exact .inr ⟨β, cap, arr, el, Rf, h0, h1, h2, h3, h4, h5, fun i row j t hi hj => (h6 i row j t hi hj).mono (fun _ _ => rfl) hS (fun _ h => h), h7, h8, h9⟩
    | hol e cols i0 k1 c1 rs =>
      simp only [Blk.fzb]
      split
      · trivial
      · obtain ⟨β, cap, arr, el, Rf, h0, h1, h2, h3, h4, h5, h6, h7, h8, h9, h10, h11⟩ := this
        exact ⟨β, cap, arr, el, Rf, h0, h1, h2, h3, h4, h5, fun i row j t hi hj hne => (h6 i row j t hi hj hne).mono (fun _ _ => rfl) hS (fun _ h => h), h7, h8, h9, h10, h11⟩
    | gone => trivial
  · intro c k β hc hr hβ
    obtain ⟨hne, k0, h0, rfl⟩ := hbk c k hc
    have hr := hreal _ hr
    have h1 := h.at_ok c k0 β h0 hr hβ
    refine ⟨h1.1, h1.2.1, ?_⟩
    rintro (h2 | h2)
    · exact h1.2.2 h2
    · exact hne (h.at_inj c b k0 _ β h0 hb hr rfl hβ (.inl h2))
  · intro c c' k k' β hc hc' hr hr' hβ hβ'
    obtain ⟨_, k0, h0, rfl⟩ := hbk c k hc
    obtain ⟨_, k0', h0', rfl⟩ := hbk c' k' hc'
    have hr := hreal _ hr
    have hr' := hreal _ hr'
    exact h.at_inj c c' k0 k0' β h0 h0' hr hr' hβ hβ'
  · intro s d hs
    simp only [St.fzb] at hs
    cases hx : st.env s with
    | none => rw [hx] at hs; cases hs
    | some d0 => rw [hx] at hs; cases hs; exact fzb_D (h.env s d0 hx) hS hrow
  · intro s d hs c hc
    simp only [St.fzb] at hs
    cases hx : st.env s with
    | none => rw [hx] at hs; cases hs
    | some d0 =>
      rw [hx] at hs; cases hs
      obtain ⟨h1, h2⟩ := fzb_names_D hc
      exact hlv c (h.live s d0 hx c h1) h2
  · intro c k hc x hx
    obtain ⟨_, k0, h0, rfl⟩ := hbk c k hc
    cases k0 with
    | box cells =>
      obtain ⟨h1, h2⟩ := fzb_cnames hx
      exact hlv x (h.liveB c _ h0 x h1) h2
    | vec e' rows' => cases hx
    | mp es => cases hx
    | dvec e cols rs => cases hx
    | hol e cols i0 k1 c1 rs =>
      simp only [Blk.fzb] at hx
      split at hx
      · cases hx
      · rename_i hne
        have hx' : x = c1 := by simpa [Blk.names] using hx
        subst hx'
        exact hlv x (h.liveB c _ h0 x (by simp [Blk.names])) hne
    | gone => cases hx
end Go.Lift

/- A slice against nil; two structs against each other; functions ar values. No condition. -/
namespace Go.Lift
open Go.RowKit
variable {P : Program} {X : Ctx} {ops : Array Oper}
def tagsOf (P : Program) : Nat → List Field → Option (List Nat)
  | _, [] => some []
  | k, f :: fs => if f.name == "_" || f.offset != k then none else match P.underlying f.type with
    | some (.int _) => (tagsOf P (k + 1) fs).map (0 :: ·)
    | some .bool => (tagsOf P (k + 1) fs).map (1 :: ·)
    | some .string => (tagsOf P (k + 1) fs).map (2 :: ·)
    | _ => none
def seqB (P : Program) (t : TypeId) : Option (List Nat) :=
  match P.underlying t with
  | some (.struct fs) => if P.stoodInHeld t || P.eqGuardType P.depth t then none else tagsOf P 0 fs.toList
  | _ => none
def eqVals : List Nat → List Value → List Value → Option Bool
  | [], [], [] => some true
  | 0 :: ts, .int k a :: ar, .int k' b :: bs => if k = k' then (eqVals ts ar bs).map (fun r => (a == b) && r) else none
  | 1 :: ts, .bool a :: ar, .bool b :: bs => (eqVals ts ar bs).map (fun r => (a == b) && r)
  | 2 :: ts, .string a :: ar, .string b :: bs => (eqVals ts ar bs).map (fun r => (a.toList == b.toList) && r)
  | _, _, _ => none
theorem eqVals_0 {ts : List Nat} {ar bs : List Value} {r : Bool} (h : eqVals (0 :: ts) ar bs = some r) : ∃ k a ar' b bs' r', ar = .int k a :: ar' ∧ bs = .int k b :: bs' ∧ eqVals ts ar' bs' = some r' ∧ r = ((a == b) && r') := by
  unfold eqVals at h
  split at h <;> try (exfalso; simp_all; done)
  rename_i ts' k a ar' k' b bs' e
  cases e
  split at h
  · rename_i e; subst e
    cases hel : eqVals ts ar' bs' with
    | none => rw [hel] at h; cases h
    | some r' =>
      rw [hel] at h
      exact ⟨k, a, ar', b, bs', r', rfl, rfl, hel, by simpa using h.symm⟩
  · cases h
theorem eqVals_1 {ts : List Nat} {ar bs : List Value} {r : Bool} (h : eqVals (1 :: ts) ar bs = some r) : ∃ a ar' b bs' r', ar = .bool a :: ar' ∧ bs = .bool b :: bs' ∧ eqVals ts ar' bs' = some r' ∧ r = ((a == b) && r') := by
  unfold eqVals at h
  split at h <;> try (exfalso; simp_all; done)
  rename_i ts' a ar' b bs' e
  cases e
  cases hel : eqVals ts ar' bs' with
  | none => rw [hel] at h; cases h
  | some r' =>
    rw [hel] at h
    exact ⟨a, ar', b, bs', r', rfl, rfl, hel, by simpa using h.symm⟩
theorem eqVals_2 {ts : List Nat} {ar bs : List Value} {r : Bool} (h : eqVals (2 :: ts) ar bs = some r) : ∃ a ar' b bs' r', ar = .string a :: ar' ∧ bs = .string b :: bs' ∧ eqVals ts ar' bs' = some r' ∧ r = ((a.toList == b.toList) && r') := by
  unfold eqVals at h
  split at h <;> try (exfalso; simp_all; done)
  rename_i ts' a ar' b bs' e
  cases e
  cases hel : eqVals ts ar' bs' with
  | none => rw [hel] at h; cases h
  | some r' =>
    rw [hel] at h
    exact ⟨a, ar', b, bs', r', rfl, rfl, hel, by simpa using h.symm⟩
theorem run_part1 {t : TypeId} (h : aggB P t false = true) {cs : Array Value} {off : Nat} {v : Value} (hv : cs[off]? = some v) (w : World) : (part t cs off).run P w = .ok v w := by
  unfold part
  refine run_then (run_isAgg h w) ?_
  simp only [Bool.false_eq_true, if_false, hv]
  rfl
theorem run_fields (d : Nat) (xs ys : Array Value) (w : World) : ∀ (fs : List Field) (ts : List Nat) (k : Nat) (ar bs : List Value) (r : Bool), tagsOf P k fs = some ts → (∀ (j : Nat) (v : Value), ar[j]? = some v → xs[k + j]? = some v) → (∀ (j : Nat) (v : Value), bs[j]? = some v → ys[k + j]? = some v) → eqVals ts ar bs = some r →
    (Op.eqFields (d + 1) xs ys fs).run P w = .ok r w
  | [], ts, k, ar, bs, r, ht, hx, hy, he => by
    cases ht
    cases ar <;> cases bs <;> simp [eqVals] at he
    subst he; rfl
  | f :: fs, ts, k, ar, bs, r, ht, hx, hy, he => by
    simp only [tagsOf] at ht
    split at ht
    · cases ht
    · rename_i hn
      simp only [Bool.or_eq_true, not_or, beq_iff_eq, bne_iff_ne, ne_eq, Decidable.not_not] at hn
      obtain ⟨hn1, hn2⟩ := hn
      subst hn2
      have step : ∀ (ts' : List Nat) (a b : Value) (ar' bs' : List Value) (q r' : Bool), ar = a :: ar' → bs = b :: bs' → tagsOf P (f.offset + 1) fs = some ts' → eqVals ts' ar' bs' = some r' → aggB P f.type false = true → (Op.equalIn (d + 1) f.type a b).run P w = .ok q w →
          (Op.eqFields (d + 1) xs ys (f :: fs)).run P w = .ok (q && r') w := by
        intro ts' a b ar' bs' q r' ha hb htl hel hag heq
        subst ha; subst hb
        have h1 : xs[f.offset]? = some a := hx 0 a rfl
        have h2 : ys[f.offset]? = some b := hy 0 b rfl
        simp only [Op.eqFields, hn1, ne_eq, not_false_eq_true, if_true]
        refine run_then (run_part1 hag h1 w) (run_then (run_part1 hag h2 w) (run_then heq ?_))
        cases q
        · simp
        · simp only [Bool.not_true, Bool.false_eq_true, if_false, Bool.true_and]
          exact run_fields d xs ys w fs ts' (f.offset + 1) ar' bs' r' htl (fun j v hj => by rw [show f.offset + 1 + j = f.offset + (j + 1) from by omega]; exact hx (j + 1) v hj) (fun j v hj => by rw [show f.offset + 1 + j = f.offset + (j + 1) from by omega]; exact hy (j + 1) v hj) hel
      split at ht
      · rename_i kk hu
        cases htl : tagsOf P (f.offset + 1) fs with
        | none => rw [htl] at ht; cases ht
        | some ts' =>
          rw [htl] at ht; cases ht
          obtain ⟨k1, a1, ar', b1, bs', r', e1, e2, hel, rfl⟩ := eqVals_0 he
          subst e1; subst e2
          exact step ts' _ _ ar' bs' _ r' rfl rfl htl hel (by unfold aggB; rw [hu]; rfl) (run_equalIn_int w d f.type k1 kk a1 b1 hu)
      · rename_i hu
        cases htl : tagsOf P (f.offset + 1) fs with
        | none => rw [htl] at ht; cases ht
        | some ts' =>
          rw [htl] at ht; cases ht
          obtain ⟨a1, ar', b1, bs', r', e1, e2, hel, rfl⟩ := eqVals_1 he
          subst e1; subst e2
          exact step ts' _ _ ar' bs' _ r' rfl rfl htl hel (by unfold aggB; rw [hu]; rfl) (run_equalIn_bool' w d f.type a1 b1 hu)
      · rename_i hu
        cases htl : tagsOf P (f.offset + 1) fs with
        | none => rw [htl] at ht; cases ht
        | some ts' =>
          rw [htl] at ht; cases ht
          obtain ⟨a1, ar', b1, bs', r', e1, e2, hel, rfl⟩ := eqVals_2 he
          subst e1; subst e2
          exact step ts' _ _ ar' bs' _ r' rfl rfl htl hel (by unfold aggB; rw [hu]; rfl) (run_equalIn_string w d f.type a1 b1 hu)
      · cases ht
theorem run_structEq {t : TypeId} {ts : List Nat} (h : seqB P t = some ts) {ar bs : List Value} {r : Bool} (hr : eqVals ts ar bs = some r) (w : World) :
    (Op.equalIn 10000 t (.agg ar.toArray) (.agg bs.toArray)).run P w = .ok r w ∧ P.eqGuardType P.depth t = false := by
  unfold seqB at h
  split at h
  · rename_i fs hu
    split at h
    · cases h
    · rename_i hn
      simp only [Bool.or_eq_true, not_or, Bool.not_eq_true] at hn
      have hf : P.fieldsOf t = fs := by unfold Program.fieldsOf; rw [hu]
      refine ⟨?_, hn.2⟩
      rw [run_equalIn_struct w 9999 t _ _ (by rw [hf]; exact hu) hn.1, hf]
      exact run_fields 9998 _ _ w fs.toList ts 0 ar bs r h (fun j v hj => by simpa using hj) (fun j v hj => by simpa using hj) hr
  · cases h
abbrev aD (ar : List Value) : D := .e (.agg (ar.map fun v => .pure (.val v)))
theorem agg_eq {w : World} {G : Gh} {v : Value} {ar : List Value} (h : RdD P w G v (aD ar)) : v = .agg ar.toArray := by
  obtain ⟨vs, rfl, hs, h⟩ := h
  congr 1
  have hs' : vs.size = ar.length := by simpa using hs
  apply Array.ext
  · simpa using hs'
  · intro j h1 h2
    have hj : j < ar.length := by omega
    have : RdC P w G (cellAt vs j) (.pure (.val ar[j])) := h j _ (by simp [hj])
    have h3 := val_eq (this : RdT w G.S _ (.val _))
    simpa [cellAt, h1] using h3
section run
variable {dr : Bool} {Q : St → Prop} {r i : Nat} {st : St} {log : List (Nat × Loc)} {o : Oper} {gs : List (Operand × D)}
theorem r_eqA {xt yt : TypeId} {x y : Operand} {s : Nat} {ts : List Nat} {b : Bool} (ar bs : List Value) (hat : At st.env ops i X.n (.binOp .eql xt x y yt) s gs)
    (hx : opd st.env x = some (aD ar)) (hy : opd st.env y = some (aD bs)) (ht : seqB P xt = some ts) (he : eqVals ts ar bs = some b)
    (next : Run P X ops dr Q r (i + 1) (Loc.upd ⟨gs ++ [(x, aD ar), (y, aD bs)], [], some s, some (bD b), [], []⟩ st) ((i, ⟨gs ++ [(x, aD ar), (y, aD bs)], [], some s, some (bD b), [], []⟩) :: log)) : Run P X ops dr Q (r + 1) i st log := by
  obtain ⟨o, ho, hop, hd, hn, hg, hgp⟩ := hat.out
  refine Run.step next ⟨preR_append.2 ⟨hgp, hx, hy, trivial⟩, trivial, trivial⟩ (LR.value ho hg rfl hd.symm (hn_of hd hn) ?_)
  intro G st a w hs hpre
  obtain ⟨hx, hy, _⟩ := (preR_append.1 hpre.r).2
  have hX := agg_eq (hs.opd hx)
  have hY := agg_eq (hs.opd hy)
  obtain ⟨h1, h2⟩ := run_structEq ht he w
  refine ⟨.bool b, w, G, ?_, hs, ?_⟩
  · simp only [execOp, hop, hX, hY]
    refine run_then (a := .bool b) (w1 := w) (run_then (run_eqGuard_agg w .eql xt x y _ _ h2) ?_) rfl
    rw [run_eql_struct, h1]; rfl
  · rintro d ⟨⟩
    exact ⟨.val _ rfl, fun b hb => by cases hb⟩
theorem r_neA {xt yt : TypeId} {x y : Operand} {s : Nat} {ts : List Nat} {b : Bool} (ar bs : List Value) (hat : At st.env ops i X.n (.binOp .neq xt x y yt) s gs)
    (hx : opd st.env x = some (aD ar)) (hy : opd st.env y = some (aD bs)) (ht : seqB P xt = some ts) (he : eqVals ts ar bs = some b)
    (next : Run P X ops dr Q r (i + 1) (Loc.upd ⟨gs ++ [(x, aD ar), (y, aD bs)], [], some s, some (bD (!b)), [], []⟩ st) ((i, ⟨gs ++ [(x, aD ar), (y, aD bs)], [], some s, some (bD (!b)), [], []⟩) :: log)) : Run P X ops dr Q (r + 1) i st log := by
  obtain ⟨o, ho, hop, hd, hn, hg, hgp⟩ := hat.out
  refine Run.step next ⟨preR_append.2 ⟨hgp, hx, hy, trivial⟩, trivial, trivial⟩ (LR.value ho hg rfl hd.symm (hn_of hd hn) ?_)
  intro G st a w hs hpre
  obtain ⟨hx, hy, _⟩ := (preR_append.1 hpre.r).2
  have hX := agg_eq (hs.opd hx)
  have hY := agg_eq (hs.opd hy)
  obtain ⟨h1, h2⟩ := run_structEq ht he w
  refine ⟨.bool (!b), w, G, ?_, hs, ?_⟩
  · simp only [execOp, hop, hX, hY]
    refine run_then (a := .bool (!b)) (w1 := w) (run_then (run_eqGuard_agg w .neq xt x y _ _ h2) ?_) rfl
    rw [run_neq_struct, h1]; rfl
  · rintro d ⟨⟩
    exact ⟨.val _ rfl, fun b hb => by cases hb⟩
theorem r_eqNil {xt yt : TypeId} {x : Operand} {s e : Nat} {rows : List (List T)} (hat : At st.env ops i X.n (.binOp .eql xt x (.const (.slice none 0 0)) yt) s gs)
    (hx : opd st.env x = some (one (.sl rows))) (ht : sliceB P xt e = true)
    (next : Run P X ops dr Q r (i + 1) (Loc.upd ⟨gs ++ [(x, one (.sl rows))], [], some s, some (.e (.one (.nilq (rows = [])))), [], []⟩ st) ((i, ⟨gs ++ [(x, one (.sl rows))], [], some s, some (.e (.one (.nilq (rows = [])))), [], []⟩) :: log)) : Run P X ops dr Q (r + 1) i st log := by
  obtain ⟨o, ho, hop, hd, hn, hg, hgp⟩ := hat.out
  refine Run.step next ⟨preR_append.2 ⟨hgp, hx, trivial⟩, trivial, trivial⟩ (LR.value ho hg rfl hd.symm (hn_of hd hn) ?_)
  intro G st a w hs hpre
  obtain ⟨hx, _⟩ := (preR_append.1 hpre.r).2
  have hX : RdT w G.S (a.eval x) (.sl rows) := hs.opd hx
  obtain ⟨av, l, c, hv, hq⟩ : ∃ av l c, a.eval x = .slice av l c ∧ (av.isNone = true → rows = []) := by
    generalize a.eval x = v at hX
    cases hX with
    | nil av cap => exact ⟨av, 0, cap, rfl, fun _ => rfl⟩
    | sl β off cap e arr el fz rows h1 h2 h3 h4 h5 h6 => exact ⟨_, _, _, rfl, fun h => by cases h⟩
  have hu : P.underlying xt = some (.slice e) := by
    unfold sliceB at ht
    split at ht
    · rename_i e' he; rw [he]; simp at ht; rw [ht]
    · cases ht
  refine ⟨.bool av.isNone, w, G, ?_, hs, ?_⟩
  · simp only [execOp, hop, hv]
    refine run_then (a := .bool av.isNone) (w1 := w) (run_then (a := ()) (w1 := w) (by simp [eqGuard]) ?_) rfl
    have h1 : (Op.equalIn (9999 + 1) xt (.slice av l c) (.slice none 0 0)).run P w = .ok av.isNone w := by
      generalize 9999 = dd
      cases av <;> (unfold Op.equalIn; exact run_then (run_underlying' hu w) rfl)
    simp only [binOp, Act.eval]
    refine run_then (a := av.isNone) (w1 := w) ?_ rfl
    exact h1
  · rintro d ⟨⟩
    exact ⟨⟨_, rfl, hq⟩, fun b hb => by cases hb⟩
end run
theorem W_condN {c : Operand} {x y : Code} {Q : Exit → St → Prop} {st : St} {p : Prop} (hc : opd st.env c = some (.e (.one (.nilq p)))) (ht : p → W P X x Q st) (hf : W P X y Q st) : W P X (.cond c x y) Q st := by
  intro a w hs
  obtain ⟨b, hcv, hp⟩ : ∃ b, a.eval c = .bool b ∧ (b = true → p) := by
    obtain ⟨G, hs⟩ := hs
    exact hs.opd hc
  cases b with
  | true => exact wp_cond_true hcv (ht (hp rfl) a w hs)
  | false => exact wp_cond_false hcv (hf a w hs)
end Go.Lift

/- Functions ar values: what a closure does is a function on trees; how one is made and called. No condition. -/
namespace Go.Lift
open Go.RowKit
variable {P : Program} {X : Ctx} {ops : Array Oper}
def argD : Bool × List T → D
  | (true, ts) => .e (.agg (ts.map .pure))
  | (false, ts) => .e (.one (.pure (ts.headD .nil0)))
def argOk : Bool × List T → Bool
  | (true, _) => true
  | (false, ts) => match ts with | [_] => true | _ => false
theorem rdA_of {w : World} {S : Nat → Prop} {G : Gh} {v : Value} {x : Bool × List T} (h : RdD P w G v (argD x)) (hS : ∀ β, G.S β → S β) (hx : argOk x = true) : RdA w S v x := by
  obtain ⟨b, ts⟩ := x
  cases b with
  | false =>
    match ts, hx with
    | [t], _ => exact ⟨t, rfl, RdT.mono (show RdT w G.S v t from h) (fun _ _ => rfl) hS⟩
  | true =>
    obtain ⟨vs, e, hs, h⟩ := h
    refine ⟨vs, e, by simpa using hs, fun j t hj => ?_⟩
    have : RdC P w G (cellAt vs j) (.pure t) := h j (.pure t) (by simp [hj])
    exact RdT.mono this (fun _ _ => rfl) hS
theorem rdD_of {w : World} {S : Nat → Prop} {v : Value} {x : Bool × List T} (h : RdA w S v x) : RdD P w (G0 S) v (argD x) := by
  obtain ⟨b, ts⟩ := x
  cases b with
  | false =>
    obtain ⟨t, rfl, h⟩ := h
    exact h
  | true =>
    obtain ⟨vs, e, hs, h⟩ := h
    refine ⟨vs, e, by simpa using hs, fun j c hj => ?_⟩
    rw [List.getElem?_map] at hj
    cases hx : ts[j]? with
    | none => rw [hx] at hj; cases hj
    | some t => rw [hx] at hj; cases hj; exact h j t hx
noncomputable def cloG {α ρ : Type} (ea : α → List (Bool × List T)) (er : ρ → T) (q : α → Option ρ) : List (Bool × List T) → Option T := fun ar =>
  open Classical in if h : ∃ x r, ea x = ar ∧ q x = some r then some (er (Classical.choose (Classical.choose_spec h))) else none
theorem cloG_some {α ρ : Type} {ea : α → List (Bool × List T)} {er : ρ → T} {q : α → Option ρ} {ar : List (Bool × List T)} {t : T} (h : cloG ea er q ar = some t) : ∃ x r, ar = ea x ∧ q x = some r ∧ t = er r := by
  unfold cloG at h
  split at h
  · rename_i hx
    cases h
    have := Classical.choose_spec (Classical.choose_spec hx)
    exact ⟨_, _, this.1.symm, this.2, rfl⟩
  · cases h
theorem cloG_at {α ρ : Type} {ea : α → List (Bool × List T)} {er : ρ → T} {q : α → Option ρ} (inj : ∀ x y, ea x = ea y → x = y) {x : α} {r : ρ} (h : q x = some r) : cloG ea er q (ea x) = some (er r) := by
  have hx : ∃ y s, ea y = ea x ∧ q y = some s := ⟨x, r, rfl, h⟩
  unfold cloG
  rw [dif_pos hx]
  have h1 := Classical.choose_spec (Classical.choose_spec hx)
  have h2 := inj _ _ h1.1
  have h3 : q (Classical.choose hx) = some r := by rw [h2]; exact h
  exact congrArg (fun z => some (er z)) (Option.some.inj (h3.symm.trans h1.2)).symm
structure Inj {α β : Type} (f : α → β) : Prop where
  inj : ∀ x y, f x = f y → x = y
def ea1 {α : Type} (b : Bool) (e : α → List T) (x : α) : List (Bool × List T) := [(b, e x)]
theorem inj_ea1 {α : Type} (b : Bool) (e : α → List T) (h : Inj e) : ∀ x y, ea1 b e x = ea1 b e y → x = y := by
  intro x y hxy
  simp only [ea1, List.cons.injEq, Prod.mk.injEq, true_and, and_true] at hxy
  exact h.inj _ _ hxy
theorem inj_map {α β : Type} {f : α → β} (h : ∀ x y, f x = f y → x = y) : ∀ (xs ys : List α), xs.map f = ys.map f → xs = ys
  | [], [], _ => rfl
  | [], _ :: _, e => by cases e
  | _ :: _, [], e => by cases e
  | x :: xs, y :: ys, e => by
    simp only [List.map_cons, List.cons.injEq] at e
    rw [h _ _ e.1, inj_map h _ _ e.2]
theorem fnc_clo {f : FuncId} {g : List (Bool × List T) → Option T} (hf : goodFn P f = true) (hclo : ∀ ar t, g ar = some t → Contract P f (ar.map argD) [] (one t)) {w : World} {S : Nat → Prop} {v : Value} (h : RdD P w (G0 S) v (.e (.one (.fnc f)))) : RdD P w (G0 S) v (.e (.one (.clo g))) := by
  refine ⟨f, #[], h, ?_, ?_⟩
  · unfold goodFn at hf
    split at hf
    · rename_i fn h0
      simp only [Bool.and_eq_true, Bool.not_eq_true'] at hf
      exact ⟨fn, h0, hf.2, hf.1⟩
    · cases hf
  · intro w' S' _ _ hlt vs ar r0 hvs has hgr
    refine (hclo ar r0 hgr w' S' (vs ++ #[]) hlt (by simp [hvs]) ?_).mono ?_
    · intro j d hj
      rw [List.getElem?_map] at hj
      cases hx0 : ar[j]? with
      | none => rw [hx0] at hj; cases hj
      | some y =>
        rw [hx0] at hj; cases hj
        rw [Array.append_empty]
        exact rdD_of (has j y hx0)
    · rintro e w'' ⟨v, G', rfl, hbel, h1, h2, h3, _⟩
      exact ⟨v, G'.S, rfl, hbel, h1, h2, h3⟩
def PtW (P : Program) : List D → List D → Prop
  | [], [] => True
  | a :: ar, b :: bs => (∀ (w : World) (S : Nat → Prop) (v : Value), RdD P w (G0 S) v a → RdD P w (G0 S) v b) ∧ PtW P ar bs
  | _, _ => False
theorem PtW.get : ∀ {ar bs : List D}, PtW P ar bs → ar.length = bs.length ∧ ∀ (j : Nat) (b : D), bs[j]? = some b → ∃ a, ar[j]? = some a ∧ ∀ (w : World) (S : Nat → Prop) (v : Value), RdD P w (G0 S) v a → RdD P w (G0 S) v b
  | [], [], _ => ⟨rfl, fun j b h => by simp at h⟩
  | a :: ar, b :: bs, h => by
    obtain ⟨h1, h2⟩ := PtW.get h.2
    refine ⟨by simp [h1], fun j c hj => ?_⟩
    cases j with
    | zero => simp at hj; subst hj; exact ⟨a, rfl, h.1⟩
    | succ j => obtain ⟨a', g1, g2⟩ := h2 j c (by simpa using hj); exact ⟨a', by simpa using g1, g2⟩
theorem Contract.weak {f : FuncId} {ds ds' : List D} {rv : List (Nat × List (List T))} {res : D} (h : Contract P f ds rv res) (hp : PtW P ds' ds) : Contract P f ds' rv res := by
  intro w S vs hS hlen hargs
  obtain ⟨h1, h2⟩ := hp.get
  refine h w S vs hS (by rw [hlen, h1]) fun j d hj => ?_
  obtain ⟨a, g1, g2⟩ := h2 j d hj
  exact g2 w S _ (hargs j a g1)
section run
variable {dr : Bool} {Q : St → Prop} {r i : Nat} {st : St} {log : List (Nat × Loc)} {o : Oper} {gs : List (Operand × D)}
theorem good_split {f : FuncId} (h : goodFn P f = true) : ∃ fn, P.funcs[f]? = some fn ∧ fn.body.isSome = true ∧ (fn.name == "runtime.NumGoroutine") = false := by
  unfold goodFn at h
  split at h
  · rename_i fn hf
    simp only [Bool.and_eq_true, Bool.not_eq_true'] at h
    exact ⟨fn, hf, h.2, h.1⟩
  · cases h
theorem r_makeFunc {f : FuncId} {s : Nat} {xs : List Operand} {capD : List D} (g : List (Bool × List T) → Option T) (hat : At st.env ops i X.n (.makeFunc (.func f) #[] xs.toArray) s gs)
    (hf : goodFn P f = true) (hl : xs.length = capD.length) (hx : preR st.env (zipR xs capD)) (hpub : capD.all pub = true)
    (hclo : ∀ ar t, g ar = some t → Contract P f (ar.map argD ++ capD) [] (one t))
    (next : Run P X ops dr Q r (i + 1) (Loc.upd ⟨gs ++ zipR xs capD, [], some s, some (.e (.one (.clo g))), [], []⟩ st) ((i, ⟨gs ++ zipR xs capD, [], some s, some (.e (.one (.clo g))), [], []⟩) :: log)) : Run P X ops dr Q (r + 1) i st log := by
  obtain ⟨o, ho, hop, hd, hn, hg, hgp⟩ := hat.out
  refine Run.step next ⟨preR_append.2 ⟨hgp, hx⟩, trivial, trivial⟩ (LR.value ho hg rfl hd.symm (hn_of hd hn) ?_)
  intro G st a w hs hpre
  have hx := (preR_append.1 hpre.r).2
  refine ⟨.func (.func f) #[] (xs.toArray.map a.eval), w, G, ?_, hs, ?_⟩
  · simp only [execOp, hop]
    exact run_then (a := .func (.func f) #[] (xs.toArray.map a.eval)) (w1 := w) (by simp [Instr.makeFunc]) rfl
  · rintro d ⟨⟩
    refine ⟨⟨f, _, rfl, good_split hf, ?_⟩, fun b hb => by cases hb⟩
    intro w' S' hS' hw' hlt vs ar r0 hvs has hgr
    refine (hclo ar r0 hgr w' S' (vs ++ xs.toArray.map a.eval) hlt (by simp [hvs, hl]) ?_).mono ?_
    · intro j d hj
      by_cases hja : j < ar.length
      · rw [List.getElem?_append_left (by simpa using hja), List.getElem?_map] at hj
        have hx0 : ar[j]? = some ar[j] := by simp [hja]
        rw [hx0] at hj; cases hj
        rw [cellAt_append_left (by omega)]
        exact rdD_of (has j _ hx0)
      · rw [List.getElem?_append_right (by simp; omega)] at hj
        simp only [List.length_map] at hj
        have hlt' := lt_of_get hj
        have hxj : xs[j - ar.length]? = some (xs[j - ar.length]'(by omega)) := by simp [show j - ar.length < xs.length from by omega]
        have hop' := zipR_get hl hx _ _ d hxj hj
        have hcell : cellAt (vs ++ xs.toArray.map a.eval) j = a.eval (xs[j - ar.length]'(by omega)) := by
          unfold cellAt
          rw [Array.getElem?_append_right (by omega), hvs]
          simp [show j - ar.length < xs.length from by omega]
        rw [hcell]
        have hcl : d.names = [] := by
          have := List.all_eq_true.1 hpub d (List.mem_of_getElem? hj)
          simpa [pub] using this
        exact ((hs.opd hop').mono (p := fun _ => False) (G' := G0 S') ⟨hS', fun _ h => h.elim, fun _ h => h.elim, fun _ h => h.elim⟩ hw' (fun b hb => by rw [hcl] at hb; cases hb))
    · rintro e w'' ⟨v, G', rfl, hbel, h1, h2, h3, _⟩
      exact ⟨v, G'.S, rfl, hbel, h1, h2, h3⟩
theorem r_callv {x : Operand} {g : List (Bool × List T) → Option T} {s : Nat} {xs : List Operand} {ds0 : List D} {ar : List (Bool × List T)} {r0 : T} {ts : Array TypeId} (hat : At st.env ops i X.n (.call ⟨.value x, xs.toArray, ts⟩) s gs)
    (hgx : opd st.env x = some (.e (.one (.clo g)))) (hl : xs.length = ds0.length) (hx : preR st.env (zipR xs ds0)) (hds : ds0.map D.nrm = ar.map argD) (hpub : (ar.map argD).all pub = true) (hok : ar.all argOk = true) (hr : g ar = some r0)
    (next : Run P X ops dr Q r (i + 1) (Loc.upd ⟨gs ++ ((x, .e (.one (.clo g))) :: zipR xs ds0), [], some s, some (one r0), [], []⟩ st) ((i, ⟨gs ++ ((x, .e (.one (.clo g))) :: zipR xs ds0), [], some s, some (one r0), [], []⟩) :: log)) : Run P X ops dr Q (r + 1) i st log := by
  obtain ⟨o, ho, hop, hd, hn, hg, hgp⟩ := hat.out
  refine Run.step next ⟨preR_append.2 ⟨hgp, hgx, hx⟩, trivial, trivial⟩ ?_
  intro st a w K Q' hs hpre hK
  obtain ⟨G, hs⟩ := hs
  obtain ⟨hgx, hx⟩ := (preR_append.1 hpre.r).2
  have hw := hs.wanted hg (preR_append.1 hpre.r).1
  unfold wpOp
  rw [ho]
  simp only [hw, if_true]
  refine .inl ?_
  unfold Oper.wp
  obtain ⟨f, caps, hv, ⟨fn, hf1, hf2, hf3⟩, hcall⟩ : CloOk P w G.S (a.eval x) g := hs.opd hgx
  have hgood : goodFn P f = true := by unfold goodFn; rw [hf1]; simp [hf2]; simpa using hf3
  have hrun : (execOp a.eval o).run P w = .ok (.enter f (xs.toArray.map a.eval ++ caps)) w := by
    simp only [execOp, hop]
    simp only [resolve, hv, Deferred.ofValue]
    refine run_then (a := { target := .fn (.func f) caps, args := #[] ++ xs.toArray.map a.eval }) (w1 := w) rfl ?_
    simp only [invoke]
    rw [run_callFunc hgood]; simp
  rw [hrun]
  show Calls P f (xs.toArray.map a.eval ++ caps) w _
  have hlen : xs.length = ar.length := by
    have := congrArg List.length hds
    simp at this; omega
  refine (hcall w G.S (fun _ h => h) (fun _ _ => rfl) hs.S_lt (xs.toArray.map a.eval) ar r0 (by simp [hlen]) ?_ hr).mono ?_
  · intro j y hj
    have hlt := lt_of_get hj
    have hd0 : ds0[j]? = some (ds0[j]'(by omega)) := by simp [show j < ds0.length from by omega]
    have hnrm : (ds0[j]'(by omega)).nrm = argD y := by
      have h1 : (ds0.map D.nrm)[j]? = (ar.map argD)[j]? := by rw [hds]
      rw [List.getElem?_map, List.getElem?_map, hd0, hj] at h1
      simpa using h1
    have hxj : xs[j]? = some (xs[j]'(by omega)) := by simp [show j < xs.length from by omega]
    have hop' := zipR_get hl hx j _ _ hxj hd0
    have hcell : cellAt (xs.toArray.map a.eval) j = a.eval (xs[j]'(by omega)) := by simp [cellAt, show j < xs.length from by omega]
    rw [hcell]
    have hrd := (hs.opd hop').nrm
    rw [hnrm] at hrd
    exact rdA_of hrd (fun _ h => h) (List.all_eq_true.1 hok y (List.mem_of_getElem? hj))
  · rintro e w' ⟨v, S'', rfl, hbel, hS1, hS2, hres⟩
    show K (a.put o.dst v) w'
    rw [hd]
    let G2 : Gh := { G with S := S'' }
    have hsz := hbel.size
    have hle := hs.below.size
    have key : SimG P X G2 ⟨st.env, setBs st.bx []⟩ a w' := by
      refine hs.frame (fun c hc => hc) ⟨hS1, fun _ _ => rfl, fun _ _ => rfl, fun _ _ => rfl⟩ (fun β hβ => hbel.block β (hs.S_lt β hβ)) ?_ ?_ ?_ ?_ ?_ (hs.below.trans (.of (hbel.mono hle))) (fun _ _ => ⟨rfl, rfl, rfl⟩)
      · intro c k hc
        exact .inl ⟨hc, fun β hr hβ => hbel.block β (hs.at_ok c k β hc hr hβ).2.1⟩
      · intro c k β hc hr hβ
        have := hs.at_ok c k β hc hr hβ
        refine ⟨this.1, by omega, fun h => ?_⟩
        rcases hS2 β h with h | h
        · exact this.2.2 h
        · omega
      · intro c c' k k' β hc hc' hr hr' hβ hβ'
        exact hs.at_inj c c' k k' β hc hc' hr hr' hβ hβ'
      · intro β h
        rcases hS2 β h with h | h
        · have := hs.S_lt β h; omega
        · exact h.2
      · intro β h
        rcases hS2 β h with h | h
        · exact hs.S_src β h
        · exact .inr (by omega)
    refine hK _ _ ⟨G2, key.put (some s) (some (one r0)) v (by intro t e; cases e; exact hn) ?_⟩
    rintro d ⟨⟩
    exact ⟨hres, fun b hb => by cases hb⟩
end run
end Go.Lift

/- How a law's given inputs are read as trees: what a datum of plain types (numbers, bools, strings, slices and structs of them) is. No condition. -/
namespace Go.Lift
open Go.RowKit Go.ChangeShapes Go.WideShapes
section
variable {P : Program}
def contigB (P : Program) : Nat → List Field → Nat → Bool
  | o, [], n => o == n
  | o, f :: fs, n => f.offset == o && contigB P (o + P.cellsOf f.type) fs n
def plainT (P : Program) : Nat → TypeId → Bool
  | 0, _ => false
  | d + 1, t => match P.underlying t with
    | some (.int _) => true
    | some .bool => true
    | some .string => true
    | some (.slice e) => decide (0 < P.cellsOf e) && plainT P d e
    | some (.struct fs) => contigB P 0 fs.toList (P.cellsOf t) && fs.toList.all fun f => plainT P d f.type
    | _ => false
def FitL (F : TypeId → List T → Prop) : List TypeId → List T → Prop
  | [], ts => ts = []
  | t :: tys, ts => ∃ a b, ts = a ++ b ∧ F t a ∧ FitL F tys b
def FitD (P : Program) : Nat → TypeId → List T → Prop
  | 0, _, _ => False
  | d + 1, t, ts => match P.underlying t with
    | some (.int k) => ∃ n, ts = [.val (.int k n)] ∧ (Lit.int k n).wf = true
    | some .bool => ∃ b, ts = [.val (.bool b)]
    | some .string => ∃ s, ts = [.val (.string s)]
    | some (.slice e) => ∃ rows, ts = [.sl rows] ∧ ∀ row, row ∈ rows → FitD P d e row
    | some (.struct fs) => FitL (FitD P d) (fs.toList.map (·.type)) ts
    | _ => False
def Reads (w : World) (S : Nat → Prop) : List Value → List T → Prop
  | [], [] => True
  | v :: vs, t :: ts => RdT w S v t ∧ Reads w S vs ts
  | _, _ => False
theorem Reads.append {w : World} {S : Nat → Prop} : ∀ {a b : List Value} {x y : List T}, Reads w S a x → Reads w S b y → Reads w S (a ++ b) (x ++ y)
  | [], _, [], _, _, h => h
  | _ :: _, _, _ :: _, _, h1, h2 => ⟨h1.1, Reads.append h1.2 h2⟩
theorem Reads.len {w : World} {S : Nat → Prop} : ∀ {a : List Value} {x : List T}, Reads w S a x → a.length = x.length
  | [], [], _ => rfl
  | _ :: _, _ :: _, h => by simp [h.2.len]
theorem Reads.get {w : World} {S : Nat → Prop} : ∀ {a : List Value} {x : List T}, Reads w S a x → ∀ (j : Nat) (t : T), x[j]? = some t → ∃ v, a[j]? = some v ∧ RdT w S v t
  | [], [], _, j, t, hj => by simp at hj
  | v :: _, _ :: _, h, 0, t, hj => by simp at hj; subst hj; exact ⟨v, rfl, h.1⟩
  | _ :: _, _ :: _, h, j + 1, t, hj => by
    obtain ⟨v, h1, h2⟩ := h.2.get j t (by simpa using hj)
    exact ⟨v, by simpa using h1, h2⟩
theorem exists_list {α : Type} {p : Nat → α → Prop} : ∀ (n : Nat), (∀ i, i < n → ∃ x, p i x) → ∃ l : List α, l.length = n ∧ ∀ i x, l[i]? = some x → p i x
  | 0, _ => ⟨[], rfl, fun i x h => by simp at h⟩
  | n + 1, h => by
    obtain ⟨l, h1, h2⟩ := exists_list n (fun i hi => h i (by omega))
    obtain ⟨x, hx⟩ := h n (by omega)
    refine ⟨l ++ [x], by simp [h1], fun i y hi => ?_⟩
    by_cases hlt : i < l.length
    · rw [List.getElem?_append_left hlt] at hi; exact h2 i y hi
    · rw [List.getElem?_append_right (by omega)] at hi
      have : i - l.length = 0 := by
        have := lt_of_get hi
        simp at this; omega
      rw [this] at hi
      simp at hi; subst hi
      have : i = n := by omega
      subst this; exact hx
theorem mapM_range_get {α : Type} {f : Nat → Option α} : ∀ {n : Nat} {l : List α}, (List.range n).mapM f = some l → l.length = n ∧ ∀ i, i < n → f i = l[i]? := by
  intro n l h
  have h1 := mapM_some_length h
  refine ⟨by simpa using h1, fun i hi => ?_⟩
  exact mapM_some_get h i i (by simp [hi])
theorem cell_inv {w : World} {b o : Nat} {v : Value} (h : w.cell? ⟨b, o, none⟩ = some v) : ∃ arr el fz, w.heap[b]? = some (.cells arr el fz) ∧ arr[o]? = some v := by
  unfold World.cell? at h
  split at h
  · rename_i c el fz hc
    exact ⟨c, el, fz, hc, by simpa using h⟩
  · cases h
theorem heap_lt {w : World} {b : Nat} {o : Obj} (h : w.heap[b]? = some o) : b < w.heap.size := by
  rcases Nat.lt_or_ge b w.heap.size with h1 | h1
  · exact h1
  · rw [Array.getElem?_eq_none h1] at h; cases h
abbrev All (w : World) : Nat → Prop := fun β => β < w.heap.size
theorem rd_fields {H : Type} {enc : TypeId × Value → H} {w : World} {sp : Nat → Bool} {held : Bool} {n d : Nat} {cs : List Value}
    (ih : ∀ (t : TypeId) (cs : List Value) (x : DataW H × List MemPlace), plainT P d t = true → DataW.trod enc P w 0 sp held n t cs = some x → ∃ ts, Reads w (All w) cs ts ∧ FitD P d t ts) :
    ∀ (fs : List Field) (o : Nat), contigB P o fs cs.length = true → (fs.all fun f => plainT P d f.type) = true →
      (∀ f, f ∈ fs → ∃ x, DataW.trod enc P w 0 sp held n f.type ((cs.drop f.offset).take (P.cellsOf f.type)) = some x) →
      ∃ ts, Reads w (All w) (cs.drop o) ts ∧ FitL (FitD P d) (fs.map (·.type)) ts
  | [], o, hc, _, _ => by
    simp only [contigB, beq_iff_eq] at hc
    refine ⟨[], ?_, rfl⟩
    rw [List.drop_eq_nil_of_le (by omega)]; trivial
  | f :: fs, o, hc, hp, hx => by
    simp only [contigB, Bool.and_eq_true, beq_iff_eq] at hc
    simp only [List.all_cons, Bool.and_eq_true] at hp
    obtain ⟨x, hx0⟩ := hx f (by simp)
    rw [hc.1] at hx0
    obtain ⟨ts, h1, h2⟩ := ih _ _ _ hp.1 hx0
    obtain ⟨us, h3, h4⟩ := rd_fields ih fs _ hc.2 hp.2 (fun g hg => hx g (by simp [hg]))
    refine ⟨ts ++ us, ?_, ⟨ts, us, rfl, h2, h4⟩⟩
    have : cs.drop o = (cs.drop o).take (P.cellsOf f.type) ++ cs.drop (o + P.cellsOf f.type) := by
      rw [← List.drop_drop, List.take_append_drop]
    rw [this]
    exact h1.append h3
theorem rd_trod {H : Type} {enc : TypeId × Value → H} {w : World} {sp : Nat → Bool} {held : Bool} : ∀ (d fuel : Nat) (t : TypeId) (cs : List Value) (x : DataW H × List MemPlace), plainT P d t = true → DataW.trod enc P w 0 sp held fuel t cs = some x → ∃ ts, Reads w (All w) cs ts ∧ FitD P d t ts
  | 0, _, _, _, _, hp, _ => by cases hp
  | d + 1, fuel, t, cs, x, hp, hx => by
    unfold plainT at hp
    unfold FitD
    split at hp
    · rename_i k hu
      obtain ⟨n, rfl, _, hw⟩ := DataW.trod_int hu hx
      exact ⟨[.val (.int k n)], ⟨.val _ rfl, trivial⟩, n, rfl, hw⟩
    · rename_i hu
      obtain ⟨b, rfl, _⟩ := DataW.trod_bool hu hx
      exact ⟨[.val (.bool b)], ⟨.val _ rfl, trivial⟩, b, rfl⟩
    · rename_i hu
      obtain ⟨b, rfl, _⟩ := DataW.trod_string hu hx
      exact ⟨[.val (.string b)], ⟨.val _ rfl, trivial⟩, b, rfl⟩
    · rename_i e hu
      simp only [Bool.and_eq_true, decide_eq_true_eq] at hp
      rcases DataW.trod_slice hu hx with ⟨rfl, _⟩ | ⟨a, len, cap, elems, rest, n, rfl, rfl, _, _, hl, _, hlen, hel, _, _⟩
      · exact ⟨[.sl []], ⟨.nil none 0, trivial⟩, [], rfl, fun row h => by cases h⟩
      · have hrow : ∀ i, i < len → ∃ row, ∃ csi, w.cells? 0 (a.add (i * P.cellsOf e)) (P.cellsOf e) = some csi ∧ Reads w (All w) csi row ∧ FitD P d e row := by
          intro i hi
          have h1 := hel i hi
          have h2 : elems[i]? = some (elems[i]'(by omega)) := by simp [show i < elems.length from by omega]
          rw [h2] at h1
          obtain ⟨csi, h3, h4⟩ := Option.bind_eq_some_iff.1 h1
          obtain ⟨row, h5, h6⟩ := rd_trod d n e csi _ hp.2 h4
          exact ⟨row, csi, h3, h5, h6⟩
        obtain ⟨rows, hrl, hrows⟩ := exists_list len hrow
        subst hrl
        refine ⟨[.sl rows], ⟨?_, trivial⟩, rows, rfl, fun row hm => ?_⟩
        · cases hr0 : rows with
          | nil => exact .nil _ _
          | cons r0 rs0 =>
            rw [← hr0]
            have hpos : 0 < rows.length := by rw [hr0]; simp
            -- each cell
            have hcell : ∀ (i : Nat) (row : List T) (j : Nat) (u : T), rows[i]? = some row → row[j]? = some u → j < P.cellsOf e ∧ ∃ v, w.cell? ((a.add (i * P.cellsOf e)).add j) = some v ∧ RdT w (All w) v u := by
              intro i row j u hi hj
              obtain ⟨csi, h1, h2, _⟩ := hrows i row hi
              obtain ⟨v, h3, h4⟩ := h2.get j u hj
              unfold World.cells? at h1
              rw [if_pos (Nat.zero_le _)] at h1
              obtain ⟨h5, h6⟩ := mapM_range_get h1
              have hjl : j < P.cellsOf e := by have := lt_of_get h3; omega
              exact ⟨hjl, v, by rw [h6 j hjl, h3], h4⟩
            have hrlen : ∀ (i : Nat) (row : List T), rows[i]? = some row → row.length = P.cellsOf e := by
              intro i row hi
              obtain ⟨csi, h1, h2, _⟩ := hrows i row hi
              unfold World.cells? at h1
              rw [if_pos (Nat.zero_le _)] at h1
              obtain ⟨h5, _⟩ := mapM_range_get h1
              rw [← h2.len, h5]
            have hget : ∀ i (hi : i < rows.length), rows[i]? = some (rows[i]'hi) := fun i hi => by simp [hi]
            have hr00 := hget 0 hpos
            have hl0 := hrlen 0 _ hr00
            obtain ⟨_, v0, hv0, _⟩ := hcell 0 _ 0 ((rows[0]'hpos)[0]'(by omega)) hr00 (by simp)
            have hadd0 : (a.add (0 * P.cellsOf e)).add 0 = a := by simp [Addr.add]
            rw [hadd0] at hv0
            have hspot := World.cell?_spot hv0
            obtain ⟨β, off, spot⟩ := a
            simp only at hspot
            subst hspot
            obtain ⟨arr, el, fz, hb, _⟩ := cell_inv hv0
            have hadd : ∀ i j : Nat, ((⟨β, off, none⟩ : Addr).add (i * P.cellsOf e)).add j = ⟨β, off + i * P.cellsOf e + j, none⟩ := by
              intro i j
              unfold Addr.add
              split
              · rename_i h1
                split
                · rename_i h2; rw [h2]; simp
                · rename_i h2; simp only [Addr.mk.injEq, true_and, and_true]; omega
              · split <;> simp_all <;> omega
            have hat : ∀ (i : Nat) (row : List T) (j : Nat) (u : T), rows[i]? = some row → row[j]? = some u → off + i * P.cellsOf e + j < arr.size ∧ RdT w (All w) (cellAt arr (off + i * P.cellsOf e + j)) u := by
              intro i row j u hi hj
              obtain ⟨_, v, h1, h2⟩ := hcell i row j u hi hj
              rw [hadd] at h1
              obtain ⟨arr', el', fz', h3, h4⟩ := cell_inv h1
              rw [hb] at h3; cases h3
              have hlt : off + i * P.cellsOf e + j < arr.size := by
                rcases Nat.lt_or_ge (off + i * P.cellsOf e + j) arr.size with h | h
                · exact h
                · rw [Array.getElem?_eq_none h] at h4; cases h4
              refine ⟨hlt, ?_⟩
              have : cellAt arr (off + i * P.cellsOf e + j) = v := by unfold cellAt; rw [h4]; rfl
              rw [this]; exact h2
            refine .sl β off cap (P.cellsOf e) arr el fz rows (heap_lt hb) hb hl ?_ hrlen (fun i row j u hi hj => (hat i row j u hi hj).2)
            have hil := hget (rows.length - 1) (by omega)
            have hll := hrlen _ _ hil
            have h7 := (hat (rows.length - 1) _ (P.cellsOf e - 1) ((rows[rows.length - 1]'(by omega))[P.cellsOf e - 1]'(by omega)) hil (by simp)).1
            have h8 : rows.length * P.cellsOf e = (rows.length - 1) * P.cellsOf e + P.cellsOf e := by
              rw [← Nat.succ_mul]; congr 1; omega
            omega
        · obtain ⟨i, hi⟩ := List.mem_iff_getElem?.1 hm
          obtain ⟨_, _, _, h⟩ := hrows i row hi
          exact h
    · rename_i fs hu
      simp only [Bool.and_eq_true] at hp
      obtain ⟨xs, n, rfl, _, hcl, hxl, hf⟩ := DataW.trod_struct hu hx
      have := rd_fields (enc := enc) (sp := sp) (held := held) (cs := cs) (fun t cs x h1 h2 => rd_trod d n t cs x h1 h2) fs.toList 0 (by rw [hcl]; exact hp.1) hp.2 (fun f hm => by
        obtain ⟨i, hi⟩ := List.mem_iff_getElem?.1 hm
        have hi' : fs[i]? = some f := by simpa using hi
        have h1 := hf i f hi'
        have hlt : i < fs.size := by
          have := lt_of_get hi
          simpa using this
        exact ⟨xs[i]'(by omega), by rw [h1]; simp [show i < xs.length from by omega]⟩)
      simpa using this
    · cases hp
end
end Go.Lift

/- From a contract on trees to a law's own statement. No condition. -/
namespace Go.Lift
open Go.RowKit Go.ChangeShapes Go.WideShapes
section
variable {P : Program}
def dOf (P : Program) (t : TypeId) (us : List T) : D := match P.underlying t with
  | some (.struct _) => .e (.agg (us.map .pure))
  | _ => .e (.one (.pure (us.headD .nil0)))
def FitArgs (P : Program) (d : Nat) : List TypeId → List D → Prop
  | [], [] => True
  | t :: ts, x :: xs => (∃ us, FitD P d t us ∧ x = dOf P t us) ∧ FitArgs P d ts xs
  | _, _ => False
theorem rd_arg {H : Type} {enc : TypeId × Value → H} {w : World} {d base : Nat} {t : TypeId} {v : Value} {x : DataW H} {ps : List MemPlace} (hp : plainT P d t = true) (hval : Value.okWide P w .any base t v) (h : DataW.Trod enc P w 0 (fun _ => true) true t v x ps) :
    ∃ us, FitD P d t us ∧ RdD P w (G0 (All w)) v (dOf P t us) := by
  obtain ⟨fuel, hf⟩ := h
  obtain ⟨us, h1, h2⟩ := rd_trod d fuel t _ _ hp hf
  refine ⟨us, h2, ?_⟩
  have single : ∀ (v : Value), v.cells.toList = [v] → Reads w (All w) v.cells.toList us → RdD P w (G0 (All w)) v (.e (.one (.pure (us.headD .nil0)))) := by
    intro v hv hr
    rw [hv] at hr
    match us, hr with
    | [u], hr => exact hr.1
  unfold dOf
  cases d with
  | zero => cases hp
  | succ d =>
    unfold plainT at hp
    split at hp
    · rename_i k hu
      rw [hu]
      obtain ⟨n, rfl⟩ := okWide_int hu hval
      exact single _ rfl h1
    · rename_i hu
      rw [hu]
      obtain ⟨n, rfl⟩ := okWide_bool hu hval
      exact single _ rfl h1
    · rename_i hu
      rw [hu]
      obtain ⟨n, rfl⟩ := okWide_string hu hval
      exact single _ rfl h1
    · rename_i e hu
      rw [hu]
      obtain ⟨a, len, cap, rfl⟩ := okWide_slice hu hval
      exact single _ rfl h1
    · rename_i fs hu
      rw [hu]
      simp only [Value.okWide, hu] at hval
      obtain ⟨cs, rfl, _, _⟩ := hval
      have h1 : Reads w (All w) cs.toList us := h1
      refine ⟨cs, rfl, by simpa using h1.len, fun j c hj => ?_⟩
      rw [List.getElem?_map] at hj
      cases hx : us[j]? with
      | none => rw [hx] at hj; cases hj
      | some u =>
        rw [hx] at hj; cases hj
        obtain ⟨v, h3, h4⟩ := h1.get j u hx
        have : cellAt cs j = v := by unfold cellAt; rw [show cs[j]? = some v from by simpa using h3]; rfl
        rw [this]; exact h4
    · cases hp
theorem rd_args {H : Type} {enc : TypeId × Value → H} {w : World} {d base : Nat} : ∀ {ts : List TypeId} {vs : List Value} {ds : List (DataW H)} {ps : List MemPlace}, (ts.all (plainT P d)) = true → (∀ (j : Nat) t v, ts[j]? = some t → vs[j]? = some v → Value.okWide P w .any base t v) →
    DataW.TrodAll enc P w 0 (fun _ => true) true ts vs ds ps → ∃ Ds, FitArgs P d ts Ds ∧ vs.length = Ds.length ∧ ds.length = ts.length ∧ ∀ (j : Nat) (x : D), Ds[j]? = some x → ∃ v, vs[j]? = some v ∧ RdD P w (G0 (All w)) v x
  | [], [], [], _, _, _, _ => ⟨[], trivial, rfl, rfl, fun j x h => by simp at h⟩
  | t :: ts, v :: vs, x :: xs, _, hp, hval, h => by
    obtain ⟨p, q, h1, h2, _⟩ := h
    simp only [List.all_cons, Bool.and_eq_true] at hp
    obtain ⟨us, h3, h4⟩ := rd_arg hp.1 (hval 0 t v rfl rfl) h1
    obtain ⟨Ds, h5, h6, h7, h8⟩ := rd_args hp.2 (fun j t v hj hv => hval (j + 1) t v (by simpa using hj) (by simpa using hv)) h2
    refine ⟨dOf P t us :: Ds, ⟨⟨us, h3, rfl⟩, h5⟩, by simp [h6], by simp [h7], fun j y hj => ?_⟩
    cases j with
    | zero => simp at hj; subst hj; exact ⟨v, rfl, h4⟩
    | succ j =>
      obtain ⟨v', g1, g2⟩ := h8 j y (by simpa using hj)
      exact ⟨v', by simpa using g1, g2⟩
  | [], [], _ :: _, _, _, _, h => h.elim
  | [], _ :: _, _, _, _, _, h => by cases ‹List (DataW H)› <;> exact h.elim
  | _ :: _, [], _, _, _, _, h => by cases ‹List (DataW H)› <;> exact h.elim
  | _ :: _, _ :: _, [], _, _, _, h => h.elim
theorem trodAll_below {H : Type} {enc : TypeId × Value → H} (hl : laidOutB P = true) {W W' : World} (hb : Below W.heap.size W W') : ∀ {ts : List TypeId} {vs : List Value} {ds : List (DataW H)} {ps : List MemPlace}, (ts.all fun t => P.readableRec t && decide (t < P.types.size)) = true →
    DataW.TrodAll enc P W 0 (fun _ => true) true ts vs ds ps → (∀ x ∈ ps, x.block < W.heap.size) → DataW.TrodAll enc P W' 0 (fun b => decide (b < W.heap.size)) true ts vs ds ps
  | [], [], [], _, _, h, _ => h
  | t :: ts, v :: vs, x :: xs, _, hr, h, hlt => by
    obtain ⟨p, q, h1, h2, rfl⟩ := h
    simp only [List.all_cons, Bool.and_eq_true, decide_eq_true_eq] at hr
    refine ⟨p, q, Below.trod hl hr.1.1 hr.1.2 h1 hb (fun y hy => hlt y (by simp [hy])), trodAll_below hl hb (by simpa using hr.2) h2 (fun y hy => hlt y (by simp [hy])), rfl⟩
  | [], [], _ :: _, _, _, h, _ => h.elim
  | [], _ :: _, _, _, _, h, _ => by cases ‹List (DataW H)› <;> exact h.elim
  | _ :: _, [], _, _, _, h, _ => by cases ‹List (DataW H)› <;> exact h.elim
  | _ :: _, _ :: _, [], _, _, h, _ => h.elim
theorem law_lifted {H : Type} {enc : TypeId × Value → H} {C : Checked} {os : Os} {f : FuncId} {fn : Func} {s : ChangeSpec} {conds : List PathCond} {tb : TypeId} {d : Nat}
    (own : ownKnob C.prog.godebug = none) (started : os.Started) (noInit : C.prog.inits.idxOf? f = none) (hfn : C.prog.funcs[f]? = some fn)
    (witness : ∃ (w : World) (tape : Tape) (i : Input), w.os = os ∧ (w.forCall tape i).Shaped C.prog ∧ i.vars = [] ∧ Input.okWide C.prog (w.forCall tape i) .any w.heap.size f i ∧
      s.pre6 enc C.prog fn conds false (w.forCall tape i).memory i.args ∧ ({} : Assume).holds C.prog (lone (Frame.enter C.prog f i.args .normal) [] (w.forCall tape i)))
    (hv : s.vars = []) (hs : ∀ ds : List (DataW H), ds.length = fn.params.toList.length → s.fn H (ds ++ []) = { results := [.lit (.bool true)], args := ds })
    (hres : fn.resultTypes = #[tb]) (htb : C.prog.underlying tb = some .bool) (hl : laidOutB C.prog = true)
    (hread : (fn.params.toList.all fun t => C.prog.readableRec t && decide (t < C.prog.types.size)) = true) (hplain : (fn.params.toList.all (plainT C.prog d)) = true)
    (law : ∀ Ds, FitArgs C.prog d fn.params.toList Ds → Contract C.prog f Ds [] (.e (.one (.pure (.val (.bool true)))))) :
    ReturnsInHanded {} C os f .any (s.pre6 enc C.prog fn conds false) (s.post enc C.prog fn false true false false) := by
  refine returnsInHanded_of_change own started noInit hfn witness ?_
  intro W base args ds gs before hval hW _ _
  have hW' := hW
  obtain ⟨p, q, hA, hV, rfl, _, _⟩ := hW
  rw [hv] at hV
  obtain ⟨rfl, rfl⟩ := trodVars_none hV
  obtain ⟨Ds, h1, h2, h3, h4⟩ := rd_args hplain (fun j t v hj hvj => hval j t v (by simpa using hj) (by simpa using hvj)) hA
  have hlt : ∀ x ∈ p, x.block < W.heap.size := fun x hx => hW'.lt x (by simp [hx])
  refine (law Ds h1 W (All W) args (fun β h => h) (by simpa using h2) ?_).mono ?_
  · intro j x hj
    obtain ⟨v, g1, g2⟩ := h4 j x hj
    have : cellAt args j = v := by unfold cellAt; rw [show args[j]? = some v from by simpa using g1]; rfl
    rw [this]; exact g2
  · rintro e W' ⟨v, G', rfl, hb, _, _, hr, _⟩
    have hvb : v = .bool true := by
      have h5 : RdT W' G'.S v (.val (.bool true)) := hr
      cases h5; rfl
    subst hvb
    refine ⟨_, rfl, ds, [], p ++ [], [], p, [], hW', ?_, ?_, ?_, hb.frame _, fun h => by cases h⟩
    · rw [hs ds h3, hres]
      exact trodAll_mk1 (shut_bool htb true)
    · rw [hs ds h3]
      exact trodAll_below hl hb hread hA hlt
    · rw [hs ds h3, hv]
      rfl
end
end Go.Lift

/- Trees of plain types as typed values. No condition. -/
namespace Go.Lift
open Go.RowKit
section
variable {P : Program}
def Dec {α : Type} (P : Program) (t : TypeId) (e : α → List T) (W : α → Prop) : Prop := ∀ (d : Nat) (ts : List T), FitD P d t ts → ∃ x, ts = e x ∧ W x
theorem dec_int {t : TypeId} {k : IntKind} {e : Int → List T} (h : intB P t k = true) (he : ∀ n, e n = [.val (.int k n)]) : Dec P t e (fun n => (Lit.int k n).wf = true) := by
  intro d ts hf
  cases d with
  | zero => exact hf.elim
  | succ d =>
    unfold intB at h
    unfold FitD at hf
    split at h
    · rename_i k' hu
      rw [hu] at hf
      obtain ⟨n, rfl, hw⟩ := hf
      have : k' = k := by simpa using h
      subst this
      exact ⟨n, (he n).symm, hw⟩
    · cases h
theorem dec_bool {t : TypeId} {e : Bool → List T} (h : boolB P t = true) (he : ∀ n, e n = [.val (.bool n)]) : Dec P t e (fun _ => True) := by
  intro d ts hf
  cases d with
  | zero => exact hf.elim
  | succ d =>
    unfold boolB at h
    unfold FitD at hf
    split at h
    · rename_i hu
      rw [hu] at hf
      obtain ⟨n, rfl⟩ := hf
      exact ⟨n, (he n).symm, trivial⟩
    · cases h
theorem map_of_all {α : Type} {e : α → List T} {W : α → Prop} : ∀ (rows : List (List T)), (∀ row, row ∈ rows → ∃ x, row = e x ∧ W x) → ∃ xs : List α, rows = xs.map e ∧ ∀ x, x ∈ xs → W x
  | [], _ => ⟨[], rfl, fun x h => by cases h⟩
  | r :: rows, h => by
    obtain ⟨x, rfl, hx⟩ := h r (by simp)
    obtain ⟨xs, rfl, hxs⟩ := map_of_all rows (fun row hr => h row (by simp [hr]))
    exact ⟨x :: xs, rfl, fun y hy => by
      rcases List.mem_cons.1 hy with e | e
      · subst e; exact hx
      · exact hxs y e⟩
theorem dec_slice {α : Type} {t el : TypeId} {e : α → List T} {W : α → Prop} {e2 : List α → List T} (h : sliceB P t el = true) (he : Dec P el e W) (h2 : ∀ xs, e2 xs = [.sl (xs.map e)]) : Dec P t e2 (fun xs => ∀ x, x ∈ xs → W x) := by
  intro d ts hf
  cases d with
  | zero => exact hf.elim
  | succ d =>
    unfold sliceB at h
    unfold FitD at hf
    split at h
    · rename_i e' hu
      rw [hu] at hf
      obtain ⟨rows, rfl, hr⟩ := hf
      have : e' = el := by simpa using h
      subst this
      obtain ⟨xs, rfl, hxs⟩ := map_of_all rows (fun row hm => he d row (hr row hm))
      exact ⟨xs, (h2 xs).symm, hxs⟩
    · cases h
def fieldTys (P : Program) (t : TypeId) : Option (List TypeId) := match P.underlying t with | some (.struct fs) => some (fs.toList.map (·.type)) | _ => none
theorem fit_struct {t : TypeId} {tys : List TypeId} (h : fieldTys P t = some tys) {d : Nat} {ts : List T} (hf : FitD P d t ts) : ∃ d', FitL (FitD P d') tys ts := by
  cases d with
  | zero => exact hf.elim
  | succ d =>
    unfold fieldTys at h
    unfold FitD at hf
    split at h
    · rename_i fs hu
      cases h
      rw [hu] at hf
      exact ⟨d, hf⟩
    · cases h
theorem dOf_struct {t : TypeId} {tys : List TypeId} (h : fieldTys P t = some tys) (us : List T) : dOf P t us = .e (.agg (us.map .pure)) := by
  unfold fieldTys at h
  unfold dOf
  revert h
  cases P.underlying t with
  | none => intro h; cases h
  | some k => cases k <;> intro h <;> first | rfl | cases h
theorem dOf_one {t : TypeId} (h : fieldTys P t = none) (us : List T) : dOf P t us = .e (.one (.pure (us.headD .nil0))) := by
  unfold fieldTys at h
  unfold dOf
  revert h
  cases P.underlying t with
  | none => intro _; rfl
  | some k => cases k <;> intro h <;> first | rfl | cases h
theorem fitArgs_cons {d : Nat} {t : TypeId} {ts : List TypeId} {Ds : List D} (h : FitArgs P d (t :: ts) Ds) : ∃ us xs, Ds = dOf P t us :: xs ∧ FitD P d t us ∧ FitArgs P d ts xs := by
  cases Ds with
  | nil => exact h.elim
  | cons x xs => obtain ⟨⟨us, h1, rfl⟩, h2⟩ := h; exact ⟨us, xs, rfl, h1, h2⟩
theorem fitArgs_nil {d : Nat} {Ds : List D} (h : FitArgs P d [] Ds) : Ds = [] := by
  cases Ds with
  | nil => rfl
  | cons x xs => exact h.elim
end
end Go.Lift

/- Contracts of functions that write into blocks that they are lent, and that give back blocks of any kind. No condition. -/
namespace Go.Lift
open Go.RowKit
variable {P : Program} {X : Ctx} {ops : Array Oper}
instance : Inhabited Blk := ⟨.gone⟩
def inDom (n m b : Nat) : Bool := if isLent b then Nat.blt (b - 90000) n else Nat.blt b m
def lentL (G : Gh) (n : Nat) (β : Nat) : Prop := ∃ k, k < n ∧ G.has (90000 + k) β
theorem isLent_add {k : Nat} (h : k < 1000) : isLent (90000 + k) = true := by
  unfold isLent
  rw [Nat.ble_eq_true_of_le (by omega), Nat.ble_eq_true_of_le (by omega)]; rfl
theorem isLent_out {b : Nat} (h : isLent b = true) : ∃ k, k < 1000 ∧ b = 90000 + k := by
  unfold isLent at h
  rw [Bool.and_eq_true] at h
  have h1 := Nat.le_of_ble_eq_true h.1
  have h2 := Nat.le_of_ble_eq_true h.2
  exact ⟨b - 90000, by omega, by omega⟩
def ContractM (P : Program) (f : FuncId) (args : List D) (lent : List (Blk × Blk)) (rv : List Blk) (res : D) : Prop :=
  ∀ (w : World) (G : Gh) (vs : Array Value), (∀ β, G.S β → β < w.heap.size) →
    (∀ (k : Nat) (x : Blk × Blk), lent[k]? = some x → BlkOk P w G (90000 + k) x.1) →
    (∀ k β, k < lent.length → G.has (90000 + k) β → β < w.heap.size ∧ ¬ G.S β) →
    (∀ k l β, k < lent.length → l < lent.length → G.has (90000 + k) β → G.has (90000 + l) β → k = l) →
    vs.size = args.length → (∀ (j : Nat) (d : D), args[j]? = some d → RdD P w G (cellAt vs j) d) →
    Calls P f vs w fun e w' => ∃ v G', e = .returned v ∧ BelowL (lentL G lent.length) w.heap.size w w' ∧ (∀ β, G.S β → G'.S β) ∧ (∀ β, G'.S β → G.S β ∨ (w.heap.size ≤ β ∧ β < w'.heap.size)) ∧ RdD P w' G' v res ∧
      (∀ (k : Nat) (x : Blk × Blk), lent[k]? = some x → BlkOk P w' G' (90000 + k) x.2) ∧
      (∀ (k : Nat) (x : Blk), rv[k]? = some x → BlkOk P w' G' k x) ∧
      (∀ k, k < lent.length → G'.loc (90000 + k) = G.loc (90000 + k) ∧ G'.hd (90000 + k) = G.hd (90000 + k) ∧ G'.more (90000 + k) = G.more (90000 + k)) ∧
      (∀ k β, k < lent.length → G'.has (90000 + k) β → ¬ G'.S β) ∧
      (∀ k β, k < rv.length → G'.has k β → w.heap.size ≤ β ∧ β < w'.heap.size ∧ ¬ G'.S β) ∧
      (∀ k l β, k < rv.length → l < rv.length → G'.has k β → G'.has l β → k = l)
def initM (args : List D) (lent : List (Blk × Blk)) : St := ⟨fun s => args[s]?, fun b => if isLent b then (lent[b - 90000]?).map (·.1) else none⟩
def lentsAt (bx : Nat → Option Blk) (f : Nat → Nat) : Nat → List (Blk × Blk) → Prop
  | _, [] => True
  | k, x :: xs => bx (90000 + k) = some (x.2.ren f) ∧ lentsAt bx f (k + 1) xs
def blksAt (bx : Nat → Option Blk) (f : Nat → Nat) : Nat → List Blk → Prop
  | _, [] => True
  | k, x :: xs => bx (1000 + k) = some (x.ren f) ∧ blksAt bx f (k + 1) xs
theorem lentsAt_get {bx : Nat → Option Blk} {f : Nat → Nat} : ∀ {l : List (Blk × Blk)} {m : Nat}, lentsAt bx f m l → ∀ (k : Nat) (x : Blk × Blk), l[k]? = some x → bx (90000 + (m + k)) = some (x.2.ren f)
  | y :: rv, m, h, 0, x, hk => by simp at hk; subst hk; exact h.1
  | y :: rv, m, h, k + 1, x, hk => by
    have := lentsAt_get h.2 k x (by simpa using hk)
    rwa [show m + 1 + k = m + (k + 1) from by omega] at this
theorem blksAt_get {bx : Nat → Option Blk} {f : Nat → Nat} : ∀ {l : List Blk} {m : Nat}, blksAt bx f m l → ∀ (k : Nat) (x : Blk), l[k]? = some x → bx (1000 + (m + k)) = some (x.ren f)
  | y :: rv, m, h, 0, x, hk => by simp at hk; subst hk; exact h.1
  | y :: rv, m, h, k + 1, x, hk => by
    have := blksAt_get h.2 k x (by simpa using hk)
    rwa [show m + 1 + k = m + (k + 1) from by omega] at this
def outN (b : Nat) : Nat := if isLent b then b else 1000 + b
structure RetOkM (P : Program) (rs : List ResultVar) (st : St) (lent : List (Blk × Blk)) (rv : List Blk) (res : D) : Prop where
  r : ∃ xs, RRs P st rs xs ∧ resD xs = res.ren outN
  l : lentsAt st.bx outN 0 lent
  v : blksAt st.bx outN 0 rv
def namesIn (n m : Nat) (l : List Nat) : Bool := l.all (inDom n m)
theorem contractM_of_W {f n : Nat} {fn : Func} {c : Code} {args : List D} {lent : List (Blk × Blk)} {rv : List Blk} {res : D} {rs : List ResultVar} (hf : P.funcs[f]? = some fn) (hb : fn.body = some c) (hn : fn.ntmps = n) (hrs : fn.results.toList = rs) (hl : args.length ≤ n) (hn9 : n ≤ 90000)
    (hargs : (args.all fun d => namesIn lent.length 0 d.names) = true) (hpre : (lent.all fun x => namesIn lent.length 0 x.1.names && x.1.real && x.2.real) = true) (hll : lent.length ≤ 1000) (hrl : (rv.all fun x => x.real) = true) (hrn : rv.length ≤ 1000)
    (h : ∀ (w0 : World) (S0 : Nat → Prop) (GL : Gh), W P ⟨w0, S0, n, GL⟩ c (fun e st => match e with | .normal | .ret => RetOkM P rs st lent rv res | _ => False) (initM args lent)) : ContractM P f args lent rv res := by
  subst hn; subst hrs
  intro w G vs hS hlb hla hli hlen hrd
  refine calls_of_wp hf hb ?_
  have hcell : ∀ j, j < args.length → cellAt (vs ++ Array.replicate (fn.ntmps - vs.size) undef) j = cellAt vs j := fun j hj => cellAt_append_left (by omega)
  -- the ghost that knows of what is lent alone
  let dom : Nat → Prop := fun b => isLent b = true ∧ b - 90000 < lent.length
  have hdec : ∀ b, Decidable (dom b) := fun b => inferInstanceAs (Decidable (_ ∧ _))
  let GL : Gh := { S := G.S, loc := fun b => if dom b then G.loc b else none, hd := fun b => if dom b then G.hd b else undef, more := fun b => if dom b then G.more b else fun _ => False }
  have hext : G.ext GL dom := ⟨fun _ h => h, fun b hb => if_pos hb, fun b hb => if_pos hb, fun b hb => if_pos hb⟩
  have hdomk : ∀ k, k < lent.length → dom (90000 + k) := fun k hk => ⟨isLent_add (by omega), by omega⟩
  have hin : ∀ b, inDom lent.length 0 b = true → dom b := by
    intro b hb
    unfold inDom at hb
    split at hb
    · rename_i hl; exact ⟨hl, by rwa [Nat.blt_eq] at hb⟩
    · simp [Nat.blt] at hb
  have hhas : ∀ b β, GL.has b β → dom b ∧ G.has b β := by
    intro b β hb
    by_cases hd : dom b
    · exact ⟨hd, (hext.has hd).1 hb⟩
    · exfalso
      unfold Gh.has at hb
      simp only [GL] at hb
      rw [if_neg hd, if_neg hd] at hb
      rcases hb with h | h
      · cases h
      · exact h
  have hlent : ∀ β, GL.lent β ↔ lentL G lent.length β := by
    intro β
    constructor
    · rintro ⟨b, hb, hb2⟩
      obtain ⟨hd, hg⟩ := hhas b β hb2
      obtain ⟨k, _, rfl⟩ := isLent_out hb
      exact ⟨k, by have := hd.2; omega, hg⟩
    · rintro ⟨k, hk, hg⟩
      exact ⟨90000 + k, isLent_add (by omega), (hext.has (hdomk k hk)).2 hg⟩
  have hbx : ∀ b k, (initM args lent).bx b = some k → dom b ∧ ∃ x, lent[b - 90000]? = some x ∧ x.1 = k := by
    intro b k hk
    simp only [initM] at hk
    split at hk
    · rename_i hb
      cases hx : lent[b - 90000]? with
      | none => rw [hx] at hk; cases hk
      | some x => rw [hx] at hk; cases hk; exact ⟨⟨hb, lt_of_get hx⟩, x, rfl, rfl⟩
    · cases hk
  have hdn : ∀ b, dom b → ((initM args lent).bx b).isSome = true := by
    intro b hb
    simp only [initM]
    rw [if_pos hb.1]
    simp [hb.2]
  have hpre' : ∀ x, x ∈ lent → namesIn lent.length 0 x.1.names = true ∧ x.1.real = true ∧ x.2.real = true := fun x hx => by
    have := List.all_eq_true.1 hpre x hx
    rw [Bool.and_eq_true, Bool.and_eq_true] at this
    exact ⟨this.1.1, this.1.2, this.2⟩
  have hbk : ∀ b, dom b → b = 90000 + (b - 90000) := fun b hb => by obtain ⟨k, _, e⟩ := isLent_out hb.1; omega
  have hinit : SimG P ⟨w, G.S, fn.ntmps, GL⟩ GL (initM args lent) { tmps := vs ++ Array.replicate (fn.ntmps - vs.size) undef, defers := [] } w := by
    refine { S_lt := hS, S_src := fun β h => .inl h, S_0 := fun β h => h, S0_lt := hS, tsz := by simp; omega, defers := rfl, below := BelowL.refl _ _ _, nlt := hn9, lent := fun _ _ => ⟨rfl, rfl, rfl⟩, blk := ?_, at_ok := ?_, at_inj := ?_, env := ?_, live := ?_, liveB := ?_ }
    · intro b k hk
      obtain ⟨hd, x, hx, rfl⟩ := hbx b k hk
      have h1 := hlb _ x hx
      rw [← hbk b hd] at h1
      exact h1.mono hext hd (fun _ _ => rfl) (fun _ _ _ => rfl) fun c hc => hin c (List.all_eq_true.1 (hpre' x (List.mem_of_getElem? hx)).1 c hc)
    · intro b k β hk hr hβ
      obtain ⟨hd, hg⟩ := hhas b β hβ
      rw [hbk b hd] at hg
      have := hla _ β hd.2 hg
      exact ⟨⟨fun h3 => (by rw [hd.1] at h3; cases h3), .inr ⟨b, hd.1, hβ⟩⟩, this.1, this.2⟩
    · intro b c k l β hk hl hr hr' hβ hβ'
      obtain ⟨hd, hg⟩ := hhas b β hβ
      obtain ⟨hd', hg'⟩ := hhas c β hβ'
      rw [hbk b hd] at hg
      rw [hbk c hd'] at hg'
      have := hli _ _ β hd.2 hd'.2 hg hg'
      rw [hbk b hd, hbk c hd', this]
    · intro s d hs
      have hs' : args[s]? = some d := hs
      rw [hcell s (lt_of_get hs')]
      exact (hrd s d hs').mono hext (fun _ _ => rfl) fun b hb => hin b (List.all_eq_true.1 (List.all_eq_true.1 hargs d (List.mem_of_getElem? hs')) b hb)
    · intro s d hs b hb
      have hs' : args[s]? = some d := hs
      exact hdn b (hin b (List.all_eq_true.1 (List.all_eq_true.1 hargs d (List.mem_of_getElem? hs')) b hb))
    · intro b k hk c hc
      obtain ⟨hd, x, hx, rfl⟩ := hbx b k hk
      exact hdn c (hin c (List.all_eq_true.1 (hpre' x (List.mem_of_getElem? hx)).1 c hc))
  refine wp_mono (h w G.S GL _ w ⟨_, hinit⟩) ?_
  rintro e a' w' ⟨st', hq, G2, hs⟩
  have key : RetOkM P fn.results.toList st' lent rv res → a'.defers = [] ∧ ∃ v, (results fn a'.tmps).run P w' = .ok v w' ∧ ∃ v' G', Ending.returned v = .returned v' ∧ BelowL (lentL G lent.length) w.heap.size w w' ∧ (∀ β, G.S β → G'.S β) ∧ (∀ β, G'.S β → G.S β ∨ (w.heap.size ≤ β ∧ β < w'.heap.size)) ∧ RdD P w' G' v' res ∧
      (∀ (k : Nat) (x : Blk × Blk), lent[k]? = some x → BlkOk P w' G' (90000 + k) x.2) ∧
      (∀ (k : Nat) (x : Blk), rv[k]? = some x → BlkOk P w' G' k x) ∧
      (∀ k, k < lent.length → G'.loc (90000 + k) = G.loc (90000 + k) ∧ G'.hd (90000 + k) = G.hd (90000 + k) ∧ G'.more (90000 + k) = G.more (90000 + k)) ∧
      (∀ k β, k < lent.length → G'.has (90000 + k) β → ¬ G'.S β) ∧
      (∀ k β, k < rv.length → G'.has k β → w.heap.size ≤ β ∧ β < w'.heap.size ∧ ¬ G'.S β) ∧
      (∀ k l β, k < rv.length → l < rv.length → G'.has k β → G'.has l β → k = l) := by
    rintro ⟨⟨xs, hr1, hr2⟩, hlp, hv⟩
    obtain ⟨us, h1, h2, h3⟩ := hs.rrs hr1
    have hoL : ∀ k, k < lent.length → outN (90000 + k) = 90000 + k := fun k hk => by unfold outN; rw [isLent_add (by omega)]; rfl
    have hoN : ∀ k, k < rv.length → outN k = 1000 + k := fun k hk => by unfold outN; rw [not_lent (show k < 1000 by omega) (by omega)]; rfl
    have hbl : ∀ (k : Nat) (x : Blk × Blk), lent[k]? = some x → st'.bx (90000 + k) = some (x.2.ren outN) := fun k x hk => by
      have := lentsAt_get hlp k x hk
      rwa [Nat.zero_add] at this
    have hbv : ∀ (k : Nat) (x : Blk), rv[k]? = some x → st'.bx (1000 + k) = some (x.ren outN) := fun k x hk => by
      have := blksAt_get hv k x hk
      rwa [Nat.zero_add] at this
    have hreal : ∀ (k : Nat) (x : Blk), rv[k]? = some x → (x.ren outN).real = true := fun k x hk => by
      rw [ren_real]; exact List.all_eq_true.1 hrl x (List.mem_of_getElem? hk)
    have hgl : ∀ k, k < lent.length → G2.loc (90000 + k) = G.loc (90000 + k) ∧ G2.hd (90000 + k) = G.hd (90000 + k) ∧ G2.more (90000 + k) = G.more (90000 + k) := fun k hk => by
      obtain ⟨e1, e2, e3⟩ := hs.lent (90000 + k) (isLent_add (by omega))
      exact ⟨e1.trans (hext.loc _ (hdomk k hk)), e2.trans (hext.hd _ (hdomk k hk)), e3.trans (hext.more _ (hdomk k hk))⟩
    refine ⟨hs.defers, (if h : us.toArray.size = 1 then us.toArray[0] else .tuple us.toArray), ?_, _, { S := G2.S, loc := fun b => G2.loc (outN b), hd := fun b => G2.hd (outN b), more := fun b => G2.more (outN b) }, rfl, ?_, hs.S_0, ?_, ?_, ?_, ?_, ?_, ?_, ?_, ?_⟩
    · unfold results
      refine run_then (a := us.toArray) (w1 := w') ?_ rfl
      rw [Array.mapM_eq_mapM_toList]
      simp only [Sem.run_map]
      exact congrArg (fun r => Result.andThen r fun a w' => Result.ok a.toArray w') h1
    · have hb := hs.below
      exact ⟨hb.os, hb.tape, hb.output, hb.size, fun k hk hl => hb.block k hk fun h => hl ((hlent k).1 h)⟩
    · intro β hβ
      rcases hs.S_src β hβ with h | h
      · exact .inl h
      · exact .inr ⟨h, hs.S_lt β hβ⟩
    · refine ren_back_D (f := outN) ?_
      rw [← hr2]
      match xs, us, h2 with
      | [], [], _ => exact ⟨#[], rfl, rfl, fun j x h => by simp at h⟩
      | [x], [u], _ => exact h3 0 u x rfl rfl
      | x :: y :: xs, u :: u' :: us, hl2 =>
        refine ⟨(u :: u' :: us).toArray, by simp, by simpa using hl2, fun j z hj => ?_⟩
        have hlt := lt_of_get hj
        have hu : (u :: u' :: us)[j]? = some ((u :: u' :: us)[j]'(by rw [hl2]; exact hlt)) := by rw [List.getElem?_eq_getElem]
        have := h3 j _ z hu hj
        have hc : cellAt (u :: u' :: us).toArray j = (u :: u' :: us)[j]'(by rw [hl2]; exact hlt) := by
          unfold cellAt
          rw [List.getElem?_toArray, hu]; rfl
        rw [hc]; exact this
    · intro k x hk
      refine ren_back_B (f := outN) ?_
      rw [hoL k (lt_of_get hk)]
      exact hs.blk _ _ (hbl k x hk)
    · intro k x hk
      refine ren_back_B (f := outN) ?_
      rw [hoN k (lt_of_get hk)]
      exact hs.blk _ _ (hbv k x hk)
    · intro k hk
      simp only [hoL k hk]
      exact hgl k hk
    · intro k β hk hβ
      have hx : lent[k]? = some lent[k] := by simp [hk]
      have hβ : G2.has (90000 + k) β := by
        unfold Gh.has at hβ ⊢
        simp only [hoL k hk] at hβ
        exact hβ
      exact (hs.at_ok _ _ β (hbl k _ hx) (by rw [ren_real]; exact (hpre' _ (List.mem_of_getElem? hx)).2.2) hβ).2.2
    · intro k β hk hβ
      have hx : rv[k]? = some rv[k] := by simp [hk]
      have hβ : G2.has (1000 + k) β := by
        unfold Gh.has at hβ ⊢
        simp only [hoN k hk] at hβ
        exact hβ
      have := hs.at_ok _ _ β (hbv k _ hx) (hreal k _ hx) hβ
      exact ⟨this.1.1 (not_lent (show 1000 + k < 3000 by omega) (by omega)), this.2⟩
    · intro k l β hk hl hβ hβ'
      have hx : rv[k]? = some rv[k] := by simp [hk]
      have hx' : rv[l]? = some rv[l] := by simp [hl]
      have hβ : G2.has (1000 + k) β := by
        unfold Gh.has at hβ ⊢
        simp only [hoN k hk] at hβ
        exact hβ
      have hβ' : G2.has (1000 + l) β := by
        unfold Gh.has at hβ' ⊢
        simp only [hoN l hl] at hβ'
        exact hβ'
      have := hs.at_inj _ _ _ _ β (hbv k _ hx) (hbv l _ hx') (hreal k _ hx) (hreal l _ hx') hβ hβ'
      omega
  cases e with
  | normal => exact key hq
  | ret => exact key hq
  | _ => exact hq.elim
def nu (ls ns : List Nat) (b : Nat) : Nat := if isLent b then ls.getD (b - 90000) 0 else ns.getD b 0
def lendB (f : Nat → Nat) : List Nat → List (Blk × Blk) → List (Nat × Blk)
  | l :: ls, x :: xs => (l, x.1.ren f) :: lendB f ls xs
  | _, _ => []
def backB (f : Nat → Nat) : List Nat → List (Blk × Blk) → List Bool → List (Nat × Blk) → List (Nat × Blk)
  | l :: ls, x :: xs, c :: cs, r => if c then (l, x.2.ren f) :: backB f ls xs cs r else backB f ls xs cs r
  | _, _, _, r => r
def newB (f : Nat → Nat) : List Nat → List Blk → List (Nat × Blk)
  | n :: ns, x :: xs => (n, x.ren f) :: newB f ns xs
  | _, _ => []
def chgOk : List (Blk × Blk) → List Bool → Prop
  | x :: xs, c :: cs => (c = false → x.1 = x.2) ∧ chgOk xs cs
  | [], [] => True
  | _, _ => False
theorem lendB_get {f : Nat → Nat} {bx : Nat → Option Blk} : ∀ {ls : List Nat} {lent : List (Blk × Blk)}, ls.length = lent.length → preB bx (lendB f ls lent) → ∀ (k : Nat) (x : Blk × Blk), lent[k]? = some x → bx (nm ls k) = some (x.1.ren f)
  | [], [], _, _, k, y, hk => by simp at hk
  | l :: ls, x :: xs, hl, h, 0, y, hk => by simp at hk; subst hk; exact h.1
  | l :: ls, x :: xs, hl, h, k + 1, y, hk => by
    have := lendB_get (ls := ls) (lent := xs) (by simpa using hl) h.2 k y (by simpa using hk)
    simpa [nm] using this
theorem backB_get {f : Nat → Nat} {bx : Nat → Option Blk} {r : List (Nat × Blk)} : ∀ {ls : List Nat} {lent : List (Blk × Blk)} {ch : List Bool}, ls.length = lent.length → ls.Nodup → chgOk lent ch → (∀ c, c ∈ ls → setBs bx r c = bx c) → preB bx (lendB f ls lent) →
    (∀ c, c ∉ ls → setBs bx (backB f ls lent ch r) c = setBs bx r c) ∧ ∀ (k : Nat) (x : Blk × Blk), lent[k]? = some x → setBs bx (backB f ls lent ch r) (nm ls k) = some (x.2.ren f)
  | [], [], [], _, _, _, _, _ => ⟨fun _ _ => rfl, fun k x h => by simp at h⟩
  | [], [], _ :: _, _, _, h, _, _ => h.elim
  | l :: ls, x :: xs, [], hl, hnd, hc, hr, hp => by cases hc
  | l :: ls, x :: xs, c :: cs, hl, hnd, hc, hr, hp => by
    have ih := backB_get (f := f) (bx := bx) (r := r) (ls := ls) (lent := xs) (ch := cs) (by simpa using hl) (List.nodup_cons.1 hnd).2 hc.2 (fun c hc => hr c (by simp [hc])) hp.2
    have hln : l ∉ ls := (List.nodup_cons.1 hnd).1
    have hl0 : setBs bx (backB f ls xs cs r) l = bx l := (ih.1 l hln).trans (hr l (by simp))
    refine ⟨fun d hd => ?_, fun k y hk => ?_⟩
    · simp only [List.mem_cons, not_or] at hd
      simp only [backB]
      split
      · simp only [setBs]; rw [if_neg hd.1]; exact ih.1 d hd.2
      · exact ih.1 d hd.2
    · cases k with
      | zero =>
        simp at hk; subst hk
        simp only [backB, nm, List.getD_cons_zero]
        split
        · simp [setBs]
        · rename_i hcc
          have hcf : c = false := by simpa using hcc
          rw [hl0, hp.1, hc.1 hcf]
      | succ k =>
        have hk' : xs[k]? = some y := by simpa using hk
        have hlt := lt_of_get hk'
        have hlt2 : k < ls.length := by simp at hl; omega
        have e : nm (l :: ls) (k + 1) = nm ls k := by simp [nm]
        rw [e]
        have hne : nm ls k ≠ l := fun h => hln (h ▸ nm_mem hlt2)
        simp only [backB]
        split
        · simp only [setBs]; rw [if_neg hne]; exact ih.2 k y hk'
        · exact ih.2 k y hk'
theorem newB_get {f : Nat → Nat} {bx : Nat → Option Blk} : ∀ {ns : List Nat} {rv : List Blk} {c : Nat}, ns.length = rv.length → ns.Nodup →
    (c ∉ ns → setBs bx (newB f ns rv) c = bx c) ∧ ∀ (k : Nat) (x : Blk), rv[k]? = some x → setBs bx (newB f ns rv) (nm ns k) = some (x.ren f)
  | [], [], c, _, _ => ⟨fun _ => rfl, fun k x h => by simp at h⟩
  | n :: ns, x :: xs, c, hl, hnd => by
    have ih := newB_get (f := f) (bx := bx) (ns := ns) (rv := xs) (c := c) (by simpa using hl) (List.nodup_cons.1 hnd).2
    refine ⟨fun hc => ?_, fun k y hk => ?_⟩
    · simp only [List.mem_cons, not_or] at hc
      simp only [newB, setBs]
      rw [if_neg hc.1]; exact ih.1 hc.2
    · cases k with
      | zero => simp at hk; subst hk; simp [newB, setBs, nm]
      | succ k =>
        have hk' : xs[k]? = some y := by simpa using hk
        have hlt := lt_of_get hk'
        have hlt2 : k < ns.length := by simp at hl; omega
        have : nm (n :: ns) (k + 1) = nm ns k := by simp [nm]
        rw [this]
        have hne : nm ns k ≠ n := fun e => (List.nodup_cons.1 hnd).1 (e ▸ nm_mem hlt2)
        simp only [newB, setBs]
        rw [if_neg hne]
        exact (newB_get (f := f) (bx := bx) (ns := ns) (rv := xs) (c := c) (by simpa using hl) (List.nodup_cons.1 hnd).2).2 k y hk'
theorem nu_lent {ls ns : List Nat} {k : Nat} (h : k < 1000) : nu ls ns (90000 + k) = nm ls k := by
  unfold nu nm; rw [isLent_add h, if_pos rfl, show 90000 + k - 90000 = k from by omega]
theorem nu_new {ls ns : List Nat} {k : Nat} (h : k < 90000) : nu ls ns k = nm ns k := by
  unfold nu nm; rw [not_lent h (Nat.le_refl _), if_neg (by simp)]
theorem setBs_some {bx : Nat → Option Blk} {c : Nat} : ∀ {wb : List (Nat × Blk)}, (bx c).isSome = true → (setBs bx wb c).isSome = true
  | [], h => h
  | p :: ps, h => by
    simp only [setBs]; split
    · rfl
    · exact setBs_some h
section run
variable {dr : Bool} {Q : St → Prop} {r i : Nat} {st : St} {log : List (Nat × Loc)} {o : Oper} {gs : List (Operand × D)}
theorem r_callM {f s : Nat} {xs : List Operand} {ds0 ds : List D} {lent : List (Blk × Blk)} {rv : List Blk} {res : D} {ts : Array TypeId} (ls ns : List Nat) (ch : List Bool) (hc : ContractM P f ds lent rv res) (hat : At st.env ops i X.n (.call ⟨.value (.func f), xs.toArray, ts⟩) s gs)
    (hf : goodFn P f = true) (hl : xs.length = ds0.length) (hx : preR st.env (zipR xs ds0)) (hds : ds0.map D.nrm = ds.map (D.ren (nu ls ns)))
    (hll : ls.length = lent.length) (hln : ls.Nodup) (hlb : preB st.bx (lendB (nu ls ns) ls lent)) (hns : ns.length = rv.length) (hndl : NodupL ns) (hnew : preN st.bx ns) (hch : chgOk lent ch)
    (hlim : (Nat.ble lent.length 1000 && Nat.ble rv.length 1000) = true) (hre : (lent.all fun x => x.1.real && x.2.real) = true)
    (hnm : (namesIn lent.length rv.length res.names && (lent.all fun x => namesIn lent.length rv.length x.2.names) && rv.all fun x => namesIn lent.length rv.length x.names) = true)
    (next : Run P X ops dr Q r (i + 1) (Loc.upd ⟨gs ++ zipR xs ds0, lendB (nu ls ns) ls lent, some s, some (res.ren (nu ls ns)), backB (nu ls ns) ls lent ch (newB (nu ls ns) ns rv), ns⟩ st) ((i, ⟨gs ++ zipR xs ds0, lendB (nu ls ns) ls lent, some s, some (res.ren (nu ls ns)), backB (nu ls ns) ls lent ch (newB (nu ls ns) ns rv), ns⟩) :: log)) : Run P X ops dr Q (r + 1) i st log := by
  obtain ⟨o, ho, hop, hd, hn, hg, hgp⟩ := hat.out
  have hnd := hndl.1
  rw [Bool.and_eq_true] at hlim
  have hlim1 := Nat.le_of_ble_eq_true hlim.1
  have hlim2 := Nat.le_of_ble_eq_true hlim.2
  rw [Bool.and_eq_true, Bool.and_eq_true] at hnm
  obtain ⟨⟨hnmR, hnmL⟩, hnmV⟩ := hnm
  have hre' : ∀ x, x ∈ lent → x.1.real = true ∧ x.2.real = true := fun x hx => by
    have := List.all_eq_true.1 hre x hx
    rw [Bool.and_eq_true] at this
    exact this
  refine Run.step next ⟨preR_append.2 ⟨hgp, hx⟩, hlb, hnew⟩ ?_
  intro st a w K Q' hs hpre hK
  obtain ⟨G, hs⟩ := hs
  have hx := (preR_append.1 hpre.r).2
  have hw := hs.wanted hg (preR_append.1 hpre.r).1
  have hnew := hpre.n
  have hlb := hpre.b
  have hnew' : ∀ c, c ∈ ns → st.bx c = none := by
    have : ∀ {l : List Nat}, preN st.bx l → ∀ c, c ∈ l → st.bx c = none := by
      intro l
      induction l with
      | nil => intro _ c hc; cases hc
      | cons b l ih =>
        intro h c hc
        rcases List.mem_cons.1 hc with e | e
        · subst e; exact h.1
        · exact ih h.2 c e
    exact this hnew
  have hget := fun k x hk => lendB_get (f := nu ls ns) hll hlb k x hk
  have hlk : ∀ k, k < lent.length → st.bx (nm ls k) = some (lent[k]!.1.ren (nu ls ns)) ∧ (lent[k]!.1.ren (nu ls ns)).real = true := fun k hk => by
    have hx0 : lent[k]? = some lent[k]! := by simp [hk]
    exact ⟨hget k _ hx0, by rw [ren_real]; exact (hre' _ (List.mem_of_getElem? hx0)).1⟩
  have hlsns : ∀ c, c ∈ ls → c ∉ ns := fun c hc hm => by
    obtain ⟨k, hk, e⟩ := mem_nm hc
    have := (hlk k (by omega)).1
    rw [e, hnew' c hm] at this; cases this
  unfold wpOp
  rw [ho]
  simp only [hw, if_true]
  refine .inl ?_
  unfold Oper.wp
  have hrun : (execOp a.eval o).run P w = .ok (.enter f (xs.toArray.map a.eval)) w := by
    simp only [execOp, hop]
    exact run_callStatic hf rfl
  rw [hrun]
  show Calls P f (xs.toArray.map a.eval) w _
  let Gc : Gh := { S := G.S, loc := fun b => G.loc (nu ls ns b), hd := fun b => G.hd (nu ls ns b), more := fun b => G.more (nu ls ns b) }
  have hGc : ∀ k β, k < lent.length → (Gc.has (90000 + k) β ↔ G.has (nm ls k) β) := fun k β hk => by
    unfold Gh.has; simp only [Gc]; rw [nu_lent (by omega)]
  refine (hc w Gc (xs.toArray.map a.eval) hs.S_lt ?_ ?_ ?_ ?_ ?_).mono ?_
  · intro k x hk
    refine ren_back_B (f := nu ls ns) ?_
    rw [nu_lent (by have := lt_of_get hk; omega)]
    exact hs.blk _ _ (hget k x hk)
  · intro k β hk hβ
    have h1 := hlk k hk
    exact (hs.at_ok _ _ β h1.1 h1.2 ((hGc k β hk).1 hβ)).2
  · intro k l β hk hl' hβ hβ'
    have h1 := hlk k hk
    have h2 := hlk l hl'
    have := hs.at_inj _ _ _ _ β h1.1 h2.1 h1.2 h2.2 ((hGc k β hk).1 hβ) ((hGc l β hl').1 hβ')
    exact nm_inj hln (by omega) (by omega) this
  · have h1 := congrArg List.length hds
    simp at h1
    simp; omega
  · intro j d hj
    have hj2 : (ds.map (D.ren (nu ls ns)))[j]? = some (d.ren (nu ls ns)) := by rw [List.getElem?_map, hj]; rfl
    rw [← hds, List.getElem?_map] at hj2
    obtain ⟨d0, hj0, hd0⟩ : ∃ d0, ds0[j]? = some d0 ∧ d0.nrm = d.ren (nu ls ns) := by
      cases hx0 : ds0[j]? with
      | none => rw [hx0] at hj2; cases hj2
      | some d0 => rw [hx0] at hj2; exact ⟨d0, rfl, by simpa using hj2⟩
    have hlt := lt_of_get hj0
    have hxj : xs[j]? = some (xs[j]'(by omega)) := by simp [show j < xs.length from by omega]
    have hop' := zipR_get hl hx j _ d0 hxj hj0
    have hcell : cellAt (xs.toArray.map a.eval) j = a.eval (xs[j]'(by omega)) := by simp [cellAt, show j < xs.length from by omega]
    rw [hcell]
    refine ren_back_D (f := nu ls ns) ?_
    rw [← hd0]
    exact (hs.opd hop').nrm
  · rintro e w' ⟨v, G', rfl, hbel, hS1, hS2, hres', hpost, hvec, hsame, hlS, hvat, hvinj⟩
    show K (a.put o.dst v) w'
    rw [hd]
    let G2 : Gh := { S := G'.S, loc := fun c => if c ∈ ns then G'.loc (ns.idxOf c) else G.loc c, hd := fun c => if c ∈ ns then G'.hd (ns.idxOf c) else G.hd c, more := fun c => if c ∈ ns then G'.more (ns.idxOf c) else G.more c }
    have hidx : ∀ k, k < ns.length → ns.idxOf (nm ns k) = k := by
      intro k hk
      have hm := nm_mem hk
      have h1 : ns.idxOf (nm ns k) < ns.length := List.idxOf_lt_length_of_mem hm
      refine nm_inj hnd h1 hk ?_
      have h2 := List.getElem_idxOf h1
      show ns.getD (ns.idxOf (nm ns k)) 0 = nm ns k
      rw [List.getD_eq_getElem?_getD, List.getElem?_eq_getElem h1, Option.getD_some, h2]
    have hvia : G'.via G2 (nu ls ns) (fun b => inDom lent.length rv.length b = true) := by
      have key : ∀ b, inDom lent.length rv.length b = true → (∃ k, k < lent.length ∧ b = 90000 + k) ∨ (b < rv.length ∧ isLent b = false) := by
        intro b hb
        unfold inDom at hb
        split at hb
        · rename_i h
          obtain ⟨k, _, rfl⟩ := isLent_out h
          rw [Nat.blt_eq] at hb
          exact .inl ⟨k, by omega, rfl⟩
        · rename_i h
          rw [Nat.blt_eq] at hb
          exact .inr ⟨hb, by simpa using h⟩
      refine ⟨fun β h => h, fun b hb => ?_, fun b hb => ?_, fun b hb => ?_⟩
      · rcases key b hb with ⟨k, hk, rfl⟩ | ⟨hb1, hb2⟩
        · rw [nu_lent (by omega)]
          have hni : nm ls k ∉ ns := hlsns _ (nm_mem (by omega))
          simp only [G2]; rw [if_neg hni, (hsame k hk).1]; simp only [Gc]; rw [nu_lent (by omega)]
        · rw [nu_new (by omega)]
          simp only [G2]; rw [if_pos (nm_mem (by omega)), hidx b (by omega)]
      · rcases key b hb with ⟨k, hk, rfl⟩ | ⟨hb1, hb2⟩
        · rw [nu_lent (by omega)]
          have hni : nm ls k ∉ ns := hlsns _ (nm_mem (by omega))
          simp only [G2]; rw [if_neg hni, (hsame k hk).2.1]; simp only [Gc]; rw [nu_lent (by omega)]
        · rw [nu_new (by omega)]
          simp only [G2]; rw [if_pos (nm_mem (by omega)), hidx b (by omega)]
      · rcases key b hb with ⟨k, hk, rfl⟩ | ⟨hb1, hb2⟩
        · rw [nu_lent (by omega)]
          have hni : nm ls k ∉ ns := hlsns _ (nm_mem (by omega))
          simp only [G2]; rw [if_neg hni, (hsame k hk).2.2]; simp only [Gc]; rw [nu_lent (by omega)]
        · rw [nu_new (by omega)]
          simp only [G2]; rw [if_pos (nm_mem (by omega)), hidx b (by omega)]
    have hext : G.ext G2 (fun b => (st.bx b).isSome = true) := by
      have : ∀ b, (st.bx b).isSome = true → b ∉ ns := fun b hb hm => by rw [hnew' b hm] at hb; cases hb
      exact ⟨fun β h => hS1 β h, fun b hb => by simp only [G2]; rw [if_neg (this b hb)], fun b hb => by simp only [G2]; rw [if_neg (this b hb)], fun b hb => by simp only [G2]; rw [if_neg (this b hb)]⟩
    have hnotL : ∀ β, lentL Gc lent.length β → ∃ k, k < lent.length ∧ G.has (nm ls k) β := fun β ⟨k, hk, hb⟩ => ⟨k, hk, (hGc k β hk).1 hb⟩
    have hwS : ∀ β, G.S β → w'.heap[β]? = w.heap[β]? := fun β hβ => hbel.block β (hs.S_lt β hβ) fun h => by
      obtain ⟨k, hk, hg⟩ := hnotL β h
      exact (hs.at_ok _ _ β (hlk k hk).1 (hlk k hk).2 hg).2.2 hβ
    have hsz := hbel.size
    have hle := hs.below.size
    have hng := fun c => newB_get (f := nu ls ns) (bx := st.bx) (ns := ns) (rv := rv) (c := c) hns hnd
    have hbg := backB_get (f := nu ls ns) (bx := st.bx) (r := newB (nu ls ns) ns rv) (ls := ls) (lent := lent) (ch := ch) hll hln hch (fun c hc => (hng c).1 (hlsns c hc)) hlb
    have hblk : ∀ c k, setBs st.bx (backB (nu ls ns) ls lent ch (newB (nu ls ns) ns rv)) c = some k →
        (c ∉ ns ∧ c ∉ ls ∧ st.bx c = some k) ∨ (∃ m x, m < ns.length ∧ nm ns m = c ∧ rv[m]? = some x ∧ k = x.ren (nu ls ns)) ∨ (∃ m x, m < ls.length ∧ nm ls m = c ∧ lent[m]? = some x ∧ k = x.2.ren (nu ls ns)) := by
      intro c k hc
      by_cases hm : c ∈ ls
      · obtain ⟨m, hm1, hm2⟩ := mem_nm hm
        have hlx : lent[m]? = some (lent[m]'(by omega)) := by simp [show m < lent.length from by omega]
        have := hbg.2 m _ hlx
        rw [hm2, hc] at this
        exact .inr (.inr ⟨m, _, hm1, hm2, hlx, by simpa using this⟩)
      · rw [hbg.1 c hm] at hc
        by_cases hm2 : c ∈ ns
        · obtain ⟨m, hm1, hm3⟩ := mem_nm hm2
          have hrx : rv[m]? = some (rv[m]'(by omega)) := by simp [show m < rv.length from by omega]
          have := (hng c).2 m _ hrx
          rw [hm3, hc] at this
          exact .inr (.inl ⟨m, _, hm1, hm3, hrx, by simpa using this⟩)
        · rw [(hng c).1 hm2] at hc; exact .inl ⟨hm2, hm, hc⟩
    have hdom : ∀ b, inDom lent.length rv.length b = true → (setBs st.bx (backB (nu ls ns) ls lent ch (newB (nu ls ns) ns rv)) (nu ls ns b)).isSome = true := by
      intro b hb
      unfold inDom at hb
      split at hb
      · rename_i h
        obtain ⟨k, _, rfl⟩ := isLent_out h
        rw [Nat.blt_eq] at hb
        have hk : k < lent.length := by omega
        rw [nu_lent (by omega), hbg.2 k _ (show lent[k]? = some lent[k] by simp [hk])]; rfl
      · rename_i h
        rw [Nat.blt_eq] at hb
        have hni : nm ns b ∉ ls := fun hm => hlsns _ hm (nm_mem (by omega))
        rw [nu_new (by omega), hbg.1 _ hni, (hng (nm ns b)).2 b _ (show rv[b]? = some rv[b] by simp [hb])]; rfl
    have hren : ∀ l : List Nat, namesIn lent.length rv.length l = true → ∀ b, b ∈ l → inDom lent.length rv.length b = true := fun l h b hb => List.all_eq_true.1 h b hb
    have hrenB : ∀ (k : Blk) b, b ∈ (k.ren (nu ls ns)).names → ∃ b0, b0 ∈ k.names ∧ b = nu ls ns b0 := by
      intro k b hb
      cases k with
      | box cs =>
        obtain ⟨c, hc, hb⟩ := mem_cnames.1 hb
        obtain ⟨c0, h0, rfl⟩ := List.mem_map.1 hc
        obtain ⟨b0, h1, h2⟩ := ren_names_C hb
        exact ⟨b0, mem_cnames.2 ⟨c0, h0, h1⟩, h2⟩
      | vec e rows => cases hb
      | mp es => cases hb
      | dvec e cols rs => cases hb
      | hol e cols i0 k0 c rs => exact ⟨c, by simp [Blk.names], by simpa [Blk.ren, Blk.names] using hb⟩
      | gone => cases hb
    have hhasN : ∀ m β, m < ns.length → (G2.has (nm ns m) β ↔ G'.has m β) := fun m β hm => by
      have hmd : inDom lent.length rv.length m = true := by
        unfold inDom; rw [not_lent (show m < 90000 by omega) (Nat.le_refl _), if_neg (by simp), Nat.blt_eq]; omega
      have := hvia.has (β := β) hmd
      rwa [nu_new (by omega)] at this
    have key : SimG P X G2 ⟨st.env, setBs st.bx (backB (nu ls ns) ls lent ch (newB (nu ls ns) ns rv))⟩ a w' := by
      refine hs.frame (fun c hc => setBs_some hc) hext hwS ?_ ?_ ?_ ?_ ?_ ?_ (fun b hb => by
        have : b ∉ ns := fun hm => by rw [hndl.2 b hm] at hb; cases hb
        simp only [G2]; rw [if_neg this, if_neg this, if_neg this]; exact ⟨rfl, rfl, rfl⟩)
      · intro c k hc
        rcases hblk c k hc with ⟨_, h0, h1⟩ | ⟨m, x, h1, h2, h3, h4⟩ | ⟨m, x, h1, h2, h3, h4⟩
        · refine .inl ⟨h1, fun β hr hβ => hbel.block β (hs.at_ok c k β h1 hr hβ).2.1 fun hL => ?_⟩
          obtain ⟨j, hj, hg⟩ := hnotL β hL
          exact h0 ((hs.at_inj _ _ _ _ β h1 (hlk j hj).1 hr (hlk j hj).2 hβ hg) ▸ nm_mem (by omega))
        · subst h4
          have hmd : inDom lent.length rv.length m = true := by
            unfold inDom; rw [not_lent (show m < 90000 by omega) (Nat.le_refl _), if_neg (by simp), Nat.blt_eq]; omega
          have hxn := hren _ (List.all_eq_true.1 hnmV x (List.mem_of_getElem? h3))
          refine .inr ⟨?_, fun c' hc' => ?_⟩
          · have := (hvec m x h3).ren hvia hmd hxn
            rwa [nu_new (by omega), h2] at this
          · obtain ⟨b0, hb0, rfl⟩ := hrenB x c' hc'
            exact hdom b0 (hxn b0 hb0)
        · subst h4
          have hmd : inDom lent.length rv.length (90000 + m) = true := by
            unfold inDom; rw [isLent_add (by omega), if_pos rfl, Nat.blt_eq]; omega
          have hxn := hren _ (List.all_eq_true.1 hnmL x (List.mem_of_getElem? h3))
          refine .inr ⟨?_, fun c' hc' => ?_⟩
          · have := (hpost m x h3).ren hvia hmd hxn
            rwa [nu_lent (by omega), h2] at this
          · obtain ⟨b0, hb0, rfl⟩ := hrenB x.2 c' hc'
            exact hdom b0 (hxn b0 hb0)
      · intro c k β hc hr hβ
        rcases hblk c k hc with ⟨h0, _, h1⟩ | ⟨m, x, h1, h2, h3, h4⟩ | ⟨m, x, h1, h2, h3, h4⟩
        · have hβ := (hext.has (by rw [h1]; rfl)).1 hβ
          have := hs.at_ok c k β h1 hr hβ
          refine ⟨this.1, by omega, fun h => ?_⟩
          rcases hS2 β h with h | h
          · exact this.2.2 h
          · omega
        · rw [← h2, hhasN m β h1] at hβ
          have := hvat m β (by omega) hβ
          exact ⟨.new (by omega), this.2.1, this.2.2⟩
        · subst h2
          have h5 := hlk m (by omega)
          have hβ := (hext.has (by rw [h5.1]; rfl)).1 hβ
          have := hs.at_ok _ _ β h5.1 h5.2 hβ
          refine ⟨this.1, by omega, hlS m β (by omega) ?_⟩
          have h6 := hsame m (by omega)
          unfold Gh.has at hβ ⊢
          rw [h6.1, h6.2.2]
          simp only [Gc]; rw [nu_lent (by omega)]; exact hβ
      · intro c c' k k' β hc hc' hr hr' hβ hβ'
        have old : ∀ c k, setBs st.bx (backB (nu ls ns) ls lent ch (newB (nu ls ns) ns rv)) c = some k → k.real = true → G2.has c β → (∃ k0, st.bx c = some k0 ∧ k0.real = true ∧ G.has c β) ∨ ∃ m, m < ns.length ∧ nm ns m = c ∧ G'.has m β := by
          intro c k hc hr hβ
          rcases hblk c k hc with ⟨h0, _, h1⟩ | ⟨m, x, h1, h2, h3, h4⟩ | ⟨m, x, h1, h2, h3, h4⟩
          · exact .inl ⟨k, h1, hr, (hext.has (by rw [h1]; rfl)).1 hβ⟩
          · rw [← h2, hhasN m β h1] at hβ
            exact .inr ⟨m, h1, h2, hβ⟩
          · subst h2
            have h5 := hlk m (by omega)
            exact .inl ⟨_, h5.1, h5.2, (hext.has (by rw [h5.1]; rfl)).1 hβ⟩
        rcases old c k hc hr hβ with ⟨k0, h1, h2, h3⟩ | ⟨m, h1, h2, h3⟩ <;> rcases old c' k' hc' hr' hβ' with ⟨k0', h1', h2', h3'⟩ | ⟨m', h1', h2', h3'⟩
        · exact hs.at_inj c c' k0 k0' β h1 h1' h2 h2' h3 h3'
        · have h5 := hvat m' β (by omega) h3'
          have h6 := (hs.at_ok c k0 β h1 h2 h3).2.1
          omega
        · have h5 := hvat m β (by omega) h3
          have h6 := (hs.at_ok c' k0' β h1' h2' h3').2.1
          omega
        · have := hvinj m m' β (by omega) (by omega) h3 h3'
          rw [← h2, ← h2', this]
      · intro β h
        rcases hS2 β h with h | h
        · have := hs.S_lt β h; omega
        · exact h.2
      · intro β h
        rcases hS2 β h with h | h
        · exact hs.S_src β h
        · exact .inr (by omega)
      · refine hs.below.trans ⟨hbel.os, hbel.tape, hbel.output, hbel.size, fun k hk hnl => hbel.block k (by omega) fun hL => ?_⟩
        obtain ⟨j, hj, hg⟩ := hnotL k hL
        rcases (hs.at_ok _ _ k (hlk j hj).1 (hlk j hj).2 hg).1.2 with h | h
        · omega
        · exact hnl h
    refine hK _ _ ⟨G2, key.put (some s) (some (res.ren (nu ls ns))) v (by intro t e; cases e; exact hn) ?_⟩
    rintro d ⟨⟩
    refine ⟨hres'.ren hvia (hren _ hnmR), fun b hb => ?_⟩
    obtain ⟨b0, h1, h2⟩ := ren_names_D hb
    rw [h2]
    exact hdom b0 (hren _ hnmR b0 h1)
end run
end Go.Lift

/- Parts of a call's own slices: cut, copied into, appended to in place, cleared. No condition. -/
namespace Go.Lift
open Go.RowKit
variable {P : Program} {X : Ctx} {ops : Array Oper}
def spl {α : Type} (xs : List α) (q : Nat) (ys : List α) : List α := xs.take q ++ ys ++ xs.drop (q + ys.length)
theorem spl_length {α : Type} {xs ys : List α} {q : Nat} (h : q + ys.length ≤ xs.length) : (spl xs q ys).length = xs.length := by
  unfold spl; simp; omega
theorem spl_get {α : Type} {xs ys : List α} {q : Nat} (h : q + ys.length ≤ xs.length) (i : Nat) : (spl xs q ys)[i]? = if q ≤ i ∧ i < q + ys.length then ys[i - q]? else xs[i]? := by
  unfold spl
  by_cases h1 : i < q
  · rw [if_neg (by omega), List.append_assoc, List.getElem?_append_left (by simp; omega), List.getElem?_take_of_lt h1]
  · by_cases h2 : i < q + ys.length
    · rw [if_pos (by omega), List.getElem?_append_left (by simp; omega), List.getElem?_append_right (by simp; omega)]
      congr 1; simp; omega
    · rw [if_neg (by omega), List.getElem?_append_right (by simp; omega), List.getElem?_drop]
      congr 1; simp; omega
theorem spl_map {α β : Type} (f : α → β) (xs ys : List α) (q : Nat) : spl (xs.map f) q (ys.map f) = (spl xs q ys).map f := by
  unfold spl; simp
inductive DstV : D → Nat → Nat → List (List T) → Nat → Nat → Prop where
  | own (b e : Nat) (rows : List (List T)) : DstV (.e (.one (.own b))) b e rows 0 rows.length
  | view (b e : Nat) (rows : List (List T)) (lo len : Nat) (h : lo + len ≤ rows.length) : DstV (.e (.one (.view b e lo len))) b e rows lo len
inductive SrcW : D → List (Nat × Blk) → Nat → List (List T) → Prop where
  | of {d : D} {rb : List (Nat × Blk)} {e : Nat} {rows : List (List T)} (h : Src d rb e rows) : SrcW d rb e rows
  | view (b e : Nat) (rows : List (List T)) (lo len : Nat) (h : lo + len ≤ rows.length) : SrcW (.e (.one (.view b e lo len))) [(b, .vec e rows)] e ((rows.drop lo).take len)
theorem addr_add0 (q : Addr) : q.add 0 = q := by unfold Addr.add; simp
theorem vec_hd {G : Gh} {w : World} {b e : Nat} {rows : List (List T)} (h : BlkOk P w G b (.vec e rows)) : ∃ a cap, G.hd b = .slice a rows.length cap ∧ rows.length ≤ cap ∧
    (0 < cap → ∃ β arr el, a = some ⟨β, 0, none⟩ ∧ G.loc b = some β ∧ w.heap[β]? = some (.cells arr el (0, 0)) ∧ arr.size = cap * e ∧ RowsAt w G.S arr e 0 rows) := by
  rcases h with ⟨a, h1, h2, _⟩ | ⟨β, cap, arr, el, h0, h1, h2, h3, h4, h5, h6⟩
  · subst h2; exact ⟨a, 0, h1, Nat.le_refl _, fun h => by cases h⟩
  · exact ⟨_, cap, h1, h3, fun _ => ⟨β, arr, el, rfl, h0, h2, h4, by rw [h4, Nat.zero_add]; exact Nat.mul_le_mul_right e h3, h5, fun i row j t hi hj => by rw [Nat.zero_add]; exact h6 i row j t hi hj⟩⟩
section run
variable {dr : Bool} {Q : St → Prop} {r i : Nat} {st : St} {log : List (Nat × Loc)} {o : Oper} {gs : List (Operand × D)}
theorem SimG.dstV {G : Gh} {a : Act} {w : World} (hs : SimG P X G st a w) {x : Operand} {d : D} {b e lo len : Nat} {rows : List (List T)} (hx : Lift.opd st.env x = some d) (h : DstV d b e rows lo len) (hb : st.bx b = some (.vec e rows)) :
    ∃ p cap', a.eval x = .slice p len cap' ∧ rows.length - lo ≤ cap' ∧ lo + len ≤ rows.length ∧
      (lo < rows.length → ∃ β cap arr el, G.loc b = some β ∧ G.hd b = .slice (some ⟨β, 0, none⟩) rows.length cap ∧ rows.length ≤ cap ∧ p = some ⟨β, lo * e, none⟩ ∧ w.heap[β]? = some (.cells arr el (0, 0)) ∧ arr.size = cap * e ∧ RowsAt w G.S arr e 0 rows) := by
  obtain ⟨a0, cap, h1, h2, h3⟩ := vec_hd (hs.blk b _ hb)
  have hR := hs.opd hx
  cases h with
  | own =>
    obtain ⟨hR, _⟩ : RdC P w G (a.eval x) (.own b) := hR
    refine ⟨a0, cap, hR.trans h1, by omega, by omega, fun hlt => ?_⟩
    obtain ⟨β, arr, el, g1, g2, g3, g4, g5⟩ := h3 (by omega)
    subst g1
    exact ⟨β, cap, arr, el, g2, h1, h2, by simp, g3, g4, g5⟩
  | view _ _ _ _ _ h =>
    obtain ⟨a1, n1, cap1, p, k1, k2, k3, k4⟩ : RdC P w G (a.eval x) (.view b e lo len) := hR
    rw [h1] at k1
    cases k1
    refine ⟨p, cap - lo, k3, by omega, h, fun hlt => ?_⟩
    obtain ⟨β, arr, el, g1, g2, g3, g4, g5⟩ := h3 (by omega)
    subst g1
    refine ⟨β, cap, arr, el, g2, h1, h2, ?_, g3, g4, g5⟩
    rw [k4 (by omega)]
    simp [Addr.add_mk]
theorem SimG.srcW {G : Gh} {a : Act} {w : World} (hs : SimG P X G st a w) {x : Operand} {d : D} {rb : List (Nat × Blk)} {e : Nat} {rows : List (List T)} (hx : Lift.opd st.env x = some d) (h : SrcW d rb e rows) (hb : preB st.bx rb) :
    ∃ p cap, a.eval x = .slice p rows.length cap ∧ (rows = [] ∨ ∃ β off arr el fz, p = some ⟨β, off, none⟩ ∧ w.heap[β]? = some (.cells arr el fz) ∧ RowsAt w G.S arr e off rows) := by
  cases h with
  | of h =>
    have hR := hs.opd hx
    cases h with
    | own b e rows =>
      obtain ⟨hR, _⟩ : RdC P w G (a.eval x) (.own b) := hR
      obtain ⟨a0, cap, h1, h2, h3⟩ := vec_hd (hs.blk b _ hb.1)
      refine ⟨a0, cap, hR.trans h1, ?_⟩
      cases rows with
      | nil => exact .inl rfl
      | cons y ys =>
        obtain ⟨β, arr, el, g1, g2, g3, g4, g5⟩ := h3 (by simp at h2; omega)
        exact .inr ⟨β, 0, arr, el, (0, 0), g1, g3, g5⟩
    | sl e rows hrow =>
      have hR : RdT w G.S (a.eval x) (.sl rows) := hR
      generalize a.eval x = v at hR
      cases hR with
      | nil a' cap => exact ⟨_, _, rfl, .inl rfl⟩
      | sl β off cap e' arr el' fz rows h1 h2 h3 h4 h5 h6 =>
        refine ⟨_, _, rfl, ?_⟩
        cases rows with
        | nil => exact .inl rfl
        | cons r0 rs =>
          have he : e' = e := by rw [← hrow 0 r0 rfl]; exact (h5 0 r0 rfl).symm
          subst he
          exact .inr ⟨β, off, arr, el', fz, rfl, h2, h4, h5, h6⟩
    | nil e =>
      have hR : RdT w G.S (a.eval x) .nil0 := hR
      generalize a.eval x = v at hR
      cases hR with
      | nil0 a' => exact ⟨_, _, rfl, .inl rfl⟩
  | view b _ rows lo len h =>
    obtain ⟨p, cap', h1, h2, h3, h4⟩ := hs.dstV hx (.view b e rows lo len h) hb.1
    have hlen : ((rows.drop lo).take len).length = len := by simp; omega
    refine ⟨p, cap', by rw [hlen]; exact h1, ?_⟩
    by_cases hz : len = 0
    · exact .inl (by rw [hz, List.take_zero])
    · obtain ⟨β, cap, arr, el, g1, g2, g3, g4, g5, g6, g7⟩ := h4 (by omega)
      refine .inr ⟨β, lo * e, arr, el, (0, 0), g4, g5, ?_, ?_, ?_⟩
      · rw [hlen, g6, ← Nat.add_mul]; exact Nat.mul_le_mul_right e (by omega)
      · intro i row hi
        have := lt_of_get hi
        rw [hlen] at this
        rw [List.getElem?_take_of_lt this, List.getElem?_drop] at hi
        exact g7.2.1 _ row hi
      · intro i row j t hi hj
        have := lt_of_get hi
        rw [hlen] at this
        rw [List.getElem?_take_of_lt this, List.getElem?_drop] at hi
        have := g7.2.2 _ row j t hi hj
        rwa [Nat.zero_add, Nat.add_mul] at this
theorem RowsAt.take {w : World} {S : Nat → Prop} {arr : Array Value} {e off n : Nat} {rows : List (List T)} (h : RowsAt w S arr e off rows) : RowsAt w S arr e off (rows.take n) := by
  refine ⟨?_, ?_, ?_⟩
  · have := h.1
    have h2 : (rows.take n).length * e ≤ rows.length * e := Nat.mul_le_mul_right e (by simp; omega)
    omega
  · intro i row hi
    have := lt_of_get hi
    simp at this
    rw [List.getElem?_take_of_lt (by omega)] at hi
    exact h.2.1 i row hi
  · intro i row j t hi hj
    have := lt_of_get hi
    simp at this
    rw [List.getElem?_take_of_lt (by omega)] at hi
    exact h.2.2 i row j t hi hj
theorem run_srcCells {w : World} {S : Nat → Prop} {p : Option Addr} {len cap e n : Nat} {rows : List (List T)} (hn : n ≤ rows.length) (h : rows = [] ∨ ∃ β off arr el fz, p = some ⟨β, off, none⟩ ∧ w.heap[β]? = some (.cells arr el fz) ∧ RowsAt w S arr e off rows) :
    ∃ news, (Builtin.firstCells e n (.slice p len cap)).run P w = .ok news w ∧ RowsAt w S news e 0 (rows.take n) ∧ news.size = n * e := by
  rcases h with h | ⟨β, off, arr, el, fz, h1, h2, h3⟩
  · subst h
    have : n = 0 := by simpa using hn
    subst this
    obtain ⟨news, k1, k2, k3⟩ := run_firstCells0 (P := P) (w := w) (a := p) (len := len) (cap := cap) (e := e) (S := S)
    exact ⟨news, k1 w rfl, by simpa using k2, by simpa using k3⟩
  · subst h1
    have hl : (rows.take n).length = n := by simp; omega
    obtain ⟨news, k1, k2, k3⟩ := run_firstCells (P := P) (len := len) (cap := cap) h2 (h3.take (n := n))
    rw [hl] at k1 k3
    exact ⟨news, k1 w rfl, k2, k3⟩
theorem vec_over {G : Gh} {w : World} {b e β cap q : Nat} {rows rows2 : List (List T)} {arr news : Array Value} {el : TypeId} (hlt : β < w.heap.size) (hnS : ¬ G.S β) (h0 : G.loc b = some β) (h1 : G.hd b = .slice (some ⟨β, 0, none⟩) rows.length cap) (h3 : rows.length ≤ cap) (h4 : arr.size = cap * e) (h5 : RowsAt w G.S arr e 0 rows)
    (hn : RowsAt w G.S news e 0 rows2) (hns : news.size = rows2.length * e) (hq : q + rows2.length ≤ rows.length) :
    BlkOk P (wset w β (.cells (over arr (q * e) news.toList) el (0, 0))) G b (.vec e (spl rows q rows2)) := by
  have hle : q * e + rows2.length * e ≤ cap * e := by rw [← Nat.add_mul]; exact Nat.mul_le_mul_right e (by omega)
  have hS : ∀ γ, G.S γ → (wset w β (.cells (over arr (q * e) news.toList) el (0, 0))).heap[γ]? = w.heap[γ]? := fun γ hγ => by
    rw [heap_wset, if_neg (fun (h : γ = β ∧ β < w.heap.size) => hnS (h.1 ▸ hγ))]
  have hrl : ∀ (i : Nat) (row : List T), (spl rows q rows2)[i]? = some row → row.length = e := by
    intro i row hi
    rw [spl_get hq] at hi
    split at hi
    · exact hn.2.1 _ row hi
    · exact h5.2.1 _ row hi
  refine .inr ⟨β, cap, over arr (q * e) news.toList, el, h0, by rw [spl_length hq]; exact h1, by rw [heap_wset, if_pos ⟨rfl, hlt⟩], by rw [spl_length hq]; exact h3, by rw [over_size, h4], hrl, ?_⟩
  intro i row j t hi hj
  have hj' := lt_of_get hj
  have hre := hrl i row hi
  rw [spl_get hq] at hi
  rw [cellAt_over _ _ _ _ (by simp; omega)]
  simp only [Array.length_toList, hns]
  split at hi
  · rename_i hin
    have hle2 : (i - q) * e + e ≤ rows2.length * e := by rw [← Nat.succ_mul]; exact Nat.mul_le_mul_right e (by omega)
    have hsp : i * e = q * e + (i - q) * e := by rw [← Nat.add_mul]; congr 1; omega
    rw [if_pos (by omega)]
    have := hn.2.2 _ row j t hi hj
    rw [Nat.zero_add] at this
    have h6 : (news.toList[i * e + j - q * e]?).getD undef = cellAt news ((i - q) * e + j) := by
      rw [show i * e + j - q * e = (i - q) * e + j from by omega]
      unfold cellAt; simp
    rw [h6]
    exact this.mono hS fun _ h => h
  · rename_i hin
    rw [if_neg]
    · have := h5.2.2 _ row j t hi hj
      rw [Nat.zero_add] at this
      exact this.mono hS fun _ h => h
    · rintro ⟨k1, k2⟩
      by_cases hiq : i < q
      · have : i * e + e ≤ q * e := by rw [← Nat.succ_mul]; exact Nat.mul_le_mul_right e hiq
        omega
      · have : q * e + rows2.length * e ≤ i * e := by rw [← Nat.add_mul]; exact Nat.mul_le_mul_right e (by omega)
        omega
theorem r_sliceV {x : Operand} {t el s e l h b lo0 len : Nat} {lo hi : Option Operand} {rl rh : List (Operand × D)} {rows : List (List T)} {d : D} (hat : At st.env ops i X.n (.slice t x lo hi none) s gs)
    (hx : opd st.env x = some d) (hD : DstV d b e rows lo0 len) (hb : st.bx b = some (.vec e rows)) (ht : sliceB P t el = true) (he : szB P el e = true) (hlo : Bnd lo 0 l rl) (hhi : Bnd hi len h rh) (h1 : preR st.env rl) (h2 : preR st.env rh) (hlh : l ≤ h) (hhl : lo0 + h ≤ rows.length)
    (next : Run P X ops dr Q r (i + 1) (Loc.upd ⟨gs ++ ((x, d) :: (rl ++ rh)), [(b, .vec e rows)], some s, some (.e (.one (.view b e (lo0 + l) (h - l)))), [], []⟩ st) ((i, ⟨gs ++ ((x, d) :: (rl ++ rh)), [(b, .vec e rows)], some s, some (.e (.one (.view b e (lo0 + l) (h - l)))), [], []⟩) :: log)) : Run P X ops dr Q (r + 1) i st log := by
  obtain ⟨o, ho, hop, hd, hn, hg, hgp⟩ := hat.out
  refine Run.step next ⟨preR_append.2 ⟨hgp, hx, preR_append.2 ⟨h1, h2⟩⟩, ⟨hb, trivial⟩, trivial⟩ (LR.value ho hg rfl hd.symm (hn_of hd hn) ?_)
  intro G st a w hs hpre
  obtain ⟨hx, h12⟩ := (preR_append.1 hpre.r).2
  obtain ⟨h1, h2⟩ := preR_append.1 h12
  have hb := hpre.b.1
  -- the header of the whole
  obtain ⟨a0, cap, k1, k2, k3⟩ := vec_hd (hs.blk b _ hb)
  have hv : ∃ p, a.eval x = .slice p len (cap - lo0) ∧ lo0 + len ≤ rows.length ∧ (lo0 < cap → p = a0.map fun q => q.add (lo0 * e)) := by
    have hR := hs.opd hx
    cases hD with
    | own =>
      obtain ⟨hR, _⟩ : RdC P w G (a.eval x) (.own b) := hR
      exact ⟨a0, hR.trans k1, by omega, fun _ => by cases a0 <;> simp [addr_add0]⟩
    | view _ _ _ _ _ h' =>
      obtain ⟨a1, n1, cap1, p, g1, g2, g3, g4⟩ : RdC P w G (a.eval x) (.view b e lo0 len) := hR
      rw [k1] at g1; cases g1
      exact ⟨p, g3, h', g4⟩
  obtain ⟨p, hv1, hv2, hv3⟩ := hv
  refine ⟨.slice (if cap - lo0 = l then p else p.map (·.add (l * e))) (h - l) (cap - lo0 - l), w, G, ?_, hs, ?_⟩
  · simp only [execOp, hop]
    refine run_then (a := .slice (if cap - lo0 = l then p else p.map (·.add (l * e))) (h - l) (cap - lo0 - l)) (w1 := w) ?_ rfl
    rw [hv1]
    exact run_sliceAt (a := a) hs ht he hlo hhi h1 h2 hlh (by omega)
  · rintro d' ⟨⟩
    refine ⟨⟨a0, rows.length, cap, _, k1, by omega, by rw [show cap - lo0 - l = cap - (lo0 + l) from by omega], fun hlt => ?_⟩, fun b' hb' => ?_⟩
    · rw [if_neg (by omega), hv3 (by omega)]
      obtain ⟨β, arr, el', g1, _⟩ := k3 (by omega)
      subst g1
      simp only [Option.map_some, Addr.add_mk, Nat.add_mul, Nat.zero_add]
    · simp [D.names, E.names, C.names] at hb'
      subst hb'
      simp [setBs, hb]
theorem run_copy {t t2 el e : Nat} {w : World} {p p2 : Option Addr} {dl dc n2 c2 : Nat} {news : Array Value} {ty : TypeId} (ht : sliceB P t el = true) (he : szB P el e = true) (hnew : (Builtin.firstCells e (Nat.min n2 dl) (.slice p2 n2 c2)).run P w = .ok news w) {w' : World}
    (hst : ∀ q, p = some q → (storeCells q news.toList).run P w = .ok () w') (hno : p = none → w' = w) : (Builtin.copy_ #[t, t2] ty #[.slice p dl dc, .slice p2 n2 c2]).run P w = .ok (goInt (Nat.min n2 dl)) w' := by
  unfold sliceB at ht
  split at ht
  · rename_i e' hu
    have : e' = el := by simpa using ht
    subst this
    unfold Builtin.copy_
    refine run_then (run_underlying' hu w) ?_
    refine run_then (a := n2) (w1 := w) rfl ?_
    refine run_then (run_sizeOf he w) ?_
    refine run_then hnew ?_
    cases p with
    | none => rw [hno rfl]; rfl
    | some q => exact run_then (hst q rfl) rfl
  · cases ht
theorem r_copy {x y : Operand} {t t2 el s e b lo len : Nat} {d d2 : D} {rb2 : List (Nat × Blk)} {rows rows2 rows' : List (List T)} (hat : At st.env ops i X.n (.call ⟨.builtin .copy, #[x, y], #[t, t2]⟩) s gs)
    (hx : opd st.env x = some d) (hD : DstV d b e rows lo len) (hb : st.bx b = some (.vec e rows)) (hy : opd st.env y = some d2) (hS : SrcW d2 rb2 e rows2) (hb2 : preB st.bx rb2) (ht : sliceB P t el = true) (he : szB P el e = true) (hr : spl rows lo (rows2.take (Nat.min rows2.length len)) = rows')
    (next : Run P X ops dr Q r (i + 1) (Loc.upd ⟨gs ++ [(x, d), (y, d2)], (b, .vec e rows) :: rb2, some s, some (vD (goInt (Nat.min rows2.length len))), [(b, .vec e rows')], []⟩ st) ((i, ⟨gs ++ [(x, d), (y, d2)], (b, .vec e rows) :: rb2, some s, some (vD (goInt (Nat.min rows2.length len))), [(b, .vec e rows')], []⟩) :: log)) : Run P X ops dr Q (r + 1) i st log := by
  obtain ⟨o, ho, hop, hd, hn, hg, hgp⟩ := hat.out
  refine Run.step next ⟨preR_append.2 ⟨hgp, hx, hy, trivial⟩, ⟨hb, hb2⟩, trivial⟩ (LR.value ho hg rfl hd.symm (hn_of hd hn) ?_)
  intro G st a w hs hpre
  obtain ⟨hx, hy, _⟩ := (preR_append.1 hpre.r).2
  obtain ⟨hb, hb2⟩ := hpre.b
  subst hr
  obtain ⟨p, cap', h1, h2, h3, h4⟩ := hs.dstV hx hD hb
  obtain ⟨p2, cap2, k1, k2⟩ := hs.srcW hy hS hb2
  have hmin : Nat.min rows2.length len ≤ rows2.length := Nat.min_le_left _ _
  have hmin2 : Nat.min rows2.length len ≤ len := Nat.min_le_right _ _
  obtain ⟨news, n1, n2, n3⟩ := run_srcCells (P := P) (len := rows2.length) (cap := cap2) hmin k2
  have hl2 : (rows2.take (Nat.min rows2.length len)).length = Nat.min rows2.length len := by rw [List.length_take]; exact Nat.min_eq_left hmin
  have hrun : ∀ w', (∀ q, p = some q → (storeCells q news.toList).run P w = .ok () w') → (p = none → w' = w) → (execOp a.eval o).run P w = .ok (.value (goInt (Nat.min rows2.length len))) w' := fun w' g1 g2 => by
    simp only [execOp, hop]
    refine run_builtin fun cs => ?_
    simp only [List.map_toArray, List.map_cons, List.map_nil, builtin, h1, k1]
    exact run_then (run_copy ht he n1 g1 g2) rfl
  have fin : ∀ d', some (vD (goInt (Nat.min rows2.length len))) = some d' → ∀ w' (G' : Gh), RdD P w' G' (goInt (Nat.min rows2.length len)) d' ∧ ∀ c, c ∈ d'.names → (setBs st.bx [(b, .vec e (spl rows lo (rows2.take (Nat.min rows2.length len))))] c).isSome = true := fun d' hd' w' G' => by
    cases hd'; exact ⟨.val _ rfl, fun c hc => by cases hc⟩
  by_cases hlt : lo < rows.length
  · obtain ⟨β, cap, arr, el', g1, g2, g3, g4, g5, g6, g7⟩ := h4 hlt
    subst g4
    have hat := hs.at_ok b _ β hb rfl (.inl g1)
    have hle : lo * e + Nat.min rows2.length len * e ≤ arr.size := by rw [g6, ← Nat.add_mul]; exact Nat.mul_le_mul_right e (by omega)
    have hst := run_storeCells (P := P) (β := β) (el := el') news.toList w (lo * e) 0 arr g5 (by simp [n3]; omega) (RowsAt.ones n2 (by rw [n3, hl2]))
    rw [Nat.add_zero] at hst
    refine ⟨_, _, G, hrun _ (fun q hq => by cases hq; exact hst) (fun h => by cases h), ?_, fun d' hd' => fin d' hd' _ _⟩
    exact hs.setB (b := b) (k0 := .vec e rows) hb rfl rfl (.inl g1) (vec_over hat.2.1 hat.2.2 g1 g2 g3 g6 g7 n2 (by rw [n3, hl2]) (by rw [hl2]; omega)) (fun c hc => by cases hc)
  · have hz : Nat.min rows2.length len = 0 := by omega
    have hn0 : news.toList = [] := List.eq_nil_of_length_eq_zero (by simp [n3, hz])
    have hsp : spl rows lo (rows2.take (Nat.min rows2.length len)) = rows := by
      have : lo = rows.length := by omega
      rw [hz]; unfold spl; simp [this]
    refine ⟨_, w, G, hrun w (fun q _ => by rw [hn0]; rfl) (fun _ => rfl), ?_, fun d' hd' => fin d' hd' _ _⟩
    have : (⟨st.env, setBs st.bx [(b, .vec e (spl rows lo (rows2.take (Nat.min rows2.length len))))]⟩ : St) = st := by
      refine St.ext (fun _ => rfl) fun c => ?_
      simp only [setBs]
      split
      · rename_i e1; rw [e1, hsp, hb]
      · rfl
    rw [this]; exact hs
theorem zeroCells_rows {w : World} {S : Nat → Prop} {z : Value} {zs : List Value} {e n : Nat} (hzs : z.cells.toList = zs) (hz1 : zs.all oneC = true) (hze : zs.length = e) : RowsAt w S (Builtin.zeroCells z.cells n) e 0 (List.replicate n (zs.map fun v => (T.of v).nrm)) ∧ (Builtin.zeroCells z.cells n).size = n * e := by
  have hsz : z.cells.size = e := by rw [← hze, ← hzs]; simp
  have hsize : (Builtin.zeroCells z.cells n).size = n * e := by unfold Builtin.zeroCells; simp [hsz]
  refine ⟨⟨by rw [hsize]; simp, ?_, ?_⟩, hsize⟩
  · intro i row hi
    rw [List.getElem?_replicate] at hi
    split at hi
    · cases hi; simp [hze]
    · cases hi
  · intro i row j t hi hj
    rw [List.getElem?_replicate] at hi
    split at hi
    · rename_i hlt
      cases hi
      rw [List.getElem?_map] at hj
      cases hv : zs[j]? with
      | none => rw [hv] at hj; cases hj
      | some v =>
        rw [hv] at hj; cases hj
        have hj' : j < e := by rw [← hze]; exact lt_of_get hv
        have hle : i * e + e ≤ n * e := by rw [← Nat.succ_mul]; exact Nat.mul_le_mul_right e hlt
        have hc : cellAt (Builtin.zeroCells z.cells n) (0 + i * e + j) = v := by
          unfold cellAt Builtin.zeroCells
          rw [Nat.zero_add, hsz]
          have h1 : i * e + j < n * e := by omega
          rw [Array.getElem?_map, show (Array.range (n * e))[i * e + j]? = some (i * e + j) from by simp [h1]]
          simp only [Option.map_some, Option.getD_some]
          have h2 : (i * e + j) % e = j := by rw [Nat.add_comm, Nat.add_mul_mod_self_right, Nat.mod_eq_of_lt hj']
          rw [h2]
          have h3 : z.cells[j]? = some v := by rw [← Array.getElem?_toList, hzs]; exact hv
          show z.cells[j]! = v
          rw [Array.getElem!_eq_getD, Array.getD_eq_getD_getElem?, h3]; rfl
        rw [hc]
        exact (RdT.of (List.all_eq_true.1 hz1 v (List.mem_of_getElem? hv))).nrm
    · cases hi
theorem r_clearV {x : Operand} {t el b e lo len : Nat} {z : Value} {zs : List Value} {d : D} {rows rows' : List (List T)} (hop0 : at0S ops i = some (.call ⟨.builtin .clear, #[x], #[t]⟩))
    (hx : opd st.env x = some d) (hD : DstV d b e rows lo len) (hb : st.bx b = some (.vec e rows)) (ht : sliceB P t el = true) (hz : zeroB P el = some z) (hzs : z.cells.toList = zs) (hz1 : zs.all oneC = true) (hze : zs.length = e)
    (hr : spl rows lo (List.replicate len (zs.map fun v => (T.of v).nrm)) = rows')
    (next : Run P X ops dr Q r (i + 1) (Loc.upd ⟨[(x, d)], [(b, .vec e rows)], none, none, [(b, .vec e rows')], []⟩ st) ((i, ⟨[(x, d)], [(b, .vec e rows)], none, none, [(b, .vec e rows')], []⟩) :: log)) : Run P X ops dr Q (r + 1) i st log := by
  obtain ⟨o, ho, hop, hd, hgn⟩ := atS_out hop0
  have hg : Grd ops o [] := .none hgn
  refine Run.step next ⟨⟨hx, trivial⟩, ⟨hb, trivial⟩, trivial⟩ (LR.value (rs := [(x, d)]) ho hg rfl hd.symm (fun s h => by rw [hd] at h; cases h) ?_)
  intro G st a w hs hpre
  have hx := hpre.r.1
  have hb := hpre.b.1
  subst hr
  obtain ⟨p, cap', h1, h2, h3, h4⟩ := hs.dstV hx hD hb
  obtain ⟨n2, n3⟩ := zeroCells_rows (w := w) (S := G.S) (n := len) hzs hz1 hze
  have hl2 : (List.replicate len (zs.map fun v => (T.of v).nrm)).length = len := by simp
  have hrun : ∀ w', (len ≠ 0 → ∃ q, p = some q ∧ (storeCells q (Builtin.zeroCells z.cells len).toList).run P w = .ok () w') → (len = 0 → w' = w) → (execOp a.eval o).run P w = .ok (.value (.tuple #[])) w' := fun w' g1 g2 => by
    simp only [execOp, hop]
    refine run_builtin fun cs => ?_
    simp only [List.map_toArray, List.map_cons, List.map_nil, builtin, h1]
    refine run_then (a := .tuple #[]) (w1 := w') ?_ rfl
    unfold sliceB at ht
    split at ht
    · rename_i e' hu
      have : e' = el := by simpa using ht
      subst this
      unfold Builtin.clear_
      refine run_then (run_underlying' hu w) ?_
      by_cases hz0 : len = 0
      · rw [g2 hz0]
        subst hz0
        cases p <;> rfl
      · obtain ⟨q, hq, hst⟩ := g1 hz0
        subst hq
        obtain ⟨len', rfl⟩ : ∃ m, len = m + 1 := ⟨len - 1, (Nat.succ_pred_eq_of_pos (Nat.pos_of_ne_zero hz0)).symm⟩
        refine run_then (run_zeroValue hz w) ?_
        exact run_then hst rfl
    · cases ht
  have fin : ∀ (d' : D), (none : Option D) = some d' → ∀ w', RdD P w' G (.tuple #[]) d' ∧ ∀ c, c ∈ d'.names → (setBs st.bx [(b, .vec e (spl rows lo (List.replicate len (zs.map fun v => (T.of v).nrm))))] c).isSome = true := fun d' hd' => by cases hd'
  by_cases hz0 : len = 0
  · have hsp : spl rows lo (List.replicate len (zs.map fun v => (T.of v).nrm)) = rows := by rw [hz0]; unfold spl; simp
    refine ⟨_, w, G, hrun w (fun h => (h hz0).elim) (fun _ => rfl), ?_, fun d' hd' => fin d' hd' _⟩
    have : (⟨st.env, setBs st.bx [(b, .vec e (spl rows lo (List.replicate len (zs.map fun v => (T.of v).nrm))))]⟩ : St) = st := by
      refine St.ext (fun _ => rfl) fun c => ?_
      simp only [setBs]
      split
      · rename_i e1; rw [e1, hsp, hb]
      · rfl
    rw [this]; exact hs
  · have hlr : lo < rows.length := Nat.lt_of_lt_of_le (Nat.lt_add_of_pos_right (Nat.pos_of_ne_zero hz0)) h3
    obtain ⟨β, cap, arr, el', g1, g2, g3, g4, g5, g6, g7⟩ := h4 hlr
    subst g4
    have hat := hs.at_ok b _ β hb rfl (.inl g1)
    have hle : lo * e + len * e ≤ arr.size := by rw [g6, ← Nat.add_mul]; exact Nat.mul_le_mul_right e (by omega)
    have hst := run_storeCells (P := P) (β := β) (el := el') (Builtin.zeroCells z.cells len).toList w (lo * e) 0 arr g5 (by simp [n3]; omega) (RowsAt.ones n2 (by rw [n3, hl2]))
    rw [Nat.add_zero] at hst
    refine ⟨_, _, G, hrun _ (fun _ => ⟨_, rfl, hst⟩) (fun h => (hz0 h).elim), ?_, fun d' hd' => fin d' hd' _⟩
    exact hs.setB (b := b) (k0 := .vec e rows) hb rfl rfl (.inl g1) (vec_over hat.2.1 hat.2.2 g1 g2 g3 g6 g7 n2 (by rw [n3, hl2]) (by rw [hl2]; exact h3)) (fun c hc => by cases hc)
end run
theorem sees_view {st : St} (s b e : Nat) (rows : List (List T)) (hs0 : st.env s = some (.e (.one (.own b)))) (hb : st.bx b = some (.vec e rows)) : Sees P X st (St.put st (some s) (some (.e (.one (.view b e 0 rows.length))))) := by
  rintro a w ⟨G, h⟩
  obtain ⟨a0, cap, k1, k2, k3⟩ := vec_hd (h.blk b _ hb)
  obtain ⟨hR, _⟩ : RdC P w G (cellAt a.tmps s) (.own b) := h.env s _ hs0
  refine ⟨G, { h with env := ?_, live := ?_, blk := h.blk, at_ok := h.at_ok, at_inj := h.at_inj, liveB := h.liveB, nlt := h.nlt, lent := h.lent }⟩
  · intro t d ht
    simp only [St.put] at ht
    split at ht
    · rename_i e2; cases ht
      rw [e2]
      exact ⟨a0, rows.length, cap, a0, k1, by omega, by rw [hR, k1]; rfl, fun _ => by cases a0 <;> simp [addr_add0]⟩
    · exact h.env t d ht
  · intro t d ht c hc
    simp only [St.put] at ht
    split at ht
    · cases ht
      simp [D.names, E.names, C.names] at hc
      subst hc
      show (st.bx c).isSome = true
      rw [hb]; rfl
    · exact h.live t d ht c hc
theorem sees_cut {st : St} (s b n e len : Nat) (rows : List (List T)) (hs0 : st.env s = some (.e (.one (.view b e 0 len)))) (hb : st.bx b = some (.vec e rows)) (hn : st.bx n = none) (hlb : isLent b = false) (hln : isLent n = false) (hle : len ≤ rows.length) :
    Sees P X st (St.put ⟨st.env, setBs st.bx [(n, .vec e (rows.take len)), (b, .gone)]⟩ (some s) (some (.e (.one (.own n))))) := by
  rintro a w ⟨G, h⟩
  have hnb : n ≠ b := fun e => by rw [e, hb] at hn; cases hn
  obtain ⟨a0, n1, cap, p, k1, k2, k3, k4⟩ : RdC P w G (cellAt a.tmps s) (.view b e 0 len) := h.env s _ hs0
  obtain ⟨a1, cap1, g1, g2, g3⟩ := vec_hd (h.blk b _ hb)
  rw [g1] at k1; cases k1
  -- the new ghost
  have hlen : (rows.take len).length = len := by rw [List.length_take]; exact Nat.min_eq_left hle
  have hbx : ∀ c, setBs st.bx [(n, Blk.vec e (rows.take len)), (b, .gone)] c = if c = n then some (.vec e (rows.take len)) else if c = b then some .gone else st.bx c := fun c => rfl
  have hext : ∀ l v, G.ext (G.set n l v) (fun c => (st.bx c).isSome = true) := fun l v => Gh.set_ext _ _ _ _ (by simp [hn])
  have key : ∃ l v, cellAt a.tmps s = v ∧ (∃ q m c, v = .slice q m c) ∧ (∀ β, l = some β → G.loc b = some β) ∧ BlkOk P w (G.set n l v) n (.vec e (rows.take len)) := by
    by_cases hc : 0 < cap
    · obtain ⟨β, arr, el, q1, q2, q3, q4, q5⟩ := g3 hc
      subst q1
      refine ⟨some β, .slice (some ⟨β, 0, none⟩) len cap, ?_, ⟨_, _, _, rfl⟩, fun γ hγ => by cases hγ; exact q2, ?_⟩
      · rw [k3, k4 hc]; simp [Addr.add_mk]
      · refine .inr ⟨β, cap, arr, el, by simp [Gh.set], by simp [Gh.set, hlen], q3, by rw [hlen]; omega, q4, fun i row hi => (q5.take (n := len)).2.1 i row hi, fun i row j t hi hj => ?_⟩
        have := (q5.take (n := len)).2.2 i row j t hi hj
        rw [Nat.zero_add] at this
        exact this
    · have hr0 : rows.length = 0 := by omega
      have hl0 : len = 0 := by omega
      have hc0 : cap = 0 := by omega
      refine ⟨none, .slice p 0 0, by rw [k3, hl0, hc0], ⟨_, _, _, rfl⟩, fun γ hγ => (by cases hγ), .inl ⟨p, by simp [Gh.set], by rw [hl0, List.take_zero], by simp [Gh.set]⟩⟩
  obtain ⟨l, v, hv1, hv2, hl, hblk⟩ := key
  have h1 : SimG P X (G.set n l v) ⟨st.env, setBs st.bx [(n, .vec e (rows.take len)), (b, .gone)]⟩ a w := by
    refine h.frame ?_ (hext l v) (fun _ _ => rfl) ?_ ?_ ?_ h.S_lt h.S_src h.below (Gh.set_lent _ _ hln)
    · intro c hc; rw [hbx]; split
      · rfl
      · split
        · rfl
        · exact hc
    · intro c k hc
      rw [hbx] at hc
      split at hc
      · rename_i e2; subst e2; cases hc
        exact .inr ⟨hblk, fun c hc => by cases hc⟩
      · split at hc
        · cases hc; exact .inr ⟨trivial, fun c hc => by cases hc⟩
        · exact .inl ⟨hc, fun _ _ _ => rfl⟩
    · intro c k β hc hr hβ
      rw [hbx] at hc
      rw [Gh.set_has] at hβ
      split at hc
      · rename_i e2; rw [if_pos e2] at hβ
        have h5 := h.at_ok b _ β hb rfl (.inl (hl β hβ))
        exact ⟨.new (h5.1.1 hlb), h5.2⟩
      · rename_i e2; rw [if_neg e2] at hβ
        split at hc
        · cases hc; cases hr
        · exact h.at_ok c k β hc hr hβ
    · intro c c' k k' β hc hc' hr hr' hβ hβ'
      rw [hbx] at hc hc'
      rw [Gh.set_has] at hβ hβ'
      have old : ∀ c k, (if c = n then some (Blk.vec e (rows.take len)) else if c = b then some .gone else st.bx c) = some k → k.real = true → (if c = n then l = some β else G.has c β) → (c = n ∧ G.has b β) ∨ (c ≠ n ∧ c ≠ b ∧ st.bx c = some k ∧ G.has c β) := by
        intro c k hc hr hβ
        split at hc
        · rename_i e2; rw [if_pos e2] at hβ; exact .inl ⟨e2, .inl (hl β hβ)⟩
        · rename_i e2; rw [if_neg e2] at hβ
          split at hc
          · cases hc; cases hr
          · rename_i e3; exact .inr ⟨e2, e3, hc, hβ⟩
      rcases old c k hc hr hβ with ⟨h2, h3⟩ | ⟨h2, h3, h4, h5⟩ <;> rcases old c' k' hc' hr' hβ' with ⟨h2', h3'⟩ | ⟨h2', h3', h4', h5'⟩
      · rw [h2, h2']
      · exact (h3' (h.at_inj c' b _ _ β h4' hb hr' rfl h5' h3)).elim
      · exact (h3 (h.at_inj c b _ _ β h4 hb hr rfl h5 h3')).elim
      · exact h.at_inj c c' k k' β h4 h4' hr hr' h5 h5'
  refine ⟨G.set n l v, { h1 with env := ?_, live := ?_, blk := h1.blk, at_ok := h1.at_ok, at_inj := h1.at_inj, liveB := h1.liveB, nlt := h1.nlt, lent := h1.lent }⟩
  · intro t d ht
    simp only [St.put] at ht
    split at ht
    · rename_i e2; cases ht
      rw [e2, hv1]
      exact ⟨by simp [Gh.set], hv2⟩
    · exact h1.env t d ht
  · intro t d ht c hc
    simp only [St.put] at ht
    split at ht
    · cases ht
      simp [D.names, E.names, C.names] at hc
      subst hc
      show (setBs st.bx [(c, .vec e (rows.take len)), (b, .gone)] c).isSome = true
      simp [setBs]
    · exact h1.live t d ht c hc
end Go.Lift

/- Smaller operations: least and greatest, checks against nil, a part of an element, bytes and strings; maps of the call's own. No condition. -/
namespace Go.Lift
open Go.RowKit
variable {P : Program} {X : Ctx} {ops : Array Oper}
def minI (a b : Int) : Int := if b < a then b else a
def idxS (b : ByteArray) (i : Int) : Option Int := if 0 ≤ i then (b[i.toNat]?).map fun x => (x.toNat : Int) else none
theorem idxS_bind {β : Type} {b : ByteArray} {i : Int} {f : Int → Option β} {r : β} (h : (idxS b i).bind f = some r) : ∃ x : UInt8, 0 ≤ i ∧ b[i.toNat]? = some x ∧ f (x.toNat : Int) = some r := by
  obtain ⟨x, h1, h2⟩ := bind_some h
  unfold idxS at h1
  split at h1
  · rename_i h0
    cases hx : b[i.toNat]? with
    | none => rw [hx] at h1; cases h1
    | some y => rw [hx] at h1; cases h1; exact ⟨y, h0, rfl, h2⟩
  · cases h1
def bytesOf (xs : List Int) : ByteArray := xs.foldl (fun s n => s.push (UInt8.ofNat n.toNat)) ByteArray.empty
section run
variable {dr : Bool} {Q : St → Prop} {r i : Nat} {st : St} {log : List (Nat × Loc)} {o : Oper} {gs : List (Operand × D)}
theorem r_min {x y : Operand} {t t2 s : Nat} {k k2 : IntKind} {a0 b0 : Int} (hat : At st.env ops i X.n (.call ⟨.builtin .min, #[x, y], #[t, t2]⟩) s gs)
    (hx : opd st.env x = some (vD (.int k a0))) (hy : opd st.env y = some (vD (.int k2 b0)))
    (next : Run P X ops dr Q r (i + 1) (Loc.upd ⟨gs ++ [(x, vD (.int k a0)), (y, vD (.int k2 b0))], [], some s, some (vD (.int k (minI a0 b0))), [], []⟩ st) ((i, ⟨gs ++ [(x, vD (.int k a0)), (y, vD (.int k2 b0))], [], some s, some (vD (.int k (minI a0 b0))), [], []⟩) :: log)) : Run P X ops dr Q (r + 1) i st log := by
  obtain ⟨o, ho, hop, hd, hn, hg, hgp⟩ := hat.out
  refine Run.step next ⟨preR_append.2 ⟨hgp, hx, hy, trivial⟩, trivial, trivial⟩ (LR.value ho hg rfl hd.symm (hn_of hd hn) ?_)
  intro G st a w hs hpre
  obtain ⟨hx, hy, _⟩ := (preR_append.1 hpre.r).2
  have h1 : a.eval x = .int k a0 := val_eq (hs.opd hx : RdT w G.S (a.eval x) (.val _))
  have h2 : a.eval y = .int k2 b0 := val_eq (hs.opd hy : RdT w G.S (a.eval y) (.val _))
  refine ⟨.int k (minI a0 b0), w, G, ?_, hs, ?_⟩
  · simp only [execOp, hop]
    refine run_builtin fun cs => ?_
    simp only [List.map_toArray, List.map_cons, List.map_nil, builtin, h1, h2]
    rfl
  · rintro d ⟨⟩
    exact ⟨.val _ rfl, fun b hb => by cases hb⟩
theorem r_nilCheck {x : Operand} {s b k : Nat} (hat : At st.env ops i X.n (.nilCheck x) s gs) (hx : opd st.env x = some (.e (.one (.ptr b k))))
    (next : Run P X ops dr Q r (i + 1) (Loc.upd ⟨gs ++ [(x, .e (.one (.ptr b k)))], [], some s, some (.e (.one (.ptr b k))), [], []⟩ st) ((i, ⟨gs ++ [(x, .e (.one (.ptr b k)))], [], some s, some (.e (.one (.ptr b k))), [], []⟩) :: log)) : Run P X ops dr Q (r + 1) i st log := by
  obtain ⟨o, ho, hop, hd, hn, hg, hgp⟩ := hat.out
  refine Run.step next ⟨preR_append.2 ⟨hgp, hx, trivial⟩, trivial, trivial⟩ (LR.value ho hg rfl hd.symm (hn_of hd hn) ?_)
  intro G st a w hs hpre
  obtain ⟨hx, _⟩ := (preR_append.1 hpre.r).2
  obtain ⟨β, hβ, hv⟩ : RdC P w G (a.eval x) (.ptr b k) := hs.opd hx
  refine ⟨.pointer (some ⟨β, k, none⟩), w, G, ?_, hs, ?_⟩
  · simp only [execOp, hop, hv]; rfl
  · rintro d ⟨⟩
    exact ⟨⟨β, hβ, rfl⟩, fun b' hb' => hs.opd_live hx b' hb'⟩
def strB' (P : Program) (t : TypeId) : Bool := match P.underlying t with | some .string => true | _ => false
theorem r_indexS {x y : Operand} {t s : Nat} {b : ByteArray} {k : IntKind} {n : Int} {c : UInt8} (hat : At st.env ops i X.n (.index t x y) s gs)
    (hx : opd st.env x = some (vD (.string b))) (hy : opd st.env y = some (vD (.int k n))) (ht : strB' P t = true) (h0 : 0 ≤ n) (hc : b[n.toNat]? = some c)
    (next : Run P X ops dr Q r (i + 1) (Loc.upd ⟨gs ++ [(x, vD (.string b)), (y, vD (.int k n))], [], some s, some (vD (.int .u8 (c.toNat : Int))), [], []⟩ st) ((i, ⟨gs ++ [(x, vD (.string b)), (y, vD (.int k n))], [], some s, some (vD (.int .u8 (c.toNat : Int))), [], []⟩) :: log)) : Run P X ops dr Q (r + 1) i st log := by
  obtain ⟨o, ho, hop, hd, hn, hg, hgp⟩ := hat.out
  refine Run.step next ⟨preR_append.2 ⟨hgp, hx, hy, trivial⟩, trivial, trivial⟩ (LR.value ho hg rfl hd.symm (hn_of hd hn) ?_)
  intro G st a w hs hpre
  obtain ⟨hx, hy, _⟩ := (preR_append.1 hpre.r).2
  have h1 : a.eval x = .string b := val_eq (hs.opd hx : RdT w G.S (a.eval x) (.val _))
  have h2 : a.eval y = .int k n := val_eq (hs.opd hy : RdT w G.S (a.eval y) (.val _))
  refine ⟨.int .u8 (c.toNat : Int), w, G, ?_, hs, ?_⟩
  · simp only [execOp, hop, h1, h2]
    refine run_then (a := .int .u8 (c.toNat : Int)) (w1 := w) ?_ rfl
    unfold strB' at ht
    split at ht
    · rename_i hu
      unfold Instr.index
      refine run_then (a := (k, n)) (w1 := w) rfl ?_
      refine run_then (run_underlying' hu w) ?_
      simp only [h0, if_true, hc]
      rfl
    · cases ht
  · rintro d ⟨⟩
    exact ⟨.val _ rfl, fun b hb => by cases hb⟩
def bytesSl (P : Program) (s : TypeId) : Bool := match P.underlying s with | some (.slice e) => (match P.underlying e with | some (.int .u8) => true | _ => false) | _ => false
theorem run_bytes {w : World} {a : Addr} {len cap : Nat} {xs : List Int} (h : (loadCells a len).run P w = .ok (xs.map fun n => Value.int .u8 n).toArray w) : (Conv.bytesToString (.slice (some a) len cap)).run P w = .ok (.string (bytesOf xs)) w := by
  unfold Conv.bytesToString
  refine run_then h ?_
  have key : ∀ (xs : List Int) (s : ByteArray), (forIn (m := Sem) (xs.map fun n => Value.int .u8 n) s (fun c r => (match c with
      | .int .u8 n => pure (ForInStep.yield (r.push (UInt8.ofNat n.toNat)))
      | _ => do stuck "bytesToString: byte expected" : Sem (ForInStep ByteArray)))).run P w = .ok (xs.foldl (fun s n => s.push (UInt8.ofNat n.toNat)) s) w := by
    intro xs
    induction xs with
    | nil => intro s; rfl
    | cons x xs ih =>
      intro s
      rw [List.map_cons, List.forIn_cons]
      refine run_then (a := ForInStep.yield (s.push (UInt8.ofNat x.toNat))) (w1 := w) rfl ?_
      exact ih _
  have h2 := key xs ByteArray.empty
  rw [← List.forIn_toArray] at h2
  refine run_then (a := bytesOf xs) (w1 := w) ?_ rfl
  exact h2
theorem r_convBS {x : Operand} {t t2 s : Nat} {d : D} {rb : List (Nat × Blk)} {rows : List (List T)} (xs : List Int) (hat : At st.env ops i X.n (.convert t t2 x) s gs)
    (hx : opd st.env x = some d) (hS : SrcW d rb 1 rows) (hb : preB st.bx rb) (hr : rows = xs.map fun n => [T.val (.int .u8 n)]) (ht : bytesSl P t = true) (ht2 : strB' P t2 = true)
    (next : Run P X ops dr Q r (i + 1) (Loc.upd ⟨gs ++ [(x, d)], rb, some s, some (vD (.string (bytesOf xs))), [], []⟩ st) ((i, ⟨gs ++ [(x, d)], rb, some s, some (vD (.string (bytesOf xs))), [], []⟩) :: log)) : Run P X ops dr Q (r + 1) i st log := by
  obtain ⟨o, ho, hop, hd, hn, hg, hgp⟩ := hat.out
  refine Run.step next ⟨preR_append.2 ⟨hgp, hx, trivial⟩, hb, trivial⟩ (LR.value ho hg rfl hd.symm (hn_of hd hn) ?_)
  intro G st a w hs hpre
  obtain ⟨hx, _⟩ := (preR_append.1 hpre.r).2
  have hb := hpre.b
  obtain ⟨p, cap, h1, h2⟩ := hs.srcW hx hS hb
  subst hr
  refine ⟨.string (bytesOf xs), w, G, ?_, hs, ?_⟩
  · simp only [execOp, hop]
    refine run_then (a := .string (bytesOf xs)) (w1 := w) ?_ rfl
    unfold bytesSl at ht
    split at ht
    · rename_i e hu
      split at ht
      · rename_i hu2
        unfold strB' at ht2
        split at ht2
        · rename_i hu3
          unfold convert
          refine run_then (run_underlying' hu w) ?_
          refine run_then (run_underlying' hu3 w) ?_
          rw [h1]
          simp only [List.length_map]
          refine run_then (run_underlying' hu2 w) ?_
          rcases h2 with h2 | ⟨β, off, arr, el, fz, h3, h4, h5⟩
          · have hx0 : xs = [] := by simpa using h2
            subst hx0
            cases p with
            | none => rfl
            | some q => exact run_bytes (xs := []) (by unfold loadCells loadCellsFrom; rfl)
          · subst h3
            refine run_bytes ?_
            have hsz : off + xs.length ≤ arr.size := by have := h5.1; simpa using this
            rw [run_loadCells h4 hsz]
            congr 1
            apply congrArg List.toArray
            apply List.ext_getElem?
            intro j
            rw [List.getElem?_map, List.getElem?_map]
            by_cases hj : j < xs.length
            · have hxj : xs[j]? = some xs[j] := by simp [hj]
              rw [List.getElem?_range hj, hxj]
              simp only [Option.map_some, Option.some.injEq]
              have hrow : (xs.map fun n => [T.val (.int .u8 n)])[j]? = some [T.val (.int .u8 xs[j])] := by rw [List.getElem?_map, hxj]; rfl
              have := h5.2.2 j _ 0 _ hrow rfl
              rw [Nat.mul_one, Nat.add_zero] at this
              exact val_eq this
            · rw [List.getElem?_eq_none (by simp; omega), List.getElem?_eq_none (by omega)]; rfl
        · cases ht2
      · cases ht
    · cases ht
  · rintro d ⟨⟩
    exact ⟨.val _ rfl, fun b hb => by cases hb⟩
end run
section maps
variable {K V : Type}
def mget [BEq K] (k : K) : List (K × V) → Option V
  | [] => none
  | p :: r => if k == p.1 then some p.2 else mget k r
def mset [BEq K] (k : K) (v : V) : List (K × V) → List (K × V)
  | [] => [(k, v)]
  | p :: r => if k == p.1 then (k, v) :: r else p :: mset k v r
def encM (kv : K → Value) (vt : V → T) (m : List (K × V)) : List (Value × T) := m.map fun p => (kv p.1, vt p.2)
end maps
structure KeyOk {K : Type} [BEq K] (P : Program) (t : TypeId) (kv : K → Value) : Prop where
  ty : ∃ kt el kd, P.underlying t = some (.map kt el) ∧ P.underlying kt = some kd ∧ (∀ a b : K, Instr.sameNow kd (kv a) (kv b) = some (a == b)) ∧ (∀ (e : Bool) (n : Nat) (v : K) (w : World), (Instr.checkKey e (n + 1) kt (kv v)).run P w = .ok () w)
  same : ∀ a b : K, (a == b) = true → Instr.sameBits 10000 (kv b) (kv a) = true
theorem findNow_get {K V : Type} [BEq K] {kd : TypeDesc} {kv : K → Value} (h : ∀ a b : K, Instr.sameNow kd (kv a) (kv b) = some (a == b)) (k : K) : ∀ (m : List (K × V)) (es : List MapEntry) (i : Nat), es.length = m.length → (∀ (j : Nat) (p : K × V), m[j]? = some p → ∃ e : MapEntry, es[j]? = some e ∧ e.key = kv p.1) →
    (mget k m = none ∧ Instr.findNow kd (kv k) es i = some none) ∨ ∃ j p e, m[j]? = some p ∧ es[j]? = some e ∧ (k == p.1) = true ∧ mget k m = some p.2 ∧ Instr.findNow kd (kv k) es i = some (some (i + j, e.val)) ∧ (∀ v, mset k v m = m.set j (k, v))
  | [], [], i, _, _ => .inl ⟨rfl, rfl⟩
  | p :: m, e :: es, i, hl, hp => by
    obtain ⟨e0, h0, h1⟩ := hp 0 p rfl
    simp at h0; subst h0
    have h2 := h k p.1
    by_cases hk : (k == p.1) = true
    · refine .inr ⟨0, p, e, rfl, rfl, hk, ?_, ?_, fun v => ?_⟩
      · simp only [mget, hk, if_true]
      · simp only [Instr.findNow, h1, h2, hk]; rfl
      · simp only [mset, hk, if_true]; rfl
    · have hk' : (k == p.1) = false := by simpa using hk
      rcases findNow_get h k m es (i + 1) (by simpa using hl) (fun j q hq => hp (j + 1) q (by simpa using hq)) with ⟨g1, g2⟩ | ⟨j, q, e', g1, g2, g3, g4, g5, g6⟩
      · refine .inl ⟨?_, ?_⟩
        · simp only [mget, hk']; exact g1
        · simp only [Instr.findNow, h1, h2, hk']; exact g2
      · refine .inr ⟨j + 1, q, e', by simpa using g1, by simpa using g2, g3, ?_, ?_, fun v => ?_⟩
        · simp only [mget, hk']; exact g4
        · simp only [Instr.findNow, h1, h2, hk']; rw [g5]; simp [Nat.add_assoc, Nat.add_comm 1]
        · simp only [mset, hk']; rw [g6 v]; rfl
theorem mset_none {K V : Type} [BEq K] (k : K) (v : V) : ∀ {m : List (K × V)}, mget k m = none → mset k v m = m ++ [(k, v)]
  | [], _ => rfl
  | p :: m, h => by
    simp only [mget] at h
    split at h
    · cases h
    · rename_i hk
      simp only [mset]; rw [if_neg hk, mset_none k v h]; rfl
section run
variable {dr : Bool} {Q : St → Prop} {r i : Nat} {st : St} {log : List (Nat × Loc)} {o : Oper} {gs : List (Operand × D)}
theorem r_makeMap {t s : Nat} (hat : At st.env ops i X.n (.makeMap t none) s gs) (hnew : st.bx s = none)
    (next : Run P X ops dr Q r (i + 1) (Loc.upd ⟨gs, [], some s, some (.e (.one (.mref s))), [(s, .mp [])], [s]⟩ st) ((i, ⟨gs, [], some s, some (.e (.one (.mref s))), [(s, .mp [])], [s]⟩) :: log)) : Run P X ops dr Q (r + 1) i st log := by
  obtain ⟨o, ho, hop, hd, hn, hg, hgp⟩ := hat.out
  refine Run.step next ⟨hgp, trivial, hnew, trivial⟩ (LR.value (rs := []) ho hg (by simp) hd.symm (hn_of hd hn) ?_)
  intro G st a w hs hpre
  have hnew := hpre.n.1
  have key := hs.newB (.map #[] 0) s (.mp []) undef (hs.nl hn) hnew
    ⟨w.heap.size, #[], 0, by simp [Gh.set], by rw [heap_alloc, if_pos rfl], rfl, fun i x h => by simp at h⟩ (fun c hc => by cases hc)
  refine ⟨.map (some w.heap.size), _, _, ?_, key, ?_⟩
  · simp only [execOp, hop]
    exact run_then (a := .map (some w.heap.size)) (w1 := w.alloc (.map #[] 0)) rfl rfl
  · rintro d ⟨⟩
    refine ⟨⟨w.heap.size, by simp [Gh.set], rfl⟩, fun b hb => ?_⟩
    simp [D.names, E.names, C.names] at hb
    subst hb; simp [setBs]
theorem SimG.mpAt {G : Gh} {a : Act} {w : World} (hs : SimG P X G st a w) {x : Operand} {b : Nat} {es : List (Value × T)} (hx : Lift.opd st.env x = some (.e (.one (.mref b)))) (hb : st.bx b = some (.mp es)) :
    ∃ β arr clock, a.eval x = .map (some β) ∧ G.loc b = some β ∧ w.heap[β]? = some (.map arr clock) ∧ arr.size = es.length ∧ ∀ (i : Nat) (y : Value × T), es[i]? = some y → ∃ m : MapEntry, arr[i]? = some m ∧ m.key = y.1 ∧ RdT w G.S m.val y.2 := by
  obtain ⟨β, hβ, hv⟩ : RdC P w G (a.eval x) (.mref b) := hs.opd hx
  obtain ⟨β', arr, clock, h1, h2, h3, h4⟩ := hs.blk b _ hb
  rw [hβ] at h1; cases h1
  exact ⟨β, arr, clock, hv, hβ, h2, h3, h4⟩
theorem run_getObj {β : Nat} {arr : Array MapEntry} {clock : Nat} {w : World} (h : w.heap[β]? = some (.map arr clock)) : (getObj β).run P w = .ok (.map arr clock) w := by
  simp [getObj, Sem.run, h]
theorem run_setObj {β : Nat} {arr : Array MapEntry} {clock : Nat} {o : Obj} {w : World} (h : w.heap[β]? = some (.map arr clock)) : (setObj β o).run P w = .ok () (wset w β o) := by
  simp [setObj, Sem.run, h, wset]
theorem run_findKey {K V : Type} [BEq K] {kt : TypeId} {kd : TypeDesc} {kv : K → Value} {k : K} {es : List MapEntry} {r : Option (Nat × Value)} {w : World} (hu : P.underlying kt = some kd) (h : Instr.findNow kd (kv k) es 0 = some r) : (Instr.findKey kt (kv k) es).run P w = .ok r w := by
  unfold Instr.findKey
  refine run_then (run_underlying' hu w) ?_
  rw [h]; rfl
theorem r_mapGet {K V : Type} [BEq K] {t s b el : Nat} {x y : Operand} {c : Bool} {z : Value} {kv : K → Value} {vt : V → T} {m : List (K × V)} {k : K} {dv v0 : V} (hat : At st.env ops i X.n (.lookup t x y c) s gs)
    (hx : opd st.env x = some (.e (.one (.mref b)))) (hy : opd st.env y = some (vD (kv k))) (hb : st.bx b = some (.mp (encM kv vt m))) (hk : KeyOk P t kv) (hel : (match P.underlying t with | some (.map _ e) => e == el | _ => false) = true) (hz : zeroB P el = some z) (hzv : vt dv = .val z) (hz1 : oneC z = true) (hv0 : (mget k m).getD dv = v0)
    (next : Run P X ops dr Q r (i + 1) (Loc.upd ⟨gs ++ [(x, .e (.one (.mref b))), (y, vD (kv k))], [(b, .mp (encM kv vt m))], some s, some (if c then .tup [.one (.pure (vt v0)), .one (.pure (.val (.bool (mget k m).isSome)))] else one (vt v0)), [], []⟩ st) ((i, ⟨gs ++ [(x, .e (.one (.mref b))), (y, vD (kv k))], [(b, .mp (encM kv vt m))], some s, some (if c then .tup [.one (.pure (vt v0)), .one (.pure (.val (.bool (mget k m).isSome)))] else one (vt v0)), [], []⟩) :: log)) : Run P X ops dr Q (r + 1) i st log := by
  obtain ⟨o, ho, hop, hd, hn, hg, hgp⟩ := hat.out
  refine Run.step next ⟨preR_append.2 ⟨hgp, hx, hy, trivial⟩, ⟨hb, trivial⟩, trivial⟩ (LR.value ho hg rfl hd.symm (hn_of hd hn) ?_)
  intro G st a w hs hpre
  obtain ⟨hx, hy, _⟩ := (preR_append.1 hpre.r).2
  have hb := hpre.b.1
  obtain ⟨β, arr, clock, h1, h2, h3, h4, h5⟩ := hs.mpAt hx hb
  have hY : a.eval y = kv k := val_eq (hs.opd hy : RdT w G.S (a.eval y) (.val _))
  obtain ⟨kt, el', kd, u1, u2, u3, u4⟩ := hk.ty
  rw [u1] at hel
  have hel' : el' = el := by simpa using hel
  subst hel'
  have hes : ∀ (j : Nat) (p : K × V), m[j]? = some p → ∃ e : MapEntry, arr.toList[j]? = some e ∧ e.key = kv p.1 ∧ RdT w G.S e.val (vt p.2) := fun j p hp => by
    obtain ⟨e, e1, e2, e3⟩ := h5 j (kv p.1, vt p.2) (by unfold encM; rw [List.getElem?_map, hp]; rfl)
    exact ⟨e, by simpa using e1, e2, e3⟩
  have hfin : ∃ v, (Instr.lookup t (.map (some β)) (kv k) c).run P w = .ok (if c then .tuple #[v, .bool (mget k m).isSome] else v) w ∧ RdT w G.S v (vt v0) := by
    rcases findNow_get (V := V) u3 k m arr.toList 0 (by simp [h4, encM]) (fun j p hp => by obtain ⟨e, e1, e2, _⟩ := hes j p hp; exact ⟨e, e1, e2⟩) with ⟨g1, g2⟩ | ⟨j, q, e, g1, g2, g3, g4, g5, _⟩
    · refine ⟨z, ?_, ?_⟩
      · rw [g1]
        unfold Instr.lookup
        refine run_then (run_underlying' u1 w) ?_
        refine run_then (run_getObj h3) ?_
        refine run_then (a := arr) (w1 := w) rfl ?_
        refine run_then (u4 _ _ _ _) ?_
        refine run_then (run_findKey (V := V) u2 g2) ?_
        refine run_then (run_zeroValue hz w) ?_
        exact run_then (a := (z, false)) (w1 := w) rfl rfl
      · rw [← hv0, g1, Option.getD_none, hzv]; exact .val _ hz1
    · refine ⟨e.val, ?_, ?_⟩
      · rw [g4]
        unfold Instr.lookup
        refine run_then (run_underlying' u1 w) ?_
        refine run_then (run_getObj h3) ?_
        refine run_then (a := arr) (w1 := w) rfl ?_
        refine run_then (u4 _ _ _ _) ?_
        refine run_then (run_findKey (V := V) u2 g5) ?_
        exact run_then (a := (e.val, true)) (w1 := w) rfl rfl
      · obtain ⟨e', e1, _, e3⟩ := hes j q g1
        rw [g2] at e1; cases e1
        rw [← hv0, g4]; exact e3
  obtain ⟨v, hv1, hv2⟩ := hfin
  refine ⟨(if c then .tuple #[v, .bool (mget k m).isSome] else v), w, G, ?_, hs, ?_⟩
  · simp only [execOp, hop, h1, hY]
    exact run_then hv1 rfl
  · rintro d hd'
    cases c with
    | false => cases hd'; exact ⟨hv2, fun b hb => by cases hb⟩
    | true =>
      cases hd'
      refine ⟨⟨_, rfl, rfl, fun j x hj => ?_⟩, fun b hb => by simp [D.names, enames, E.names, C.names] at hb⟩
      match j, hj with
      | 0, hj => cases hj; exact hv2
      | 1, hj => cases hj; exact .val _ rfl
theorem r_mapSet {K V : Type} [BEq K] {t b : Nat} {x y u : Operand} {kv : K → Value} {vt : V → T} {m m' : List (K × V)} {k : K} {v : V} {op : Op} (hat : at0S ops i = some op) (hop' : op = .mapUpdate t x y u ∨ op = .insert t x y u)
    (hx : opd st.env x = some (.e (.one (.mref b)))) (hy : opd st.env y = some (vD (kv k))) (hu : opd st.env u = some (one (vt v))) (hb : st.bx b = some (.mp (encM kv vt m))) (hk : KeyOk P t kv) (hm : mset k v m = m')
    (next : Run P X ops dr Q r (i + 1) (Loc.upd ⟨[(x, .e (.one (.mref b))), (y, vD (kv k)), (u, one (vt v))], [(b, .mp (encM kv vt m))], none, none, [(b, .mp (encM kv vt m'))], []⟩ st) ((i, ⟨[(x, .e (.one (.mref b))), (y, vD (kv k)), (u, one (vt v))], [(b, .mp (encM kv vt m))], none, none, [(b, .mp (encM kv vt m'))], []⟩) :: log)) : Run P X ops dr Q (r + 1) i st log := by
  obtain ⟨o, ho, hop, hd, hgn⟩ := atS_out hat
  have hg : Grd ops o [] := .none hgn
  refine Run.step next ⟨⟨hx, hy, hu, trivial⟩, ⟨hb, trivial⟩, trivial⟩ (LR.skip (rs := [(x, .e (.one (.mref b))), (y, vD (kv k)), (u, one (vt v))]) ho hg rfl hd rfl ?_)
  intro G st a w hs hpre
  obtain ⟨hx, hy, hu, _⟩ := hpre.r
  have hb := hpre.b.1
  subst hm
  obtain ⟨β, arr, clock, h1, h2, h3, h4, h5⟩ := hs.mpAt hx hb
  have hY : a.eval y = kv k := val_eq (hs.opd hy : RdT w G.S (a.eval y) (.val _))
  have hU : RdT w G.S (a.eval u) (vt v) := hs.opd hu
  obtain ⟨kt, el', kd, u1, u2, u3, u4⟩ := hk.ty
  have hes : ∀ (j : Nat) (p : K × V), m[j]? = some p → ∃ e : MapEntry, arr.toList[j]? = some e ∧ e.key = kv p.1 ∧ RdT w G.S e.val (vt p.2) := fun j p hp => by
    obtain ⟨e, e1, e2, e3⟩ := h5 j (kv p.1, vt p.2) (by unfold encM; rw [List.getElem?_map, hp]; rfl)
    exact ⟨e, by simpa using e1, e2, e3⟩
  have hat := hs.at_ok b _ β hb rfl (.inl h2)
  have hml : arr.size = m.length := by rw [h4]; simp [encM]
  have fin : ∀ arr' clock', arr'.size = (mset k v m).length → (∀ (j : Nat) (p : K × V), (mset k v m)[j]? = some p → ∃ e : MapEntry, arr'[j]? = some e ∧ e.key = kv p.1 ∧ RdT w G.S e.val (vt p.2)) →
      SimG P X G ⟨st.env, setBs st.bx [(b, .mp (encM kv vt (mset k v m)))]⟩ a (wset w β (.map arr' clock')) := by
    intro arr' clock' k1 k2
    have hS : ∀ γ, G.S γ → (wset w β (.map arr' clock')).heap[γ]? = w.heap[γ]? := fun γ hγ => by
      rw [heap_wset, if_neg (fun (h : γ = β ∧ β < w.heap.size) => hat.2.2 (h.1 ▸ hγ))]
    refine hs.setB (b := b) (k0 := .mp (encM kv vt m)) hb rfl rfl (.inl h2) ⟨β, arr', clock', h2, by rw [heap_wset, if_pos ⟨rfl, hat.2.1⟩], by rw [k1]; simp [encM], fun j y hy => ?_⟩ (fun c hc => by cases hc)
    unfold encM at hy
    rw [List.getElem?_map] at hy
    cases hp : (mset k v m)[j]? with
    | none => rw [hp] at hy; cases hy
    | some p =>
      rw [hp] at hy; cases hy
      obtain ⟨e, e1, e2, e3⟩ := k2 j p hp
      exact ⟨e, e1, e2, e3.mono hS fun _ h => h⟩
  have hrun : ∀ w', (Instr.mapUpdate t (.map (some β)) (kv k) (a.eval u)).run P w = .ok () w' → (execOp a.eval o).run P w = .ok .skip w' := fun w' h => by
    rcases hop' with e | e
    · simp only [execOp, hop, e, h1, hY]; exact run_then h rfl
    · simp only [execOp, hop, e, h1, hY]; exact run_then h rfl
  rcases findNow_get (V := V) u3 k m arr.toList 0 (by simp [hml]) (fun j p hp => by obtain ⟨e, e1, e2, _⟩ := hes j p hp; exact ⟨e, e1, e2⟩) with ⟨g1, g2⟩ | ⟨j, q, e, g1, g2, g3, g4, g5, g6⟩
  · refine ⟨_, G, hrun _ ?_, fin (arr.push { key := kv k, val := a.eval u, born := clock }) (clock + 1) ?_ ?_⟩
    · unfold Instr.mapUpdate
      refine run_then (run_underlying' u1 w) ?_
      refine run_then (run_getObj h3) ?_
      refine run_then (u4 _ _ _ _) ?_
      refine run_then (run_findKey (V := V) u2 g2) ?_
      exact run_setObj h3
    · rw [mset_none k v g1]; simp [hml]
    · intro j p hp
      rw [mset_none k v g1] at hp
      by_cases hj : j < m.length
      · rw [List.getElem?_append_left hj] at hp
        obtain ⟨e, e1, e2, e3⟩ := hes j p hp
        refine ⟨e, ?_, e2, e3⟩
        rw [Array.getElem?_push, if_neg (by omega)]
        simpa using e1
      · rw [List.getElem?_append_right (by omega)] at hp
        have hj0 : j - m.length = 0 := by have := lt_of_get hp; simp at this; omega
        rw [hj0] at hp; cases hp
        exact ⟨{ key := kv k, val := a.eval u, born := clock }, by rw [Array.getElem?_push, if_pos (by omega)], rfl, hU⟩
  · have hjm := lt_of_get g1
    have hje : arr[j]? = some e := by simpa using g2
    have hek : e.key = kv q.1 := by obtain ⟨e', e1, e2, _⟩ := hes j q g1; rw [g2] at e1; cases e1; exact e2
    refine ⟨_, G, hrun _ ?_, fin (arr.modify j fun e => { e with key := kv k, val := a.eval u }) clock ?_ ?_⟩
    · unfold Instr.mapUpdate
      refine run_then (run_underlying' u1 w) ?_
      refine run_then (run_getObj h3) ?_
      refine run_then (u4 _ _ _ _) ?_
      refine run_then (run_findKey (V := V) u2 g5) ?_
      simp only [Nat.zero_add]
      refine run_then (a := kv k) (w1 := w) ?_ (run_setObj h3)
      rw [hje]
      simp only [Option.map_some, Option.getD_some]
      unfold Instr.keyThatStays
      rw [hek, hk.same k q.1 g3]; rfl
    · rw [g6 v]; simp [hml]
    · intro j' p hp
      rw [g6 v] at hp
      rw [Array.getElem?_modify]
      rcases set_get hp with ⟨rfl, rfl⟩ | ⟨hne, hp⟩
      · rw [if_pos rfl, hje]
        exact ⟨_, rfl, rfl, hU⟩
      · rw [if_neg (fun h => hne h.symm)]
        obtain ⟨e', e1, e2, e3⟩ := hes j' p hp
        exact ⟨e', by simpa using e1, e2, e3⟩
end run
end Go.Lift

/- Slices within slices that are nobody else's: taken out, put back, appended, given over to sharing. No condition. -/
namespace Go.Lift
open Go.RowKit
variable {P : Program} {X : Ctx} {ops : Array Oper}
def C.ts0 : C → Option T
  | .pure t => some t
  | _ => none
def E.ts0 : E → Option (List T)
  | .one c => match c.ts0 with
    | some t => some [t]
    | none => none
  | .agg cs => cs.mapM C.ts0
theorem RdC.ts0 {w : World} {G : Gh} {v : Value} {c : C} {t : T} (h : RdC P w G v c) (ht : c.ts0 = some t) : RdT w G.S v t := by
  cases c <;> first | (cases ht; done) | (cases ht; exact h)
theorem RdE.ts0 {w : World} {G : Gh} {v : Value} {y : E} {ts : List T} (h : RdE P w G v y) (ht : y.ts0 = some ts) :
    v.cells.size = ts.length ∧ ∀ (j : Nat) (t : T), ts[j]? = some t → RdT w G.S (cellAt v.cells j) t := by
  obtain ⟨h1, h2⟩ := h.cells
  cases y with
  | one c =>
    simp only [E.ts0] at ht
    cases hc : c.ts0 with
    | none => rw [hc] at ht; cases ht
    | some t =>
      rw [hc] at ht; cases ht
      refine ⟨h1, fun j u hj => ?_⟩
      cases j with
      | zero => simp at hj; subst hj; exact (h2 0 c rfl).ts0 hc
      | succ j => simp at hj
  | agg cs =>
    obtain ⟨g1, g2⟩ := mapM_get (show cs.mapM C.ts0 = some ts from ht)
    refine ⟨by rw [h1, g1]; rfl, fun j t hj => ?_⟩
    obtain ⟨c, hc1, hc2⟩ := g2 j t hj
    exact (h2 j c hc1).ts0 hc2
theorem fill_rows0 {w : World} {G : Gh} (e : Nat) : ∀ (ps : List (Nat × E)) (vs : List (Nat × Value)) (rows : List (List T)) (k n : Nat) (arr : Array Value),
    ps.map (·.1) = (List.range' k ps.length) → k + ps.length ≤ n → arr.size = n * e → ps.length = vs.length → (∀ (j : Nat) (p : Nat × E) (v : Nat × Value), ps[j]? = some p → vs[j]? = some v → p.1 = v.1 ∧ RdE P w G v.2 p.2) →
    (ps.mapM fun p => p.2.ts0) = some rows → (∀ (i : Nat) (row : List T), rows[i]? = some row → row.length = e) →
    ∃ arr', Instr.fill (fun i => some (i * e, e)) arr vs = some arr' ∧ arr'.size = n * e ∧ (∀ j, j < k * e → cellAt arr' j = cellAt arr j) ∧ (∀ (i : Nat) (row : List T) (j : Nat) (t : T), rows[i]? = some row → row[j]? = some t → RdT w G.S (cellAt arr' ((k + i) * e + j)) t)
  | [], [], rows, k, n, arr, _, _, hsz, _, _, hr, _ => by
    simp at hr; subst hr
    exact ⟨arr, rfl, hsz, fun _ _ => rfl, fun i row j t hi => by simp at hi⟩
  | p :: ps, v :: vs, rows, k, n, arr, hk, hkn, hsz, hl, hp, hr, hrl => by
    simp only [List.length_cons] at hkn hl
    have hk0 : p.1 = k := by
      have := congrArg (fun l : List Nat => l[0]?) hk
      simpa [List.range'] using this
    have hk1 : ps.map (·.1) = List.range' (k + 1) ps.length := by
      have := congrArg List.tail hk
      simpa [List.range'] using this
    obtain ⟨e1, e2⟩ := hp 0 p v rfl rfl
    rw [List.mapM_cons] at hr
    cases hts : p.2.ts0 with
    | none => rw [hts] at hr; simp at hr
    | some ts =>
      obtain ⟨g1, g2⟩ := e2.ts0 hts
      rw [hts] at hr
      cases hrs : (ps.mapM fun p => p.2.ts0) with
      | none => rw [hrs] at hr; simp at hr
      | some rs =>
        rw [hrs] at hr
        simp at hr; subst hr
        have hte := hrl 0 ts rfl
        have hke : k * e + e ≤ n * e := by rw [← Nat.succ_mul]; exact Nat.mul_le_mul_right e (by omega)
        obtain ⟨arr', r1, r2, r3, r4⟩ := fill_rows0 e ps vs rs (k + 1) n (over arr (k * e) v.2.cells.toList) hk1 (by omega) (by rw [over_size, hsz]) (by omega) (fun j q u hq hu => hp (j + 1) q u (by simpa using hq) (by simpa using hu)) hrs (fun i row hi => hrl (i + 1) row (by simpa using hi))
        have hlen : v.2.cells.toList.length = e := by rw [Array.length_toList, g1, hte]
        have hov : ∀ j, cellAt (over arr (k * e) v.2.cells.toList) j = if k * e ≤ j ∧ j < k * e + e then cellAt v.2.cells (j - k * e) else cellAt arr j := fun j => by
          rw [cellAt_over _ _ _ _ (by rw [hlen, hsz]; exact hke), hlen, cellAt_toList]
        refine ⟨arr', ?_, r2, ?_, ?_⟩
        · obtain ⟨vi, vv⟩ := v
          simp only at e1 g1
          simp only [Instr.fill]
          rw [if_neg (by rw [← e1, hk0]; simp; omega), fill_over, ← e1, hk0]
          exact r1
        · intro j hj
          rw [r3 j (by rw [Nat.succ_mul]; omega), hov, if_neg (by omega)]
        · intro i row j t hi hj
          cases i with
          | zero =>
            simp at hi; subst hi
            have hj2 := lt_of_get hj
            rw [Nat.add_zero, r3 _ (by rw [Nat.succ_mul]; omega), hov, if_pos (by omega), Nat.add_sub_cancel_left]
            exact g2 j t hj
          | succ i =>
            rw [show (k + (i + 1)) * e + j = (k + 1 + i) * e + j from by rw [show k + (i + 1) = k + 1 + i from by omega]]
            exact r4 i row j t (by simpa using hi) hj
section run
variable {dr : Bool} {Q : St → Prop} {r i : Nat} {st : St} {log : List (Nat × Loc)} {o : Oper} {gs : List (Operand × D)}
theorem r_buildSlice0 {t el : TypeId} {s n e : Nat} {z : Value} {rows : List (List T)} {parts : Array (Nat × Operand)} (ps : List (Nat × Operand × E)) (hat : At st.env ops i X.n (.buildSlice t n parts) s gs) (hps : parts = (ps.map fun p => (p.1, p.2.1)).toArray)
    (hx : preR st.env (partsR ps)) (hnew : st.bx s = none) (ht : sliceB P t el = true) (he : szB P el e = true) (hz : zeroB P el = some z) (hk : ps.map (·.1) = List.range' 0 ps.length) (hl : ps.length = n) (hsm : n * e ≤ 16777216) (hr : (ps.map fun p => (p.1, p.2.2)).mapM (fun p => p.2.ts0) = some rows) (hrl : rows.all (fun row => row.length == e) = true)
    (next : Run P X ops dr Q r (i + 1) (Loc.upd ⟨gs ++ partsR ps, [], some s, some (.e (.one (.own s))), [(s, .vec e rows)], [s]⟩ st) ((i, ⟨gs ++ partsR ps, [], some s, some (.e (.one (.own s))), [(s, .vec e rows)], [s]⟩) :: log)) : Run P X ops dr Q (r + 1) i st log := by
  obtain ⟨o, ho, hop, hd, hn, hg, hgp⟩ := hat.out
  refine Run.step next ⟨preR_append.2 ⟨hgp, hx⟩, trivial, hnew, trivial⟩ (LR.value ho hg rfl hd.symm (hn_of hd hn) ?_)
  intro G st a w hs hpre
  have hx := (preR_append.1 hpre.r).2
  have hnew := hpre.n.1
  have hpr := parts_read hs hx
  have hrl' : ∀ (i : Nat) (row : List T), rows[i]? = some row → row.length = e := fun i row hi => by
    have := List.all_eq_true.1 hrl row (List.mem_of_getElem? hi); simpa using this
  have hrn : rows.length = n := by
    have := mapM_length hr
    simpa [hl] using this
  obtain ⟨arr', r1, r2, r3, r4⟩ := fill_rows0 (P := P) (w := w) (G := G) e (ps.map fun p => (p.1, p.2.2)) (ps.map fun p => (p.1, a.eval p.2.1)) rows 0 n ((Array.range (n * e)).map (fun k => (if n * e = 0 then (#[] : Array Value) else z.cells)[k % (if n * e = 0 then (#[] : Array Value) else z.cells).size]!)) (by simpa [Function.comp_def] using hk) (by simp [hl]) (by simp) (by simp) (fun j p v hp hv => ⟨(hpr j p v hp hv).1, (hpr j p v hp hv).2.1⟩) hr hrl'
  simp only [Nat.zero_add] at r4
  have hext : G.ext (G.set s (some w.heap.size) (.slice (some ⟨w.heap.size, 0, none⟩) n n)) (fun b => (st.bx b).isSome = true) := Gh.set_ext _ _ _ _ (by simp [hnew])
  have key := hs.newB (.cells arr' el) s (.vec e rows) (.slice (some ⟨w.heap.size, 0, none⟩) n n) (hs.nl hn) hnew
    (.inr ⟨w.heap.size, n, arr', el, by simp [Gh.set], by simp [Gh.set, hrn], by rw [heap_alloc, if_pos rfl], by omega, r2, hrl', fun i row j t hi hj => (r4 i row j t hi hj).mono (fun β hβ => by rw [heap_alloc, if_neg (Nat.ne_of_lt (hs.S_lt β hβ))]) fun _ h => h⟩)
    (fun c hc => by cases hc)
  refine ⟨.slice (some ⟨w.heap.size, 0, none⟩) n n, _, _, ?_, key, ?_⟩
  · simp only [execOp, hop, hps, parts_array]
    refine run_then (w1 := w.alloc (.cells arr' el)) (a := .slice (some ⟨w.heap.size, 0, none⟩) n n) ?_ rfl
    unfold sliceB at ht
    split at ht
    · rename_i e' hu
      have : e' = el := by simpa using ht
      subst this
      unfold Instr.buildSlice
      refine run_then (run_underlying' hu w) ?_
      refine run_then (run_sizeOf he w) ?_
      rw [if_neg (by omega)]
      by_cases hne : n * e = 0
      · rw [if_pos hne] at r1
        rw [if_pos hne]
        refine run_then (a := (#[] : Array Value)) (w1 := w) rfl ?_
        simp only [r1]
        rfl
      · rw [if_neg hne] at r1
        rw [if_neg hne]
        refine run_then (run_zeroValue hz w) ?_
        refine run_then (a := z.cells) (w1 := w) rfl ?_
        simp only [r1]
        rfl
    · cases ht
  · rintro d ⟨⟩
    refine ⟨⟨by simp [Gh.set], _, _, _, rfl⟩, fun b hb => ?_⟩
    simp [D.names, E.names, C.names] at hb
    subst hb; simp [setBs]
def vl : Blk → Option (Nat × Nat)
  | .vec e rows => some (e, rows.length)
  | .dvec e _ rows => some (e, rows.length)
  | .hol e _ _ _ _ rows => some (e, rows.length)
  | _ => none
theorem vl_hd {G : Gh} {w : World} {b e n : Nat} {k : Blk} (h : BlkOk P w G b k) (hk : vl k = some (e, n)) : ∃ a cap, G.hd b = .slice a n cap ∧ (0 < n → ∃ β, a = some ⟨β, 0, none⟩ ∧ G.loc b = some β) := by
  cases k with
  | vec e' rows =>
    cases hk
    rcases h with ⟨a, h1, h2, _⟩ | ⟨β, cap, arr, el, h0, h1, _⟩
    · subst h2; exact ⟨a, 0, h1, fun h => by cases h⟩
    · exact ⟨_, cap, h1, fun _ => ⟨β, rfl, h0⟩⟩
  | dvec e' cols rows =>
    cases hk
    rcases h with ⟨a, h1, h2, _⟩ | ⟨β, cap, arr, el, Rf, h0, h1, _⟩
    · subst h2; exact ⟨a, 0, h1, fun h => by cases h⟩
    · exact ⟨_, cap, h1, fun _ => ⟨β, rfl, h0⟩⟩
  | hol e' cols i0 k0 c rows =>
    cases hk
    obtain ⟨β, cap, arr, el, Rf, h0, h1, _⟩ := h
    exact ⟨_, cap, h1, fun _ => ⟨β, rfl, h0⟩⟩
  | _ => cases hk
theorem r_indexG {x y : Operand} {s e b m : Nat} {kb : Blk} {t el : TypeId} {k : IntKind} {n : Int} (hat : At st.env ops i X.n (.indexAddr t x y) s gs)
    (hx : opd st.env x = some (.e (.one (.own b)))) (hy : opd st.env y = some (vD (.int k n))) (hb : st.bx b = some kb) (hk : vl kb = some (e, m)) (ht : sliceB P t el = true) (hz : szB P el e = true) (h0 : 0 ≤ n) (hlt : n.toNat < m)
    (next : Run P X ops dr Q r (i + 1) (Loc.upd ⟨gs ++ [(x, .e (.one (.own b))), (y, vD (.int k n))], [(b, kb)], some s, some (.e (.one (.eptr b e n.toNat 0))), [], []⟩ st) ((i, ⟨gs ++ [(x, .e (.one (.own b))), (y, vD (.int k n))], [(b, kb)], some s, some (.e (.one (.eptr b e n.toNat 0))), [], []⟩) :: log)) : Run P X ops dr Q (r + 1) i st log := by
  obtain ⟨o, ho, hop, hd, hn, hg, hgp⟩ := hat.out
  refine Run.step next ⟨preR_append.2 ⟨hgp, hx, hy, trivial⟩, ⟨hb, trivial⟩, trivial⟩ (LR.value ho hg rfl hd.symm (hn_of hd hn) ?_)
  intro G st a w hs hpre
  obtain ⟨hx, hy, _⟩ := (preR_append.1 hpre.r).2
  have hb := hpre.b.1
  obtain ⟨hR, _⟩ : RdC P w G (a.eval x) (.own b) := hs.opd hx
  have hY : a.eval y = .int k n := val_eq (hs.opd hy : RdT w G.S (a.eval y) (.val _))
  obtain ⟨a0, cap, h1, h2⟩ := vl_hd (hs.blk b _ hb) hk
  obtain ⟨β, g1, g2⟩ := h2 (by omega)
  subst g1
  refine ⟨_, w, G, by simp only [execOp, hop, hR, h1, hY]; exact run_then (run_indexAt ht hz h0 hlt) rfl, hs, ?_⟩
  rintro d ⟨⟩
  exact ⟨⟨β, g2, by simp⟩, fun b' hb' => hs.opd_live hx b' (by simpa [D.names, E.names, C.names] using hb')⟩
theorem r_lenG {x : Operand} {s t el b e m : Nat} {kb : Blk} (hat : At st.env ops i X.n (.call ⟨.builtin .len, #[x], #[t]⟩) s gs)
    (hx : opd st.env x = some (.e (.one (.own b)))) (hb : st.bx b = some kb) (hk : vl kb = some (e, m)) (ht : sliceB P t el = true)
    (next : Run P X ops dr Q r (i + 1) (Loc.upd ⟨gs ++ [(x, .e (.one (.own b)))], [(b, kb)], some s, some (vD (goInt m)), [], []⟩ st) ((i, ⟨gs ++ [(x, .e (.one (.own b)))], [(b, kb)], some s, some (vD (goInt m)), [], []⟩) :: log)) : Run P X ops dr Q (r + 1) i st log := by
  obtain ⟨o, ho, hop, hd, hn, hg, hgp⟩ := hat.out
  refine Run.step next ⟨preR_append.2 ⟨hgp, hx, trivial⟩, ⟨hb, trivial⟩, trivial⟩ (LR.value ho hg rfl hd.symm (hn_of hd hn) ?_)
  intro G st a w hs hpre
  obtain ⟨hx, _⟩ := (preR_append.1 hpre.r).2
  have hb := hpre.b.1
  obtain ⟨hR, _⟩ : RdC P w G (a.eval x) (.own b) := hs.opd hx
  obtain ⟨a0, cap, h1, h2⟩ := vl_hd (hs.blk b _ hb) hk
  refine ⟨goInt m, w, G, ?_, hs, ?_⟩
  · simp only [execOp, hop]
    refine run_builtin fun cs => ?_
    simp only [List.map_toArray, List.map_cons, List.map_nil, builtin, hR, h1]
    exact run_then (run_lenSlice ht) rfl
  · rintro d ⟨⟩
    exact ⟨.val _ rfl, fun b hb => by cases hb⟩
def isS : Ow → Bool
  | .s => true
  | _ => false
theorem isS_eq {o : Ow} (h : isS o = true) : o = .s := by cases o with
  | s => rfl
  | x e cols => cases h
theorem dvec_at {G : Gh} {w : World} {b e ix : Nat} {cols : List Ow} {rows : List (List T)} {row : List T} (h : BlkOk P w G b (.dvec e cols rows)) (hrow : rows[ix]? = some row) :
    ∃ β cap arr el, ∃ Rf : Nat → Nat → Nat → Prop, G.loc b = some β ∧ G.hd b = .slice (some ⟨β, 0, none⟩) rows.length cap ∧ w.heap[β]? = some (.cells arr el (0, 0)) ∧ rows.length ≤ cap ∧ arr.size = cap * e ∧
        (∀ (i : Nat) (row : List T), rows[i]? = some row → row.length = e) ∧ (∀ (i : Nat) (row : List T) (j : Nat) (t : T), rows[i]? = some row → row[j]? = some t → RdX w G.S (cols.getD j .s) (Rf i j) (cellAt arr (i * e + j)) t) ∧
        (∀ i j γ, Rf i j γ → G.more b γ) ∧ (∀ i j, ¬ Rf i j β) ∧ (∀ i j i' j' γ, Rf i j γ → Rf i' j' γ → i = i' ∧ j = j') ∧ ix * e + e ≤ arr.size := by
  rcases h with ⟨_, _, h0, _⟩ | ⟨β, cap, arr, el, Rf, h0, h1, h2, h3, h4, h5, h6, h7, h8, h9⟩
  · subst h0; simp at hrow
  · refine ⟨β, cap, arr, el, Rf, h0, h1, h2, h3, h4, h5, h6, h7, h8, h9, ?_⟩
    have := lt_of_get hrow
    rw [h4, ← Nat.succ_mul]; exact Nat.mul_le_mul_right e (Nat.le_trans this h3)
theorem r_loadDP {x : Operand} {b e ix k n s : Nat} {cols : List Ow} {rows : List (List T)} {row us : List T} {t : TypeId} (hat : At st.env ops i X.n (.load t x) s gs)
    (hx : opd st.env x = some (.e (.one (.eptr b e ix k)))) (ht : aggB P t true = true) (hz : szB P t n = true) (hb : st.bx b = some (.dvec e cols rows)) (hrow : rows[ix]? = some row) (hc : (row.drop k).take n = us) (hl : us.length = n) (hn0 : 0 < n) (hS : ((List.range n).all fun j => isS (cols.getD (k + j) .s)) = true)
    (next : Run P X ops dr Q r (i + 1) (Loc.upd ⟨gs ++ [(x, .e (.one (.eptr b e ix k)))], [(b, .dvec e cols rows)], some s, some (.e (.agg (us.map C.pure))), [], []⟩ st) ((i, ⟨gs ++ [(x, .e (.one (.eptr b e ix k)))], [(b, .dvec e cols rows)], some s, some (.e (.agg (us.map C.pure))), [], []⟩) :: log)) : Run P X ops dr Q (r + 1) i st log := by
  obtain ⟨o, ho, hop, hd, hn, hg, hgp⟩ := hat.out
  refine Run.step next ⟨preR_append.2 ⟨hgp, hx, trivial⟩, ⟨hb, trivial⟩, trivial⟩ (LR.value ho hg rfl hd.symm (hn_of hd hn) ?_)
  intro G st a w hs hpre
  have hx := (preR_append.1 hpre.r).2.1
  have hb := hpre.b.1
  obtain ⟨β, hβ, hv⟩ : RdC P w G (a.eval x) (.eptr b e ix k) := hs.opd hx
  obtain ⟨β', cap, arr, el, Rf, h0, h1, h2, h3, h4, h5, h6, h7, h8, h9, h10⟩ := dvec_at (hs.blk b _ hb) hrow
  rw [hβ] at h0; cases h0
  have hre := h5 ix row hrow
  have hkn : k + n ≤ row.length := by
    have := congrArg List.length hc
    simp at this; omega
  have hbnd2 : ix * e + k + n ≤ arr.size := by omega
  refine ⟨.agg ((List.range n).map fun j => cellAt arr (ix * e + k + j)).toArray, w, G, ?_, hs, ?_⟩
  · simp only [execOp, hop, hv]
    exact run_then (run_loadAtN ht hz h2 hbnd2) rfl
  · rintro d ⟨⟩
    refine ⟨pures_read hl fun j u hj => ?_, fun b hb => ?_⟩
    · have hjn := lt_of_get hj
      rw [← hc, List.getElem?_take_of_lt (by omega), List.getElem?_drop] at hj
      have := h6 ix row _ u hrow hj
      rw [isS_eq (List.all_eq_true.1 hS j (List.mem_range.2 (by omega)))] at this
      cases this with
      | s h => rwa [← Nat.add_assoc] at h
    · have hb' : b ∈ cnames (us.map C.pure) := hb
      rw [pures_names] at hb'; cases hb'
end run
theorem RdC.moreI {w : World} {G : Gh} {m : Nat → Nat → Prop} {v : Value} {c : C} (h : RdC P w G v c) : RdC P w { G with more := m } v c := by cases c <;> exact h
theorem RdE.moreI {w : World} {G : Gh} {m : Nat → Nat → Prop} {v : Value} {x : E} (h : RdE P w G v x) : RdE P w { G with more := m } v x := by
  cases x with
  | one c => exact RdC.moreI h
  | agg cs => obtain ⟨vs, e, hs, h⟩ := h; exact ⟨vs, e, hs, fun j c hj => (h j c hj).moreI⟩
theorem RdD.moreI {w : World} {G : Gh} {m : Nat → Nat → Prop} {v : Value} {d : D} (h : RdD P w G v d) : RdD P w { G with more := m } v d := by
  cases d with
  | e x => exact RdE.moreI h
  | tup xs => obtain ⟨vs, e, hs, h⟩ := h; exact ⟨vs, e, hs, fun j c hj => (h j c hj).moreI⟩
theorem BlkOk.moreI {w : World} {G : Gh} {m : Nat → Nat → Prop} {b : Nat} {k : Blk} (h : BlkOk P w G b k) (hm : m b = G.more b) : BlkOk P w { G with more := m } b k := by
  cases k with
  | box cells => obtain ⟨β, arr, el, h1, h2, h3, h4⟩ := h; exact ⟨β, arr, el, h1, h2, h3, fun j c hj => (h4 j c hj).moreI⟩
  | vec e rows => exact h
  | mp es => exact h
  | dvec e cols rows =>
    rcases h with h | ⟨β, cap, arr, el, Rf, h0, h1, h2, h3, h4, h5, h6, h7, h8⟩
    · exact .inl h
    · exact .inr ⟨β, cap, arr, el, Rf, h0, h1, h2, h3, h4, h5, h6, fun i j γ hγ => by show m b γ; rw [hm]; exact h7 i j γ hγ, h8⟩
  | hol e cols i0 k0 c rows =>
    obtain ⟨β, cap, arr, el, Rf, h0, h1, h2, h3, h4, h5, h6, h7, h8⟩ := h
    exact ⟨β, cap, arr, el, Rf, h0, h1, h2, h3, h4, h5, h6, fun i j γ hγ => by show m b γ; rw [hm]; exact h7 i j γ hγ, h8⟩
  | gone => trivial
theorem SimG.frame2 {G G' : Gh} {st : St} {bx' : Nat → Option Blk} {a : Act} {w w' : World} (h : SimG P X G st a w)
    (hlive : ∀ b, (st.bx b).isSome = true → (bx' b).isSome = true)
    (hS : ∀ β, G.S β → G'.S β) (hloc : ∀ b, (st.bx b).isSome = true → G'.loc b = G.loc b) (hhd : ∀ b, (st.bx b).isSome = true → G'.hd b = G.hd b)
    (hw : ∀ β, G.S β → w'.heap[β]? = w.heap[β]?)
    (hb : ∀ b k, bx' b = some k → (st.bx b = some k ∧ G'.more b = G.more b ∧ ∀ β, k.real = true → G.has b β → w'.heap[β]? = w.heap[β]?) ∨ (BlkOk P w' G' b k ∧ ∀ c, c ∈ k.names → (bx' c).isSome = true))
    (hat : ∀ b k β, bx' b = some k → k.real = true → G'.has b β → OwnAt X b β ∧ β < w'.heap.size ∧ ¬ G'.S β)
    (hinj : ∀ b c k l β, bx' b = some k → bx' c = some l → k.real = true → l.real = true → G'.has b β → G'.has c β → b = c)
    (hS1 : ∀ β, G'.S β → β < w'.heap.size) (hS2 : ∀ β, G'.S β → X.S0 β ∨ X.w0.heap.size ≤ β)
    (hbel : BelowL X.L X.w0.heap.size X.w0 w') (hL : ∀ b, isLent b = true → G'.loc b = G.loc b ∧ G'.hd b = G.hd b ∧ G'.more b = G.more b) : SimG P X G' { st with bx := bx' } a w' := by
  let G2 : Gh := { G' with more := G.more }
  have hext : G.ext G2 (fun b => (st.bx b).isSome = true) := ⟨hS, hloc, hhd, fun _ _ => rfl⟩
  have e0 : ({ G2 with more := G'.more } : Gh) = G' := rfl
  exact {
    S_lt := hS1
    S_src := hS2
    S_0 := fun β hβ => hS β (h.S_0 β hβ)
    S0_lt := h.S0_lt
    blk := fun b k hk => by
      rcases hb b k hk with ⟨h1, h2, h3⟩ | ⟨h1, _⟩
      · have := (h.blk b k h1).mono hext (by simp [h1]) hw h3 fun c hc => h.liveB b k h1 c hc
        have := this.moreI (m := G'.more) h2
        rwa [e0] at this
      · exact h1
    at_ok := hat
    at_inj := hinj
    env := fun s d hs => by
      have := ((h.env s d hs).mono hext hw (h.live s d hs)).moreI (m := G'.more)
      rwa [e0] at this
    live := fun s d hs b hb' => hlive b (h.live s d hs b hb')
    liveB := fun b k hk c hc => by
      rcases hb b k hk with ⟨h1, _⟩ | ⟨_, h2⟩
      · exact hlive c (h.liveB b k h1 c hc)
      · exact h2 c hc
    tsz := h.tsz
    nlt := h.nlt
    lent := fun b hb => by
      obtain ⟨h1, h2, h3⟩ := hL b hb
      rw [h1, h2, h3]; exact h.lent b hb
    defers := h.defers
    below := hbel }
def inner (e : Nat) (cols : List Ow) (rows : List (List T)) : Blk := if cols.all isS then .vec e rows else .dvec e cols rows
theorem getD_isS {cols : List Ow} (h : cols.all isS = true) (j : Nat) : cols.getD j .s = .s := by
  rw [List.getD_eq_getElem?_getD]
  cases hc : cols[j]? with
  | none => rfl
  | some o => exact isS_eq (List.all_eq_true.1 h o (List.mem_of_getElem? hc))
theorem inner_real {e : Nat} {cols : List Ow} {rows : List (List T)} : (inner e cols rows).real = true := by unfold inner; split <;> rfl
theorem inner_names {e : Nat} {cols : List Ow} {rows : List (List T)} : (inner e cols rows).names = [] := by unfold inner; split <;> rfl
theorem inner_of {G : Gh} {w : World} {e : Nat} {cols : List Ow} {R : Nat → Prop} {v : Value} {rows : List (List T)} (h : RdX w G.S (.x e cols) R v (.sl rows)) :
    ∃ (l : Option Nat) (m : Nat → Prop), (∀ β, l = some β ∨ m β → R β) ∧ (∃ p n q, v = .slice p n q) ∧ ∀ (G' : Gh) (b : Nat), (∀ β, G.S β → G'.S β) → G'.loc b = l → G'.hd b = v → (∀ β, m β → G'.more b β) → BlkOk P w G' b (inner e cols rows) := by
  cases h with
  | nil a =>
    refine ⟨none, fun _ => False, fun β h => (by rcases h with h | h; · cases h
                                                 · exact h.elim), ⟨_, _, _, rfl⟩, fun G' b hS h1 h2 h3 => ?_⟩
    unfold inner
    split
    · exact .inl ⟨a, h2, rfl, h1⟩
    · exact .inl ⟨a, h2, rfl, h1⟩
  | sl β cap _ _ arr el _ Rf k1 k2 k3 k4 k5 k6 k7 k8 k9 =>
    refine ⟨some β, fun γ => ∃ i j, Rf i j γ, fun γ h => ?_, ⟨_, _, _, rfl⟩, fun G' b hS h1 h2 h3 => ?_⟩
    · rcases h with h | ⟨i, j, h⟩
      · cases h; exact k6
      · exact k7 i j γ h
    · unfold inner
      split
      · rename_i hall
        refine .inr ⟨β, cap, arr, el, h1, h2, k1, k2, k3, k4, fun i row j t hi hj => ?_⟩
        have := k5 i row j t hi hj
        rw [getD_isS hall] at this
        cases this with
        | s h => exact h.mono (fun _ _ => rfl) hS
      · exact .inr ⟨β, cap, arr, el, Rf, h1, h2, k1, k2, k3, k4, fun i row j t hi hj => (k5 i row j t hi hj).mono (fun _ _ => rfl) hS (fun _ h => h), fun i j γ hγ => h3 γ ⟨i, j, hγ⟩, k8, k9⟩
theorem inner_to {G : Gh} {w : World} {b e : Nat} {cols : List Ow} {rows : List (List T)} (h : BlkOk P w G b (inner e cols rows)) : RdX w G.S (.x e cols) (G.has b) (G.hd b) (.sl rows) := by
  unfold inner at h
  split at h
  · rename_i hall
    rcases h with ⟨a, h1, h2, _⟩ | ⟨β, cap, arr, el, h0, h1, h2, h3, h4, h5, h6⟩
    · rw [h1, h2]; exact .nil a e cols
    · rw [h1]
      exact .sl β cap e cols arr el rows (fun _ _ _ => False) h2 h3 h4 h5 (fun i row j t hi hj => by rw [getD_isS hall]; exact .s (h6 i row j t hi hj)) (.inl h0) (fun _ _ _ h => h.elim) (fun _ _ h => h) (fun _ _ _ _ _ h => h.elim)
  · rcases h with ⟨a, h1, h2, _⟩ | ⟨β, cap, arr, el, Rf, h0, h1, h2, h3, h4, h5, h6, h7, h8, h9⟩
    · rw [h1, h2]; exact .nil a e cols
    · rw [h1]
      exact .sl β cap e cols arr el rows Rf h2 h3 h4 h5 h6 (.inl h0) (fun i j γ hγ => .inr (h7 i j γ hγ)) h8 h9
section run
variable {dr : Bool} {Q : St → Prop} {r i : Nat} {st : St} {log : List (Nat × Loc)} {o : Oper} {gs : List (Operand × D)}
theorem r_take {x : Operand} {b e ix k s e2 : Nat} {cols cols2 : List Ow} {rows rows2 : List (List T)} {row : List T} {t : TypeId} (hat : At st.env ops i X.n (.load t x) s gs)
    (hx : opd st.env x = some (.e (.one (.eptr b e ix k)))) (ht : aggB P t false = true) (hb : st.bx b = some (.dvec e cols rows)) (hrow : rows[ix]? = some row) (hc : row[k]? = some (.sl rows2)) (hcol : cols.getD k .s = .x e2 cols2) (hbl : isLent b = false) (hnew : st.bx s = none)
    (next : Run P X ops dr Q r (i + 1) (Loc.upd ⟨gs ++ [(x, .e (.one (.eptr b e ix k)))], [(b, .dvec e cols rows)], some s, some (.e (.one (.own s))), [(b, .hol e cols ix k s rows), (s, inner e2 cols2 rows2)], [s]⟩ st) ((i, ⟨gs ++ [(x, .e (.one (.eptr b e ix k)))], [(b, .dvec e cols rows)], some s, some (.e (.one (.own s))), [(b, .hol e cols ix k s rows), (s, inner e2 cols2 rows2)], [s]⟩) :: log)) : Run P X ops dr Q (r + 1) i st log := by
  obtain ⟨o, ho, hop, hd, hn, hg, hgp⟩ := hat.out
  refine Run.step next ⟨preR_append.2 ⟨hgp, hx, trivial⟩, ⟨hb, trivial⟩, hnew, trivial⟩ (LR.value ho hg rfl hd.symm (hn_of hd hn) ?_)
  intro G st a w hs hpre
  have hx := (preR_append.1 hpre.r).2.1
  have hb := hpre.b.1
  have hnew := hpre.n.1
  have hsb : s ≠ b := fun e => by rw [e, hb] at hnew; cases hnew
  obtain ⟨β, hβ, hv⟩ : RdC P w G (a.eval x) (.eptr b e ix k) := hs.opd hx
  obtain ⟨β', cap, arr, el, Rf, h0, h1, h2, h3, h4, h5, h6, h7, h8, h9, h10⟩ := dvec_at (hs.blk b _ hb) hrow
  rw [hβ] at h0; cases h0
  have hre := h5 ix row hrow
  have hk := lt_of_get hc
  have hcell := h6 ix row k _ hrow hc
  rw [hcol] at hcell
  obtain ⟨l, m, g1, g2, g3⟩ := inner_of (P := P) hcell
  let G' : Gh := { S := G.S, loc := fun c => if c = s then l else G.loc c, hd := fun c => if c = s then cellAt arr (ix * e + k) else G.hd c, more := fun c => if c = s then m else if c = b then (fun γ => G.more b γ ∧ ¬ Rf ix k γ) else G.more c }
  have hsome : ∀ c, (st.bx c).isSome = true → c ≠ s := fun c hc e => by rw [e, hnew] at hc; cases hc
  have hbx : ∀ c, setBs st.bx [(b, .hol e cols ix k s rows), (s, inner e2 cols2 rows2)] c = if c = b then some (.hol e cols ix k s rows) else if c = s then some (inner e2 cols2 rows2) else st.bx c := fun c => rfl
  have hasS : ∀ γ, G'.has s γ → Rf ix k γ := fun γ h => by
    unfold Gh.has at h
    simp only [G', if_true] at h
    exact g1 γ h
  have hasB : ∀ γ, G'.has b γ → G.has b γ ∧ ¬ Rf ix k γ := fun γ h => by
    unfold Gh.has at h
    simp only [G', if_neg hsb.symm, if_true] at h
    rcases h with h | h
    · refine ⟨.inl h, fun hr => ?_⟩
      rw [hβ] at h; cases h
      exact h8 ix k hr
    · exact ⟨.inr h.1, h.2⟩
  have hasO : ∀ c γ, c ≠ s → c ≠ b → (G'.has c γ ↔ G.has c γ) := fun c γ h1 h2 => by
    unfold Gh.has
    simp only [G', if_neg h1, if_neg h2]
  have hbl2 := hs.nl hn
  have key : SimG P X G' ⟨st.env, setBs st.bx [(b, .hol e cols ix k s rows), (s, inner e2 cols2 rows2)]⟩ a w := by
    refine hs.frame2 ?_ (fun _ h => h) (fun c hc => by simp only [G']; rw [if_neg (hsome c hc)]) (fun c hc => by simp only [G']; rw [if_neg (hsome c hc)]) (fun _ _ => rfl) ?_ ?_ ?_ hs.S_lt hs.S_src hs.below (fun c hc => ?_)
    · intro c hc; rw [hbx]; split
      · rfl
      · split
        · rfl
        · exact hc
    · intro c kk hc
      rw [hbx] at hc
      split at hc
      · rename_i e1; subst e1; cases hc
        refine .inr ⟨⟨β, cap, arr, el, fun i j γ => Rf i j γ ∧ ¬ (i = ix ∧ j = k), ?_, ?_, h2, h3, h4, h5, ?_, ?_, fun i j h => h8 i j h.1, fun i j i' j' γ h h' => h9 i j i' j' γ h.1 h'.1, ?_, ?_⟩, fun c' hc' => ?_⟩
        · simp only [G', if_neg hsb.symm]; exact hβ
        · simp only [G', if_neg hsb.symm]; exact h1
        · intro i0 row0 j0 t0 hi hj hne
          exact (h6 i0 row0 j0 t0 hi hj).mono (fun _ _ => rfl) (fun _ h => h) (fun γ hγ => ⟨hγ, hne⟩)
        · intro i0 j0 γ hγ
          simp only [G', if_neg hsb.symm, if_true]
          exact ⟨h7 i0 j0 γ hγ.1, fun hr => hγ.2 (h9 i0 j0 ix k γ hγ.1 hr)⟩
        · simp only [G', if_true]
        · simp only [G', if_true]; exact g2
        · have : c' = s := by simpa [Blk.names] using hc'
          subst this
          rw [hbx, if_neg hsb, if_pos rfl]; rfl
      · rename_i e1
        split at hc
        · rename_i e2'; subst e2'; cases hc
          exact .inr ⟨g3 G' c (fun _ h => h) (by simp [G']) (by simp [G']) (fun γ hγ => by simp [G', hγ]), fun c' hc' => by rw [inner_names] at hc'; cases hc'⟩
        · rename_i e2'
          exact .inl ⟨hc, by simp only [G', if_neg e1, if_neg e2'], fun _ _ _ => rfl⟩
    · intro c kk γ hc hr hγ
      rw [hbx] at hc
      split at hc
      · rename_i e1; subst e1
        exact hs.at_ok c _ γ hb rfl (hasB γ hγ).1
      · rename_i e1
        split at hc
        · rename_i e2'; subst e2'
          have := hs.at_ok b _ γ hb rfl (.inr (h7 ix k γ (hasS γ hγ)))
          exact ⟨.new (this.1.1 hbl), this.2⟩
        · rename_i e2'
          exact hs.at_ok c kk γ hc hr ((hasO c γ e2' e1).1 hγ)
    · intro c c' kk kk' γ hc hc' hr hr' hγ hγ'
      rw [hbx] at hc hc'
      have cl : ∀ c kk, (if c = b then some (Blk.hol e cols ix k s rows) else if c = s then some (inner e2 cols2 rows2) else st.bx c) = some kk → kk.real = true → G'.has c γ → (c = b ∧ G.has b γ ∧ ¬ Rf ix k γ) ∨ (c = s ∧ Rf ix k γ) ∨ (c ≠ b ∧ st.bx c = some kk ∧ G.has c γ) := by
        intro c kk hc hr hγ
        split at hc
        · rename_i e1; subst e1; exact .inl ⟨rfl, hasB γ hγ⟩
        · rename_i e1
          split at hc
          · rename_i e2'; subst e2'; exact .inr (.inl ⟨rfl, hasS γ hγ⟩)
          · rename_i e2'; exact .inr (.inr ⟨e1, hc, (hasO c γ e2' e1).1 hγ⟩)
      rcases cl c kk hc hr hγ with ⟨q1, q2, q3⟩ | ⟨q1, q2⟩ | ⟨q1, q2, q3⟩ <;> rcases cl c' kk' hc' hr' hγ' with ⟨q1', q2', q3'⟩ | ⟨q1', q2'⟩ | ⟨q1', q2', q3'⟩
      · rw [q1, q1']
      · exact (q3 q2').elim
      · exact (q1' (hs.at_inj c' b _ _ γ q2' hb hr' rfl q3' q2)).elim
      · exact (q3' q2).elim
      · rw [q1, q1']
      · exact (q1' (hs.at_inj c' b _ _ γ q2' hb hr' rfl q3' (.inr (h7 ix k γ q2)))).elim
      · exact (q1 (hs.at_inj c b _ _ γ q2 hb hr rfl q3 q2')).elim
      · exact (q1 (hs.at_inj c b _ _ γ q2 hb hr rfl q3 (.inr (h7 ix k γ q2')))).elim
      · exact hs.at_inj c c' kk kk' γ q2 q2' hr hr' q3 q3'
    · have e1 : c ≠ s := fun e => by rw [e, hbl2] at hc; cases hc
      have e2' : c ≠ b := fun e => by rw [e, hbl] at hc; cases hc
      refine ⟨?_, ?_, ?_⟩ <;> simp only [G', if_neg e1, if_neg e2']
  refine ⟨cellAt arr (ix * e + k), w, G', ?_, key, ?_⟩
  · simp only [execOp, hop, hv]
    exact run_then (run_loadAt1 ht h2 (by omega)) rfl
  · rintro d ⟨⟩
    refine ⟨⟨by simp [G'], g2⟩, fun b' hb' => ?_⟩
    have : b' = s := by simpa [D.names, E.names, C.names] using hb'
    subst this
    rw [hbx, if_neg hsb, if_pos rfl]; rfl
theorem r_storeH {x y : Operand} {b c c0 e ix k e2 : Nat} {cols cols2 : List Ow} {rows rows2 rows' : List (List T)} {row : List T} {t : TypeId} (hat : at0S ops i = some (.store t x y))
    (hx : opd st.env x = some (.e (.one (.eptr b e ix k)))) (hy : opd st.env y = some (.e (.one (.own c)))) (hb : st.bx b = some (.hol e cols ix k c0 rows)) (hc : st.bx c = some (inner e2 cols2 rows2)) (hcol : cols.getD k .s = .x e2 cols2) (hrow : rows[ix]? = some row) (hk : k < e) (hz : szB P t 1 = true)
    (hbl : isLent b = false) (hcl : isLent c = false) (hr : rows.set ix (row.set k (.sl rows2)) = rows')
    (next : Run P X ops dr Q r (i + 1) (Loc.upd ⟨[(x, .e (.one (.eptr b e ix k))), (y, .e (.one (.own c)))], [(b, .hol e cols ix k c0 rows), (c, inner e2 cols2 rows2)], none, none, [(b, .dvec e cols rows'), (c, .gone)], []⟩ st) ((i, ⟨[(x, .e (.one (.eptr b e ix k))), (y, .e (.one (.own c)))], [(b, .hol e cols ix k c0 rows), (c, inner e2 cols2 rows2)], none, none, [(b, .dvec e cols rows'), (c, .gone)], []⟩) :: log)) : Run P X ops dr Q (r + 1) i st log := by
  obtain ⟨o, ho, hop, hd, hgn⟩ := atS_out hat
  have hg : Grd ops o [] := .none hgn
  have hcb : c ≠ b := fun e' => by rw [e', hb] at hc; unfold inner at hc; split at hc <;> cases hc
  refine Run.step next ⟨⟨hx, hy, trivial⟩, ⟨hb, hc, trivial⟩, trivial⟩ (LR.skip (rs := [(x, .e (.one (.eptr b e ix k))), (y, .e (.one (.own c)))]) ho hg rfl hd rfl ?_)
  intro G st a w hs hpre
  obtain ⟨hx, hy, _⟩ := hpre.r
  obtain ⟨hb, hc, _⟩ := hpre.b
  subst hr
  obtain ⟨β, hβ, hv⟩ : RdC P w G (a.eval x) (.eptr b e ix k) := hs.opd hx
  obtain ⟨hy1, pp, pn, pq, hy2⟩ : RdC P w G (a.eval y) (.own c) := hs.opd hy
  obtain ⟨β', cap, arr, el, Rf, h0, h1, h2, h3, h4, h5, h6, h7, h8, h9, h10, h11⟩ := hs.blk b _ hb
  rw [hβ] at h0; cases h0
  have hX := inner_to (hs.blk c _ hc)
  have hatb := hs.at_ok b _ β hb rfl (.inl hβ)
  have hre := h5 ix row hrow
  have hix := lt_of_get hrow
  have hbnd : ix * e + e ≤ arr.size := by rw [h4, ← Nat.succ_mul]; exact Nat.mul_le_mul_right e (Nat.le_trans hix h3)
  have hone : oneC (a.eval y) = true := by rw [hy2]; rfl
  have hst := run_storeCells (P := P) (β := β) (el := el) [a.eval y] w (ix * e + k) 0 arr h2 (by simp; omega) (fun v hv => by simp at hv; subst hv; exact hone)
  rw [Nat.add_zero] at hst
  let G' : Gh := { G with more := fun d => if d = b then (fun γ => G.more b γ ∨ G.has c γ) else G.more d }
  let arr' := over arr (ix * e + k) [a.eval y]
  let w' := wset w β (.cells arr' el (0, 0))
  have hover : ∀ j, cellAt arr' j = if j = ix * e + k then a.eval y else cellAt arr j := fun j => by
    show cellAt (over arr (ix * e + k) [a.eval y]) j = _
    rw [cellAt_over _ _ _ _ (by simp; omega)]
    simp only [List.length_singleton]
    by_cases hj : j = ix * e + k
    · subst hj; rw [if_pos (by omega), if_pos rfl]; simp
    · rw [if_neg (by omega), if_neg hj]
  have hheap : ∀ γ, γ ≠ β → w'.heap[γ]? = w.heap[γ]? := fun γ hγ => by show (wset w β _).heap[γ]? = _; rw [heap_wset, if_neg (fun h => hγ h.1)]
  have hsz : w'.heap.size = w.heap.size := by show (wset w β _).heap.size = _; simp [wset]
  have hcβ : ∀ γ, G.has c γ → γ ≠ β := fun γ h e' => hcb (hs.at_inj c b _ _ γ hc hb inner_real rfl h (.inl (e' ▸ hβ)))
  have hbx : ∀ d, setBs st.bx [(b, .dvec e cols (rows.set ix (row.set k (.sl rows2)))), (c, .gone)] d = if d = b then some (.dvec e cols (rows.set ix (row.set k (.sl rows2)))) else if d = c then some .gone else st.bx d := fun d => rfl
  have hasO : ∀ d γ, d ≠ b → (G'.has d γ ↔ G.has d γ) := fun d γ h => by unfold Gh.has; simp only [G', if_neg h]
  have hasB : ∀ γ, G'.has b γ → G.has b γ ∨ G.has c γ := fun γ h => by
    unfold Gh.has at h
    simp only [G', if_true] at h
    rcases h with h | h | h
    · exact .inl (.inl h)
    · exact .inl (.inr h)
    · exact .inr h
  have hix2 : ∀ i0 j0, j0 < e → i0 * e + j0 = ix * e + k → i0 = ix ∧ j0 = k := by
    intro i0 j0 hj0 he
    rcases Nat.lt_trichotomy i0 ix with h | h | h
    · have : i0 * e + e ≤ ix * e := by rw [← Nat.succ_mul]; exact Nat.mul_le_mul_right e h
      omega
    · subst h; exact ⟨rfl, by omega⟩
    · have : ix * e + e ≤ i0 * e := by rw [← Nat.succ_mul]; exact Nat.mul_le_mul_right e h
      omega
  refine ⟨w', G', ?_, ?_⟩
  · simp only [execOp, hop, hv]
    have hcells : (a.eval y).cells.toList = [a.eval y] := by rw [hy2]; rfl
    refine run_then (a := ()) (w1 := w') ?_ rfl
    have := run_storeAt (P := P) (n := 1) hz (v := a.eval y) (by rw [hy2]; rfl) h2 (show ix * e + k + 1 ≤ arr.size by omega) (fun u hu => by rw [hcells] at hu; simp at hu; subst hu; exact hone)
    rw [hcells] at this
    exact this
  · refine hs.frame2 (fun d hd => ?_) (fun _ h => h) (fun _ _ => rfl) (fun _ _ => rfl) (fun γ hγ => hheap γ fun e' => hatb.2.2 (e' ▸ hγ)) ?_ ?_ ?_ (fun γ hγ => by rw [hsz]; exact hs.S_lt γ hγ) hs.S_src (below_wset hs.below hatb.1.2 _) (fun d hd => ?_)
    · rw [hbx]; split
      · rfl
      · split
        · rfl
        · exact hd
    · intro d kk hd
      rw [hbx] at hd
      split at hd
      · rename_i e1; subst e1; cases hd
        refine .inr ⟨.inr ⟨β, cap, arr', el, fun i0 j0 γ => if i0 = ix ∧ j0 = k then G.has c γ else Rf i0 j0 γ, hβ, by rw [List.length_set]; exact h1, by show (wset w β _).heap[β]? = _; rw [heap_wset, if_pos ⟨rfl, hatb.2.1⟩], by rw [List.length_set]; exact h3, by show (over _ _ _).size = _; rw [over_size, h4], ?_, ?_, ?_, ?_, ?_⟩, fun c' hc' => by cases hc'⟩
        · intro j0 row' hj
          rcases set_get hj with ⟨_, rfl⟩ | ⟨_, hj⟩
          · rw [List.length_set]; exact hre
          · exact h5 j0 row' hj
        · intro i0 row' j0 t0 hi hj
          have hj0 : j0 < e := by
            have := lt_of_get hj
            rcases set_get hi with ⟨_, rfl⟩ | ⟨_, hi⟩
            · rw [List.length_set] at this; omega
            · have := h5 i0 row' hi; omega
          rw [hover]
          by_cases hh : i0 = ix ∧ j0 = k
          · obtain ⟨rfl, rfl⟩ := hh
            rw [if_pos rfl, hcol]
            have ht0 : t0 = .sl rows2 := by
              rcases set_get hi with ⟨_, rfl⟩ | ⟨hne, _⟩
              · rcases set_get hj with ⟨_, rfl⟩ | ⟨hne, _⟩
                · rfl
                · exact (hne rfl).elim
              · exact (hne rfl).elim
            subst ht0
            rw [hy1]
            refine hX.mono (fun γ hγ => hheap γ ?_) (fun _ h => h) (fun γ hγ => by simp only [and_self, if_true]; exact hγ)
            rcases hγ with h | h
            · exact fun e' => hatb.2.2 (e' ▸ h)
            · exact hcβ γ h
          · rw [if_neg (fun h => hh (hix2 i0 j0 hj0 h))]
            have hold : ∃ row0, rows[i0]? = some row0 ∧ row0[j0]? = some t0 := by
              rcases set_get hi with ⟨hii, rfl⟩ | ⟨_, hi⟩
              · subst hii
                rcases set_get hj with ⟨hjj, _⟩ | ⟨_, hj⟩
                · exact (hh ⟨rfl, hjj⟩).elim
                · exact ⟨row, hrow, hj⟩
              · exact ⟨row', hi, hj⟩
            obtain ⟨row0, q1, q2⟩ := hold
            refine (h6 i0 row0 j0 t0 q1 q2 hh).mono (fun γ hγ => hheap γ ?_) (fun _ h => h) (fun γ hγ => by simp only [if_neg hh]; exact hγ)
            rcases hγ with h | h
            · exact fun e' => hatb.2.2 (e' ▸ h)
            · exact fun e' => h8 i0 j0 (e' ▸ h)
        · intro i0 j0 γ hγ
          simp only [G', if_true]
          split at hγ
          · exact .inr hγ
          · exact .inl (h7 i0 j0 γ hγ)
        · intro i0 j0 hγ
          split at hγ
          · exact hcβ β hγ rfl
          · exact h8 i0 j0 hγ
        · intro i0 j0 i1 j1 γ hγ hγ'
          have cross : ∀ i j, Rf i j γ → G.has c γ → False := fun i j hr hh => hcb (hs.at_inj c d _ _ γ hc hb inner_real rfl hh (.inr (h7 i j γ hr)))
          split at hγ <;> split at hγ'
          · rename_i q q'; exact ⟨q.1.trans q'.1.symm, q.2.trans q'.2.symm⟩
          · exact (cross _ _ hγ' hγ).elim
          · exact (cross _ _ hγ hγ').elim
          · exact h9 i0 j0 i1 j1 γ hγ hγ'
      · rename_i e1
        split at hd
        · cases hd; exact .inr ⟨trivial, fun c' hc' => by cases hc'⟩
        · rename_i e2'
          refine .inl ⟨hd, by simp only [G', if_neg e1], fun γ hr hγ => hheap γ fun e' => e1 (hs.at_inj d b kk _ γ hd hb hr rfl hγ (.inl (e' ▸ hβ)))⟩
    · intro d kk γ hd hr hγ
      rw [hbx] at hd
      rw [hsz]
      split at hd
      · rename_i e1; subst e1
        rcases hasB γ hγ with h | h
        · exact hs.at_ok d _ γ hb rfl h
        · have := hs.at_ok c _ γ hc inner_real h
          exact ⟨.new (this.1.1 hcl), this.2⟩
      · rename_i e1
        split at hd
        · cases hd; cases hr
        · exact hs.at_ok d kk γ hd hr ((hasO d γ e1).1 hγ)
    · intro d d' kk kk' γ hd hd' hr hr' hγ hγ'
      rw [hbx] at hd hd'
      have cl : ∀ d kk, (if d = b then some (Blk.dvec e cols (rows.set ix (row.set k (.sl rows2)))) else if d = c then some .gone else st.bx d) = some kk → kk.real = true → G'.has d γ → (d = b ∧ (G.has b γ ∨ G.has c γ)) ∨ (d ≠ b ∧ d ≠ c ∧ st.bx d = some kk ∧ G.has d γ) := by
        intro d kk hd hr hγ
        split at hd
        · rename_i e1; subst e1; exact .inl ⟨rfl, hasB γ hγ⟩
        · rename_i e1
          split at hd
          · cases hd; cases hr
          · rename_i e2'; exact .inr ⟨e1, e2', hd, (hasO d γ e1).1 hγ⟩
      rcases cl d kk hd hr hγ with ⟨q1, q2⟩ | ⟨q1, q2, q3, q4⟩ <;> rcases cl d' kk' hd' hr' hγ' with ⟨q1', q2'⟩ | ⟨q1', q2', q3', q4'⟩
      · rw [q1, q1']
      · rcases q2 with h | h
        · exact (q1' (hs.at_inj d' b _ _ γ q3' hb hr' rfl q4' h)).elim
        · exact (q2' (hs.at_inj d' c _ _ γ q3' hc hr' inner_real q4' h)).elim
      · rcases q2' with h | h
        · exact (q1 (hs.at_inj d b _ _ γ q3 hb hr rfl q4 h)).elim
        · exact (q2 (hs.at_inj d c _ _ γ q3 hc hr inner_real q4 h)).elim
      · exact hs.at_inj d d' kk kk' γ q3 q3' hr hr' q4 q4'
    · have e1 : d ≠ b := fun e' => by rw [e', hbl] at hd; cases hd
      refine ⟨rfl, rfl, ?_⟩
      simp only [G', if_neg e1]
end run
def nestRow (cols : List Ow) : Nat → List T → Option (List T)
  | _, [] => some []
  | j, t :: ts => match nestRow cols (j + 1) ts with
    | none => none
    | some us => if isS (cols.getD j .s) then some (t :: us) else match t with
      | .nil0 => some (.sl [] :: us)
      | _ => none
theorem nestRow_get {cols : List Ow} : ∀ {ts us : List T} {j0 : Nat}, nestRow cols j0 ts = some us → us.length = ts.length ∧ ∀ (j : Nat) (u : T), us[j]? = some u → ∃ t, ts[j]? = some t ∧ ((isS (cols.getD (j0 + j) .s) = true ∧ u = t) ∨ (isS (cols.getD (j0 + j) .s) = false ∧ t = .nil0 ∧ u = .sl []))
  | [], us, j0, h => by cases h; exact ⟨rfl, fun j u hj => by simp at hj⟩
  | t :: ts, us, j0, h => by
    simp only [nestRow] at h
    cases hr : nestRow cols (j0 + 1) ts with
    | none => rw [hr] at h; cases h
    | some vs =>
      rw [hr] at h
      obtain ⟨g1, g2⟩ := nestRow_get hr
      have step : ∀ (x : T), ((isS (cols.getD j0 .s) = true ∧ x = t) ∨ (isS (cols.getD j0 .s) = false ∧ t = .nil0 ∧ x = .sl [])) → us = x :: vs → us.length = (t :: ts).length ∧ ∀ (j : Nat) (u : T), us[j]? = some u → ∃ t', (t :: ts)[j]? = some t' ∧ ((isS (cols.getD (j0 + j) .s) = true ∧ u = t') ∨ (isS (cols.getD (j0 + j) .s) = false ∧ t' = .nil0 ∧ u = .sl [])) := by
        intro x hx hu
        subst hu
        refine ⟨by simp [g1], fun j u hj => ?_⟩
        cases j with
        | zero => simp at hj; subst hj; exact ⟨t, rfl, hx⟩
        | succ j =>
          obtain ⟨t', q1, q2⟩ := g2 j u (by simpa using hj)
          rw [show j0 + 1 + j = j0 + (j + 1) from by omega] at q2
          exact ⟨t', by simpa using q1, q2⟩
      by_cases hs : isS (cols.getD j0 .s) = true
      · simp only [hs, if_true] at h
        cases h; exact step t (.inl ⟨hs, rfl⟩) rfl
      · simp only [if_neg hs] at h
        cases t with
        | nil0 => cases h; exact step _ (.inr ⟨by simpa using hs, rfl, rfl⟩) rfl
        | _ => cases h
theorem sees_nest {st : St} (b e : Nat) (cols : List Ow) (rows rows' : List (List T)) (hb : st.bx b = some (.vec e rows)) (hr : rows.mapM (nestRow cols 0) = some rows') : Sees P X st (St.setB st b (.dvec e cols rows')) := by
  rintro a w ⟨G, h⟩
  obtain ⟨g1, g2⟩ := mapM_get hr
  refine ⟨G, h.frame (bx' := (St.setB st b (.dvec e cols rows')).bx) ?_ ⟨fun _ h => h, fun _ _ => rfl, fun _ _ => rfl, fun _ _ => rfl⟩ (fun _ _ => rfl) ?_ ?_ ?_ h.S_lt h.S_src h.below (fun _ _ => ⟨rfl, rfl, rfl⟩)⟩
  · intro c hc; simp only [St.setB]; split <;> simp [hc]
  · intro c k hc
    simp only [St.setB] at hc
    split at hc
    · rename_i e1; subst e1; cases hc
      refine .inr ⟨?_, fun c' hc' => by cases hc'⟩
      rcases h.blk c _ hb with ⟨a0, h1, h2, h3⟩ | ⟨β, cap, arr, el, h0, h1, h2, h3, h4, h5, h6⟩
      · refine .inl ⟨a0, h1, ?_, h3⟩
        subst h2
        exact List.eq_nil_of_length_eq_zero (by simpa using g1)
      · refine .inr ⟨β, cap, arr, el, fun _ _ _ => False, h0, by rw [g1]; exact h1, h2, by rw [g1]; exact h3, h4, ?_, ?_, fun _ _ _ h => h.elim, fun _ _ h => h, fun _ _ _ _ _ h => h.elim⟩
        · intro i row hi
          obtain ⟨row0, q1, q2⟩ := g2 i row hi
          rw [(nestRow_get q2).1]; exact h5 i row0 q1
        · intro i row j t hi hj
          obtain ⟨row0, q1, q2⟩ := g2 i row hi
          obtain ⟨t0, q3, q4⟩ := (nestRow_get q2).2 j t hj
          have hv := h6 i row0 j t0 q1 q3
          rw [Nat.zero_add] at q4
          rcases q4 with ⟨q5, q6⟩ | ⟨q5, q6, q7⟩
          · rw [isS_eq q5, q6]; exact .s hv
          · subst q6; subst q7
            generalize cellAt arr (i * e + j) = v at hv
            cases hv with
            | nil0 a' =>
              cases hcol : cols.getD j .s with
              | s => rw [hcol] at q5; cases q5
              | x e2 cols2 => exact .nil a' e2 cols2
    · exact .inl ⟨hc, fun _ _ _ => rfl⟩
  · intro c k β hc hr hβ
    simp only [St.setB] at hc
    split at hc
    · rename_i e1; subst e1; exact h.at_ok _ _ β hb rfl hβ
    · exact h.at_ok c k β hc hr hβ
  · intro c c' k k' β hc hc' hr hr' hβ hβ'
    simp only [St.setB] at hc hc'
    have old : ∀ c k, (if c = b then some (Blk.dvec e cols rows') else st.bx c) = some k → k.real = true → ∃ k0, st.bx c = some k0 ∧ k0.real = true := by
      intro c k hc hr
      split at hc
      · rename_i e1; subst e1; exact ⟨_, hb, rfl⟩
      · exact ⟨k, hc, hr⟩
    obtain ⟨k0, q1, q2⟩ := old c k hc hr
    obtain ⟨k0', q1', q2'⟩ := old c' k' hc' hr'
    exact h.at_inj c c' k0 k0' β q1 q1' q2 q2' hβ hβ'
end Go.Lift

/- Slices within slices: append, and giving over to sharing. No condition. -/
namespace Go.Lift
open Go.RowKit
variable {P : Program} {X : Ctx} {ops : Array Oper}
theorem cells_of {w : World} {β off e n len cap : Nat} {arr : Array Value} {el : TypeId} {fz : Nat × Nat} (hb : w.heap[β]? = some (.cells arr el fz)) (h : off + n * e ≤ arr.size) :
    ∃ news : Array Value, (∀ w' : World, w'.heap = w.heap → (Builtin.firstCells e n (.slice (some ⟨β, off, none⟩) len cap)).run P w' = .ok news w') ∧ news.size = n * e ∧ ∀ j, j < n * e → cellAt news j = cellAt arr (off + j) :=
  ⟨_, fun w' hw' => run_loadCells (by rw [hw']; exact hb) h, by simp, fun j hj => cellAt_range hj⟩
section run
variable {dr : Bool} {Q : St → Prop} {r i : Nat} {st : St} {log : List (Nat × Loc)} {o : Oper} {gs : List (Operand × D)}
structure DRows (w : World) (S : Nat → Prop) (e : Nat) (cols : List Ow) (rows : List (List T)) (Rf : Nat → Nat → Nat → Prop) (f : Nat → Value) : Prop where
  len : ∀ (i : Nat) (row : List T), rows[i]? = some row → row.length = e
  cell : ∀ (i : Nat) (row : List T) (j : Nat) (t : T), rows[i]? = some row → row[j]? = some t → RdX w S (cols.getD j .s) (Rf i j) (f (i * e + j)) t
  dis : ∀ i j i' j' γ, Rf i j γ → Rf i' j' γ → i = i' ∧ j = j'
theorem DRows.ones {w : World} {S : Nat → Prop} {e : Nat} {cols : List Ow} {rows : List (List T)} {Rf : Nat → Nat → Nat → Prop} {arr : Array Value} (h : DRows w S e cols rows Rf (cellAt arr)) (hs : arr.size = rows.length * e) : ∀ u, u ∈ arr.toList → oneC u = true := by
  intro u hu
  obtain ⟨k, hk⟩ := List.mem_iff_getElem?.1 hu
  have hk' : arr[k]? = some u := by simpa using hk
  have hlt : k < arr.size := by
    rcases Nat.lt_or_ge k arr.size with h' | h'
    · exact h'
    · rw [Array.getElem?_eq_none h'] at hk'; cases hk'
  rcases Nat.eq_zero_or_pos e with e0 | e0
  · rw [e0, Nat.mul_zero] at hs; omega
  have h1 : k / e < rows.length := (Nat.div_lt_iff_lt_mul e0).2 (by omega)
  have h2 : k % e < e := Nat.mod_lt _ e0
  have hrow : rows[k / e]? = some rows[k / e] := by simp [h1]
  have hlen := h.len _ _ hrow
  have hcell : (rows[k / e])[k % e]? = some ((rows[k / e])[k % e]'(by omega)) := by simp [show k % e < rows[k / e].length from by omega]
  have := (h.cell _ _ _ _ hrow hcell).one
  rw [show k / e * e + k % e = k from by rw [Nat.mul_comm]; exact Nat.div_add_mod k e] at this
  simpa [cellAt, hk'] using this
theorem DRows.app {w w' : World} {S : Nat → Prop} {e : Nat} {cols : List Ow} {rows rows2 : List (List T)} {Rf Rf2 : Nat → Nat → Nat → Prop} {f f2 g : Nat → Value} (h1 : DRows w S e cols rows Rf f) (h2 : DRows w S e cols rows2 Rf2 f2)
    (hx : ∀ i j i' j' γ, Rf i j γ → Rf2 i' j' γ → False) (hg1 : ∀ j, j < rows.length * e → g j = f j) (hg2 : ∀ j, j < rows2.length * e → g (rows.length * e + j) = f2 j)
    (hw : ∀ γ, S γ ∨ (∃ i j, Rf i j γ ∨ Rf2 i j γ) → w'.heap[γ]? = w.heap[γ]?) : DRows w' S e cols (rows ++ rows2) (fun i j γ => if i < rows.length then Rf i j γ else Rf2 (i - rows.length) j γ) g := by
  have hlen : ∀ (i : Nat) (row : List T), (rows ++ rows2)[i]? = some row → row.length = e := fun i row hi => by
    rcases Nat.lt_or_ge i rows.length with h | h
    · rw [List.getElem?_append_left h] at hi; exact h1.len i row hi
    · rw [List.getElem?_append_right h] at hi; exact h2.len _ row hi
  refine ⟨hlen, fun i row j t hi hj => ?_, fun i j i' j' γ hγ hγ' => ?_⟩
  · have hj' := lt_of_get hj
    have he := hlen i row hi
    rcases Nat.lt_or_ge i rows.length with h | h
    · rw [List.getElem?_append_left h] at hi
      have hle : i * e + e ≤ rows.length * e := by rw [← Nat.succ_mul]; exact Nat.mul_le_mul_right e h
      rw [hg1 _ (by omega)]
      exact (h1.cell i row j t hi hj).mono (fun γ hγ => hw γ (hγ.imp id fun hr => ⟨i, j, .inl hr⟩)) (fun _ h => h) (fun γ hγ => by rw [if_pos h]; exact hγ)
    · rw [List.getElem?_append_right h] at hi
      have hi2 := lt_of_get hi
      have hle : (i - rows.length) * e + e ≤ rows2.length * e := by rw [← Nat.succ_mul]; exact Nat.mul_le_mul_right e hi2
      have hsplit : i * e + j = rows.length * e + ((i - rows.length) * e + j) := by
        rw [← Nat.add_assoc, ← Nat.add_mul, show rows.length + (i - rows.length) = i from by omega]
      rw [hsplit, hg2 _ (by omega)]
      exact (h2.cell _ row j t hi hj).mono (fun γ hγ => hw γ (hγ.imp id fun hr => ⟨_, j, .inr hr⟩)) (fun _ h => h) (fun γ hγ => by rw [if_neg (by omega)]; exact hγ)
  · split at hγ <;> split at hγ'
    · exact h1.dis i j i' j' γ hγ hγ'
    · exact (hx _ _ _ _ γ hγ hγ').elim
    · exact (hx _ _ _ _ γ hγ' hγ).elim
    · have := h2.dis _ j _ j' γ hγ hγ'
      exact ⟨by omega, this.2⟩
theorem SimG.dparts {G : Gh} {a : Act} {w : World} (hs : SimG P X G st a w) {x : Operand} {b e : Nat} {cols : List Ow} {rows : List (List T)} (hx : Lift.opd st.env x = some (.e (.one (.own b)))) (hb : st.bx b = some (.dvec e cols rows)) :
    ∃ p cap, a.eval x = .slice p rows.length cap ∧ rows.length ≤ cap ∧ ((rows = [] ∧ cap = 0) ∨ ∃ β arr el, ∃ Rf : Nat → Nat → Nat → Prop, p = some ⟨β, 0, none⟩ ∧ G.loc b = some β ∧ w.heap[β]? = some (.cells arr el (0, 0)) ∧ arr.size = cap * e ∧ DRows w G.S e cols rows Rf (cellAt arr) ∧ (∀ i j γ, Rf i j γ → G.more b γ) ∧ (∀ i j, ¬ Rf i j β)) := by
  obtain ⟨hR, _⟩ : RdC P w G (a.eval x) (.own b) := hs.opd hx
  rcases hs.blk b _ hb with ⟨a0, h1, h2, _⟩ | ⟨β, cap, arr, el, Rf, h0, h1, h2, h3, h4, h5, h6, h7, h8, h9⟩
  · subst h2; exact ⟨a0, 0, hR.trans h1, Nat.le_refl _, .inl ⟨rfl, rfl⟩⟩
  · exact ⟨_, cap, hR.trans h1, h3, .inr ⟨β, arr, el, Rf, rfl, h0, h2, h4, ⟨h5, h6, h9⟩, h7, h8⟩⟩
theorem r_appendD {x y : Operand} {t t2 el el2 s b b2 e bytes : Nat} {cols : List Ow} {rows rows2 rows' : List (List T)} {z : Value} (hat : At st.env ops i X.n (.call ⟨.builtin .append, #[x, y], #[t, t2]⟩) s gs)
    (hx : opd st.env x = some (.e (.one (.own b)))) (hb : st.bx b = some (.dvec e cols rows)) (hy : opd st.env y = some (.e (.one (.own b2)))) (hb2 : st.bx b2 = some (.dvec e cols rows2)) (hnew : st.bx s = none) (hne : b ≠ b2)
    (ht : sliceB P t el = true) (ht2 : sliceB P t2 el2 = true) (he : szB P el e = true) (hby : bytesB P el bytes = true) (hbs : bytes ≤ 4096) (hz : zeroB P el = some z) (hzs : z.cells.size = e) (hlim : rows.length + rows2.length ≤ lim) (hr : rows ++ rows2 = rows') (hbl : isLent b = false) (hbl2 : isLent b2 = false)
    (next : Run P X ops dr Q r (i + 1) (Loc.upd ⟨gs ++ [(x, .e (.one (.own b))), (y, .e (.one (.own b2)))], [(b, .dvec e cols rows), (b2, .dvec e cols rows2)], some s, some (.e (.one (.own s))), (s, .dvec e cols rows') :: gones [b, b2], [s]⟩ st) ((i, ⟨gs ++ [(x, .e (.one (.own b))), (y, .e (.one (.own b2)))], [(b, .dvec e cols rows), (b2, .dvec e cols rows2)], some s, some (.e (.one (.own s))), (s, .dvec e cols rows') :: gones [b, b2], [s]⟩) :: log)) : Run P X ops dr Q (r + 1) i st log := by
  obtain ⟨o, ho, hop, hd, hn, hg, hgp⟩ := hat.out
  refine Run.step next ⟨preR_append.2 ⟨hgp, hx, hy, trivial⟩, ⟨hb, hb2, trivial⟩, hnew, trivial⟩ (LR.value ho hg rfl hd.symm (hn_of hd hn) ?_)
  intro G st a w hs hpre
  obtain ⟨hx, hy, _⟩ := (preR_append.1 hpre.r).2
  obtain ⟨hb, hb2, _⟩ := hpre.b
  have hnew := hpre.n.1
  subst hr
  have hsb : s ≠ b := fun e' => by rw [e', hb] at hnew; cases hnew
  have hsb2 : s ≠ b2 := fun e' => by rw [e', hb2] at hnew; cases hnew
  have hnl := hs.nl hn
  obtain ⟨p, cap, hx1, hx2, hx3⟩ := hs.dparts hx hb
  obtain ⟨p2, cap2, hy1, hy2, hy3⟩ := hs.dparts hy hb2
  have hbx : ∀ c, setBs st.bx ((s, .dvec e cols (rows ++ rows2)) :: gones [b, b2]) c = if c = s then some (.dvec e cols (rows ++ rows2)) else if c = b then some .gone else if c = b2 then some .gone else st.bx c := fun c => rfl
  have hrun : ∀ (v : Value) (w' : World), (Builtin.append_ #[t, t2] o.type #[a.eval x, a.eval y]).run P w = .ok v w' → (execOp a.eval o).run P w = .ok (.value v) w' := by
    intro v w' h
    simp only [execOp, hop]
    refine run_builtin fun cs => ?_
    simp only [List.map_toArray, List.map_cons, List.map_nil, builtin]
    exact run_then h rfl
  -- the source's cells
  have hsrc : ∃ news Rf2, (∀ w' : World, w'.heap = w.heap → (Builtin.firstCells e rows2.length (a.eval y)).run P w' = .ok news w') ∧ news.size = rows2.length * e ∧ DRows w G.S e cols rows2 Rf2 (cellAt news) ∧ (∀ i j γ, Rf2 i j γ → G.has b2 γ) := by
    rcases hy3 with ⟨h1, h2⟩ | ⟨β2, arr2, el2', Rf2, q1, q2, q3, q4, q5, q6, q7⟩
    · subst h1
      obtain ⟨news, k1, k2, k3⟩ := run_firstCells0 (P := P) (w := w) (a := p2) (len := 0) (cap := cap2) (e := e) (S := G.S)
      refine ⟨news, fun _ _ _ => False, by rw [hy1]; exact k1, by simpa using k3, ⟨fun i row h => by simp at h, fun i row j t h => by simp at h, fun _ _ _ _ _ h => h.elim⟩, fun _ _ _ h => h.elim⟩
    · subst q1
      have hle : 0 + rows2.length * e ≤ arr2.size := by rw [q4, Nat.zero_add]; exact Nat.mul_le_mul_right e hy2
      obtain ⟨news, k1, k2, k3⟩ := cells_of (P := P) (len := rows2.length) (cap := cap2) q3 hle
      refine ⟨news, Rf2, by rw [hy1]; exact k1, k2, ⟨q5.len, fun i row j t hi hj => ?_, q5.dis⟩, fun i j γ h => .inr (q6 i j γ h)⟩
      have hj' := lt_of_get hj
      have hre := q5.len i row hi
      have hlt := lt_of_get hi
      have hle2 : i * e + e ≤ rows2.length * e := by rw [← Nat.succ_mul]; exact Nat.mul_le_mul_right e hlt
      rw [k3 _ (by omega), Nat.zero_add]
      exact q5.cell i row j t hi hj
  obtain ⟨news, Rf2, hn1, hn2, hn3, hn4⟩ := hsrc
  have hlen2 : news.toList.length = rows2.length * e := by simp [hn2]
  -- the new state, wherever the rows lie now
  have fin : ∀ (l : Option Nat) (v : Value) (m : Nat → Prop) (w' : World), (∀ β, l = some β → X.w0.heap.size ≤ β ∧ β < w'.heap.size ∧ ¬ G.S β ∧ (G.loc b = some β ∨ w.heap.size ≤ β)) → (∃ q n c, v = .slice q n c) → (∀ γ, m γ → G.has b γ ∨ G.has b2 γ) →
      (∀ γ, γ < w.heap.size → l ≠ some γ → w'.heap[γ]? = w.heap[γ]?) → w.heap.size ≤ w'.heap.size → BelowL X.L X.w0.heap.size X.w0 w' →
      (∀ G' : Gh, G'.S = G.S → G'.loc s = l → G'.hd s = v → G'.more s = m → BlkOk P w' G' s (.dvec e cols (rows ++ rows2))) →
      ∃ G', SimG P X G' ⟨st.env, setBs st.bx ((s, .dvec e cols (rows ++ rows2)) :: gones [b, b2])⟩ a w' ∧ ∀ d', some (D.e (.one (.own s))) = some d' → RdD P w' G' v d' ∧ ∀ c, c ∈ d'.names → (setBs st.bx ((s, .dvec e cols (rows ++ rows2)) :: gones [b, b2]) c).isSome = true := by
    intro l v m w' g1 gv gm g5 g6 g7 gblk
    let G' : Gh := { S := G.S, loc := fun c => if c = s then l else G.loc c, hd := fun c => if c = s then v else G.hd c, more := fun c => if c = s then m else G.more c }
    have hsome : ∀ c, (st.bx c).isSome = true → c ≠ s := fun c hc e => by rw [e, hnew] at hc; cases hc
    have hasS : ∀ γ, G'.has s γ → l = some γ ∨ G.has b γ ∨ G.has b2 γ := fun γ h => by
      unfold Gh.has at h
      simp only [G', if_true] at h
      rcases h with h | h
      · exact .inl h
      · exact .inr (gm γ h)
    have hasO : ∀ c γ, c ≠ s → (G'.has c γ ↔ G.has c γ) := fun c γ h => by unfold Gh.has; simp only [G', if_neg h]
    have old2 : ∀ c kk γ, st.bx c = some kk → kk.real = true → G.has c γ → l = some γ → c = b := fun c kk γ h1 h2 h3 h4 => by
      rcases (g1 γ h4).2.2.2 with g4 | g4
      · exact hs.at_inj c b kk _ γ h1 hb h2 rfl h3 (.inl g4)
      · have := (hs.at_ok c kk γ h1 h2 h3).2.1; omega
    refine ⟨G', hs.frame2 (fun c hc => ?_) (fun _ h => h) (fun c hc => by simp only [G', if_neg (hsome c hc)]) (fun c hc => by simp only [G', if_neg (hsome c hc)]) (fun γ hγ => g5 γ (hs.S_lt γ hγ) fun e' => (g1 γ e').2.2.1 hγ) ?_ ?_ ?_ (fun γ hγ => by have := hs.S_lt γ hγ; omega) hs.S_src g7 (fun c hc => ?_), ?_⟩
    · rw [hbx]; split
      · rfl
      · split
        · rfl
        · split
          · rfl
          · exact hc
    · intro c kk hc
      rw [hbx] at hc
      split at hc
      · rename_i e1; subst e1; cases hc
        exact .inr ⟨gblk G' rfl (by simp [G']) (by simp [G']) (by simp [G']), fun c' hc' => by cases hc'⟩
      · rename_i e1
        split at hc
        · cases hc; exact .inr ⟨trivial, fun c' hc' => by cases hc'⟩
        · rename_i e2
          split at hc
          · cases hc; exact .inr ⟨trivial, fun c' hc' => by cases hc'⟩
          · exact .inl ⟨hc, by simp only [G', if_neg e1], fun γ hr hγ => g5 γ (hs.at_ok c kk γ hc hr hγ).2.1 fun e' => e2 (old2 c kk γ hc hr hγ e')⟩
    · intro c kk γ hc hr hγ
      rw [hbx] at hc
      split at hc
      · rename_i e1; subst e1
        rcases hasS γ hγ with h | h | h
        · exact ⟨.new (g1 γ h).1, (g1 γ h).2.1, (g1 γ h).2.2.1⟩
        · have := hs.at_ok b _ γ hb rfl h
          exact ⟨.new (this.1.1 hbl), by omega, this.2.2⟩
        · have := hs.at_ok b2 _ γ hb2 rfl h
          exact ⟨.new (this.1.1 hbl2), by omega, this.2.2⟩
      · rename_i e1
        split at hc
        · cases hc; cases hr
        · split at hc
          · cases hc; cases hr
          · have := hs.at_ok c kk γ hc hr ((hasO c γ e1).1 hγ)
            exact ⟨this.1, by omega, this.2.2⟩
    · intro c c' kk kk' γ hc hc' hr hr' hγ hγ'
      rw [hbx] at hc hc'
      have cl : ∀ c kk, (if c = s then some (Blk.dvec e cols (rows ++ rows2)) else if c = b then some .gone else if c = b2 then some .gone else st.bx c) = some kk → kk.real = true → G'.has c γ → (c = s ∧ (l = some γ ∨ G.has b γ ∨ G.has b2 γ)) ∨ (c ≠ s ∧ c ≠ b ∧ c ≠ b2 ∧ st.bx c = some kk ∧ G.has c γ) := by
        intro c kk hc hr hγ
        split at hc
        · rename_i e1; subst e1; exact .inl ⟨rfl, hasS γ hγ⟩
        · rename_i e1
          split at hc
          · cases hc; cases hr
          · rename_i e2
            split at hc
            · cases hc; cases hr
            · rename_i e3; exact .inr ⟨e1, e2, e3, hc, (hasO c γ e1).1 hγ⟩
      have mix : ∀ c kk, c ≠ b → c ≠ b2 → st.bx c = some kk → kk.real = true → G.has c γ → (l = some γ ∨ G.has b γ ∨ G.has b2 γ) → False := by
        intro c kk q1 q2 q3 q4 q5 q6
        rcases q6 with h | h | h
        · exact q1 (old2 c kk γ q3 q4 q5 h)
        · exact q1 (hs.at_inj c b kk _ γ q3 hb q4 rfl q5 h)
        · exact q2 (hs.at_inj c b2 kk _ γ q3 hb2 q4 rfl q5 h)
      rcases cl c kk hc hr hγ with ⟨q1, q2⟩ | ⟨q1, q2, q3, q4, q5⟩ <;> rcases cl c' kk' hc' hr' hγ' with ⟨q1', q2'⟩ | ⟨q1', q2', q3', q4', q5'⟩
      · rw [q1, q1']
      · exact (mix c' kk' q2' q3' q4' hr' q5' q2).elim
      · exact (mix c kk q2 q3 q4 hr q5 q2').elim
      · exact hs.at_inj c c' kk kk' γ q4 q4' hr hr' q5 q5'
    · have e1 : c ≠ s := fun e' => by rw [e', hnl] at hc; cases hc
      refine ⟨?_, ?_, ?_⟩ <;> simp only [G', if_neg e1]
    · rintro d' ⟨⟩
      refine ⟨⟨by simp [G'], gv⟩, fun c hc => ?_⟩
      have : c = s := by simpa [D.names, E.names, C.names] using hc
      subst this
      rw [hbx, if_pos rfl]; rfl
  -- rows that lie in a block
  have blk : ∀ (β cap' : Nat) (arr' : Array Value) (el' : TypeId) (Rf : Nat → Nat → Nat → Prop) (w' : World), w'.heap[β]? = some (.cells arr' el' (0, 0)) → rows.length + rows2.length ≤ cap' → arr'.size = cap' * e →
      DRows w' G.S e cols (rows ++ rows2) (fun i j γ => if i < rows.length then Rf i j γ else Rf2 (i - rows.length) j γ) (cellAt arr') → (∀ i j, ¬ Rf i j β) → ¬ G.has b2 β →
      ∀ G' : Gh, G'.S = G.S → G'.loc s = some β → G'.hd s = .slice (some ⟨β, 0, none⟩) (rows.length + rows2.length) cap' → G'.more s = (fun γ => (∃ i j, Rf i j γ) ∨ ∃ i j, Rf2 i j γ) → BlkOk P w' G' s (.dvec e cols (rows ++ rows2)) := by
    intro β cap' arr' el' Rf w' g8 g9 g10 g11 g12 g13 G' hS hl hh hm
    refine .inr ⟨β, cap', arr', el', _, hl, by rw [hh]; simp, g8, by simpa using g9, g10, g11.len, fun i row j t hi hj => by rw [hS]; exact g11.cell i row j t hi hj, ?_, ?_, g11.dis⟩
    · intro i j γ hγ
      rw [hm]
      split at hγ
      · exact .inl ⟨i, j, hγ⟩
      · exact .inr ⟨_, j, hγ⟩
    · intro i j hγ
      split at hγ
      · exact g12 i j hγ
      · exact g13 (hn4 _ j β hγ)
  have hcross : ∀ (Rf : Nat → Nat → Nat → Prop), (∀ i j γ, Rf i j γ → G.has b γ) → ∀ i j i' j' γ, Rf i j γ → Rf2 i' j' γ → False := fun Rf hRf i j i' j' γ h1 h2 => hne (hs.at_inj b b2 _ _ γ hb hb2 rfl rfl (hRf i j γ h1) (hn4 i' j' γ h2))
  have hS2 : ∀ γ, (∃ i j, Rf2 i j γ) → γ < w.heap.size := fun γ ⟨i, j, h⟩ => (hs.at_ok b2 _ γ hb2 rfl (hn4 i j γ h)).2.1
  have hnewhas : ∀ c kk, st.bx c = some kk → kk.real = true → ¬ G.has c w.heap.size := fun c kk h1 h2 h3 => Nat.lt_irrefl _ (hs.at_ok c kk _ h1 h2 h3).2.1
  -- a new block
  have fresh : ∀ (olds rest : Array Value) (c : Nat) (Rf : Nat → Nat → Nat → Prop), rows.length + rows2.length ≤ c → olds.size = rows.length * e → rest.size = (c - (rows.length + rows2.length)) * e → DRows w G.S e cols rows Rf (cellAt olds) → (∀ i j γ, Rf i j γ → G.has b γ) →
      (Builtin.append_ #[t, t2] o.type #[a.eval x, a.eval y]).run P w = .ok (.slice (some ⟨w.heap.size, 0, none⟩) (rows.length + rows2.length) c) (w.drew.alloc (.cells (olds ++ news ++ rest) el)) →
      ∃ v w' G', (execOp a.eval o).run P w = .ok (.value v) w' ∧ SimG P X G' ⟨st.env, setBs st.bx ((s, .dvec e cols (rows ++ rows2)) :: gones [b, b2])⟩ a w' ∧ ∀ d, some (D.e (.one (.own s))) = some d → RdD P w' G' v d ∧ ∀ b_1, b_1 ∈ d.names → (setBs st.bx ((s, .dvec e cols (rows ++ rows2)) :: gones [b, b2]) b_1).isSome = true := by
    intro olds rest c Rf hc1 ho hrest hD hRf hrun1
    have hsz : (w.drew.alloc (.cells (olds ++ news ++ rest) el)).heap.size = w.heap.size + 1 := by show (w.heap.push _).size = _; simp
    have hheap : ∀ γ, γ < w.heap.size → (w.drew.alloc (.cells (olds ++ news ++ rest) el)).heap[γ]? = w.heap[γ]? := fun γ hγ => by rw [heap_alloc, if_neg (by rw [drew_heap]; omega)]; rfl
    have hat : (w.drew.alloc (.cells (olds ++ news ++ rest) el)).heap[w.heap.size]? = some (.cells (olds ++ news ++ rest) el) := by rw [heap_alloc, drew_heap, if_pos rfl]
    have hap : DRows (w.drew.alloc (.cells (olds ++ news ++ rest) el)) G.S e cols (rows ++ rows2) (fun i j γ => if i < rows.length then Rf i j γ else Rf2 (i - rows.length) j γ) (cellAt (olds ++ news ++ rest)) := by
      refine hD.app hn3 (hcross Rf hRf) (fun j hj => ?_) (fun j hj => ?_) (fun γ hγ => hheap γ ?_)
      · rw [cellAt_append_left (by simp [ho]; omega), cellAt_append_left (by omega)]
      · rw [cellAt_append_left (by simp [ho, hn2]; omega), cellAt_append_right (by omega), ho, Nat.add_sub_cancel_left]
      · rcases hγ with h | ⟨i, j, h | h⟩
        · exact hs.S_lt γ h
        · exact (hs.at_ok b _ γ hb rfl (hRf i j γ h)).2.1
        · exact (hs.at_ok b2 _ γ hb2 rfl (hn4 i j γ h)).2.1
    obtain ⟨G', k1, k2⟩ := fin (some w.heap.size) (.slice (some ⟨w.heap.size, 0, none⟩) (rows.length + rows2.length) c) (fun γ => (∃ i j, Rf i j γ) ∨ ∃ i j, Rf2 i j γ) _
      (fun β hβ => by cases hβ; exact ⟨hs.below.size, by omega, fun h => Nat.lt_irrefl _ (hs.S_lt _ h), .inr (Nat.le_refl _)⟩) ⟨_, _, _, rfl⟩ (fun γ hγ => hγ.imp (fun ⟨i, j, h⟩ => hRf i j γ h) (fun ⟨i, j, h⟩ => hn4 i j γ h)) (fun γ h1 _ => hheap γ h1) (by omega)
      ((hs.below.drew).alloc (by rw [drew_heap]; exact hs.below.size) _)
      (blk w.heap.size c _ el Rf _ hat hc1 (by simp only [Array.size_append, ho, hn2, hrest]; rw [← Nat.add_mul, ← Nat.add_mul]; congr 1; omega) hap (fun i j h => hnewhas b _ hb rfl (hRf i j _ h)) (fun h => hnewhas b2 _ hb2 rfl h))
    exact ⟨_, _, G', hrun _ _ hrun1, k1, k2⟩
  rcases hx3 with ⟨h1, h2⟩ | ⟨β, arr, el', Rf, q1, q2, q3, q4, q5, q6, q7⟩
  · -- nothing was there
    obtain ⟨olds, k1, k2, k3⟩ := run_firstCells0 (P := P) (w := w) (a := p) (len := 0) (cap := 0) (e := e) (S := G.S)
    have hr0 : rows.length = 0 := by rw [h1]; rfl
    have hold : ∀ w' : World, w'.heap = w.heap → (Builtin.firstCells e rows.length (.slice p rows.length cap)).run P w' = .ok olds w' := by rw [hr0, h2]; exact k1
    rcases run_append (ty := o.type) (a := p) (n := rows.length) (cap := cap) ht ht2 he hby hbs hz hzs hy1 hold hn1 hlim hx2 with ⟨hfit, hrun1⟩ | ⟨hfit, c, rest, hc1, hrun1, hrest⟩
    · have hr2 : rows2 = [] := List.eq_nil_of_length_eq_zero (by omega)
      have hn0 : news.toList = [] := List.eq_nil_of_length_eq_zero (by rw [hlen2, hr2]; simp)
      have hrun2 := hrun1 w (fun q _ => by rw [hn0]; rfl) (fun _ => rfl)
      rw [← hx1] at hrun2
      obtain ⟨G', g1, g2⟩ := fin none (.slice p (rows.length + rows2.length) cap) (fun _ => False) w (fun β h => by cases h) ⟨_, _, _, rfl⟩ (fun _ h => h.elim) (fun _ _ _ => rfl) (Nat.le_refl _) hs.below
        (fun G' hS hl hh hm => .inl ⟨p, by rw [hh, hr0, hr2, h2]; rfl, by rw [h1, hr2]; rfl, hl⟩)
      exact ⟨_, w, G', hrun _ _ hrun2, g1, g2⟩
    · rw [← hx1] at hrun1
      exact fresh olds rest c (fun _ _ _ => False) hc1 (by rw [hr0]; simpa using k3) hrest ⟨fun i row h => by rw [h1] at h; simp at h, fun i row j t h => by rw [h1] at h; simp at h, fun _ _ _ _ _ h => h.elim⟩ (fun _ _ _ h => h.elim) hrun1
  · subst q1
    have hle : 0 + rows.length * e ≤ arr.size := by rw [q4, Nat.zero_add]; exact Nat.mul_le_mul_right e hx2
    obtain ⟨olds, k1, k2, k3⟩ := cells_of (P := P) (len := rows.length) (cap := cap) q3 hle
    have hatb := hs.at_ok b _ β hb rfl (.inl q2)
    rcases run_append (ty := o.type) (a := some ⟨β, 0, none⟩) (n := rows.length) (cap := cap) ht ht2 he hby hbs hz hzs hy1 k1 hn1 hlim hx2 with ⟨hfit, hrun1⟩ | ⟨hfit, c, rest, hc1, hrun1, hrest⟩
    · have hbnd : rows.length * e + rows2.length * e ≤ arr.size := by rw [q4, ← Nat.add_mul]; exact Nat.mul_le_mul_right e hfit
      have hst := run_storeCells (P := P) (β := β) (el := el') news.toList w (rows.length * e) 0 arr q3 (by rw [hlen2]; omega) (hn3.ones hn2)
      rw [Nat.add_zero] at hst
      have hrun2 := hrun1 _ (fun p hp => by cases hp; rw [Addr.add_mk, Nat.zero_add]; exact hst) (fun h => by cases h)
      rw [← hx1] at hrun2
      have hheap : ∀ γ, γ ≠ β → (wset w β (.cells (over arr (rows.length * e) news.toList) el' (0, 0))).heap[γ]? = w.heap[γ]? := fun γ hγ => by rw [heap_wset, if_neg (fun h => hγ h.1)]
      have hszw : (wset w β (.cells (over arr (rows.length * e) news.toList) el' (0, 0))).heap.size = w.heap.size := by simp [wset]
      have hov : ∀ j, cellAt (over arr (rows.length * e) news.toList) j = if rows.length * e ≤ j ∧ j < rows.length * e + rows2.length * e then cellAt news (j - rows.length * e) else cellAt arr j := fun j => by
        rw [cellAt_over _ _ _ _ (by rw [hlen2]; exact hbnd), hlen2, cellAt_toList]
      have hb2β : ¬ G.has b2 β := fun h => hne (hs.at_inj b b2 _ _ β hb hb2 rfl rfl (.inl q2) h)
      have hap : DRows (wset w β (.cells (over arr (rows.length * e) news.toList) el' (0, 0))) G.S e cols (rows ++ rows2) (fun i j γ => if i < rows.length then Rf i j γ else Rf2 (i - rows.length) j γ) (cellAt (over arr (rows.length * e) news.toList)) := by
        refine q5.app hn3 (hcross Rf (fun i j γ h => .inr (q6 i j γ h))) (fun j hj => by rw [hov, if_neg (by omega)]) (fun j hj => by rw [hov, if_pos (by omega), Nat.add_sub_cancel_left]) (fun γ hγ => hheap γ ?_)
        rcases hγ with h | ⟨i, j, h | h⟩
        · exact fun e' => hatb.2.2 (e' ▸ h)
        · exact fun e' => q7 i j (e' ▸ h)
        · exact fun e' => hb2β (e' ▸ hn4 i j γ h)
      obtain ⟨G', g1, g2⟩ := fin (some β) (.slice (some ⟨β, 0, none⟩) (rows.length + rows2.length) cap) (fun γ => (∃ i j, Rf i j γ) ∨ ∃ i j, Rf2 i j γ) _
        (fun γ hγ => by cases hγ; exact ⟨hatb.1.1 hbl, by omega, hatb.2.2, .inl q2⟩) ⟨_, _, _, rfl⟩ (fun γ hγ => hγ.imp (fun ⟨i, j, h⟩ => .inr (q6 i j γ h)) (fun ⟨i, j, h⟩ => hn4 i j γ h)) (fun γ _ h2 => hheap γ fun e' => h2 (by rw [e'])) (by omega)
        (below_wset hs.below hatb.1.2 _)
        (blk β cap _ el' Rf _ (by rw [heap_wset, if_pos ⟨rfl, hatb.2.1⟩]) hfit (by rw [over_size, q4]) hap q7 hb2β)
      exact ⟨_, _, G', hrun _ _ hrun2, g1, g2⟩
    · rw [← hx1] at hrun1
      refine fresh olds rest c Rf hc1 k2 hrest ⟨q5.len, fun i row j t hi hj => ?_, q5.dis⟩ (fun i j γ h => .inr (q6 i j γ h)) hrun1
      have hj' := lt_of_get hj
      have hre := q5.len i row hi
      have hlt := lt_of_get hi
      have hle2 : i * e + e ≤ rows.length * e := by rw [← Nat.succ_mul]; exact Nat.mul_le_mul_right e hlt
      rw [k3 _ (by omega), Nat.zero_add]
      exact q5.cell i row j t hi hj
end run
theorem sees_frzD {st : St} (b e : Nat) (cols : List Ow) (rows : List (List T)) (hb : st.bx b = some (.dvec e cols rows)) (hlt : isLent b = false) : Sees P X st (st.frz b rows) := by
  rintro a w ⟨G, h⟩
  let S' : Nat → Prop := fun β => G.S β ∨ G.has b β
  have hS : ∀ β, G.S β → S' β := fun β h => .inl h
  have hrow : RdT w S' (G.hd b) (.sl rows) := by
    have hX : RdX w G.S (.x e cols) (G.has b) (G.hd b) (.sl rows) := by
      rcases h.blk b _ hb with ⟨a, h1, h2, _⟩ | ⟨β, cap, arr, el, Rf, h0, h1, h2, h3, h4, h5, h6, h7, h8, h9⟩
      · rw [h1, h2]; exact .nil a e cols
      · rw [h1]
        exact .sl β cap e cols arr el rows Rf h2 h3 h4 h5 h6 (.inl h0) (fun i j γ hγ => .inr (h7 i j γ hγ)) h8 h9
    exact hX.toT hS (fun β h => .inr h)
  have hbk : ∀ c k, (st.frz b rows).bx c = some k → c ≠ b ∧ ∃ k0, st.bx c = some k0 ∧ k = k0.frz b rows := fun c k hc => by
    simp only [St.frz] at hc
    split at hc
    · cases hc
    · rename_i e
      cases hx : st.bx c with
      | none => rw [hx] at hc; cases hc
      | some k0 => rw [hx] at hc; exact ⟨e, k0, rfl, by simpa using hc.symm⟩
  have hreal : ∀ k : Blk, (k.frz b rows).real = true → k.real = true := fun k hk => by
    cases k <;> first | rfl | exact hk
  have hlv : ∀ c, (st.bx c).isSome = true → c ≠ b → ((st.frz b rows).bx c).isSome = true := fun c hc hne => by
    simp only [St.frz]; rw [if_neg hne]; simpa using hc
  refine ⟨{ G with S := S' }, ?_⟩
  refine { S_lt := ?_, S_src := ?_, S_0 := fun β hβ => .inl (h.S_0 β hβ), S0_lt := h.S0_lt, tsz := h.tsz, defers := h.defers, below := h.below, nlt := h.nlt, lent := h.lent, blk := ?_, at_ok := ?_, at_inj := ?_, env := ?_, live := ?_, liveB := ?_ }
  · rintro β (hβ | hβ)
    · exact h.S_lt β hβ
    · exact (h.at_ok b _ β hb rfl hβ).2.1
  · rintro β (hβ | hβ)
    · exact h.S_src β hβ
    · exact .inr ((h.at_ok b _ β hb rfl hβ).1.1 hlt)
  · intro c k hc
    obtain ⟨hne, k0, h0, rfl⟩ := hbk c k hc
    have := h.blk c k0 h0
    cases k0 with
    | box cells =>
      obtain ⟨β, arr, el, h1, h2, h3, h4⟩ := this
      refine ⟨β, arr, el, h1, h2, by simp [h3], fun j u hj => ?_⟩
      rw [List.getElem?_map] at hj
      cases hx : cells[j]? with
      | none => rw [hx] at hj; cases hj
      | some c0 => rw [hx] at hj; cases hj; exact frz_C (h4 j c0 hx) hS hrow
    | vec e' rows' =>
      rcases this with h1 | ⟨β, cap, arr, el, h0, h1, h2, h3, h4, h5, h6⟩
      · exact .inl h1
      · exact .inr ⟨β, cap, arr, el, h0, h1, h2, h3, h4, h5, fun i row j t hi hj => (h6 i row j t hi hj).mono (fun _ _ => rfl) hS⟩
    | mp es =>
      obtain ⟨β, arr, clock, h1, h2, h3, h4⟩ := this
      exact ⟨β, arr, clock, h1, h2, h3, fun i x hi => by
        obtain ⟨m, e1, e2, e3⟩ := h4 i x hi
        exact ⟨m, e1, e2, e3.mono (fun _ _ => rfl) hS⟩⟩
    | dvec e cols rs =>
      rcases this with h1 | ⟨β, cap, arr, el, Rf, h0, h1, h2, h3, h4, h5, h6, h7, h8, h9⟩
      · exact .inl h1
      · exact .inr ⟨β, cap, arr, el, Rf, h0, h1, h2, h3, h4, h5, fun i row j t hi hj => (h6 i row j t hi hj).mono (fun _ _ => rfl) hS (fun _ h => h), h7, h8, h9⟩
    | hol e cols i0 k1 c1 rs =>
      simp only [Blk.frz]
      split
      · trivial
      · obtain ⟨β, cap, arr, el, Rf, h0, h1, h2, h3, h4, h5, h6, h7, h8, h9, h10, h11⟩ := this
        exact ⟨β, cap, arr, el, Rf, h0, h1, h2, h3, h4, h5, fun i row j t hi hj hne => (h6 i row j t hi hj hne).mono (fun _ _ => rfl) hS (fun _ h => h), h7, h8, h9, h10, h11⟩
    | gone => trivial
  · intro c k β hc hr hβ
    obtain ⟨hne, k0, h0, rfl⟩ := hbk c k hc
    have hr := hreal _ hr
    have h1 := h.at_ok c k0 β h0 hr hβ
    refine ⟨h1.1, h1.2.1, ?_⟩
    rintro (h2 | h2)
    · exact h1.2.2 h2
    · exact hne (h.at_inj c b k0 _ β h0 hb hr rfl hβ h2)
  · intro c c' k k' β hc hc' hr hr' hβ hβ'
    obtain ⟨_, k0, h0, rfl⟩ := hbk c k hc
    obtain ⟨_, k0', h0', rfl⟩ := hbk c' k' hc'
    have hr := hreal _ hr
    have hr' := hreal _ hr'
    exact h.at_inj c c' k0 k0' β h0 h0' hr hr' hβ hβ'
  · intro s d hs
    simp only [St.frz] at hs
    cases hx : st.env s with
    | none => rw [hx] at hs; cases hs
    | some d0 => rw [hx] at hs; cases hs; exact frz_D (h.env s d0 hx) hS hrow
  · intro s d hs c hc
    simp only [St.frz] at hs
    cases hx : st.env s with
    | none => rw [hx] at hs; cases hs
    | some d0 =>
      rw [hx] at hs; cases hs
      obtain ⟨h1, h2⟩ := frz_names_D hc
      exact hlv c (h.live s d0 hx c h1) h2
  · intro c k hc x hx
    obtain ⟨_, k0, h0, rfl⟩ := hbk c k hc
    cases k0 with
    | box cells =>
      obtain ⟨h1, h2⟩ := frz_cnames hx
      exact hlv x (h.liveB c _ h0 x h1) h2
    | vec e' rows' => cases hx
    | mp es => cases hx
    | dvec e cols rs => cases hx
    | hol e cols i0 k1 c1 rs =>
      simp only [Blk.frz] at hx
      split at hx
      · cases hx
      · rename_i hne
        have hx' : x = c1 := by simpa [Blk.names] using hx
        subst hx'
        exact hlv x (h.liveB c _ h0 x (by simp [Blk.names])) hne
    | gone => cases hx
end Go.Lift

/- The rules for parts of own slices at typed lists. No condition. -/
namespace Go.Lift
open Go.RowKit
variable {P : Program} {X : Ctx} {ops : Array Oper}
theorem dstV_own {α : Type} (f : α → List T) (b e : Nat) (xs : List α) : DstV (.e (.one (.own b))) b e (xs.map f) 0 xs.length := by
  have := DstV.own b e (xs.map f)
  rwa [List.length_map] at this
theorem dstV_view {α : Type} (f : α → List T) (b e lo len : Nat) (xs : List α) (h : lo + len ≤ xs.length) : DstV (.e (.one (.view b e lo len))) b e (xs.map f) lo len := .view b e _ lo len (by simpa using h)
theorem srcW_view {α : Type} (f : α → List T) (b e lo len : Nat) (xs : List α) (h : lo + len ≤ xs.length) : SrcW (.e (.one (.view b e lo len))) [(b, .vec e (xs.map f))] e (((xs.drop lo).take len).map f) := by
  have := SrcW.view b e (xs.map f) lo len (by simpa using h)
  rwa [← List.map_drop, ← List.map_take] at this
theorem srcW_own {α : Type} (f : α → List T) (b e : Nat) (xs : List α) : SrcW (.e (.one (.own b))) [(b, .vec e (xs.map f))] e (xs.map f) := .of (.own _ _ _)
theorem srcW_sl {α : Type} (f : α → List T) (e : Nat) (xs : List α) (h : ∀ x, (f x).length = e) : SrcW (one (.sl (xs.map f))) [] e (xs.map f) := .of (.sl _ _ (map_rows h xs))
section run
variable {dr : Bool} {Q : St → Prop} {r i : Nat} {st : St} {log : List (Nat × Loc)} {o : Oper} {gs : List (Operand × D)}
theorem rt_slice {α : Type} (f : α → List T) (xs : List α) {x : Operand} {t el s e l h b lo0 len lo1 len1 : Nat} {lo hi : Option Operand} {rl rh : List (Operand × D)} {d : D} (hat : At st.env ops i X.n (.slice t x lo hi none) s gs)
    (hx : opd st.env x = some d) (hD : DstV d b e (xs.map f) lo0 len) (hb : st.bx b = some (.vec e (xs.map f))) (ht : sliceB P t el = true) (he : szB P el e = true) (hlo : Bnd lo 0 l rl) (hhi : Bnd hi len h rh) (h1 : preR st.env rl) (h2 : preR st.env rh) (hlh : l ≤ h) (hhl : lo0 + h ≤ xs.length) (e1 : lo0 + l = lo1) (e2 : h - l = len1)
    (next : Run P X ops dr Q r (i + 1) (Loc.upd ⟨gs ++ ((x, d) :: (rl ++ rh)), [(b, .vec e (xs.map f))], some s, some (.e (.one (.view b e lo1 len1))), [], []⟩ st) ((i, ⟨gs ++ ((x, d) :: (rl ++ rh)), [(b, .vec e (xs.map f))], some s, some (.e (.one (.view b e lo1 len1))), [], []⟩) :: log)) : Run P X ops dr Q (r + 1) i st log := by
  subst e1; subst e2
  exact r_sliceV hat hx hD hb ht he hlo hhi h1 h2 hlh (by simpa using hhl) next
theorem rt_copy {α : Type} (f : α → List T) (xs ys : List α) {x y : Operand} {t t2 el s e b lo len : Nat} {d d2 : D} {rb2 : List (Nat × Blk)} (hat : At st.env ops i X.n (.call ⟨.builtin .copy, #[x, y], #[t, t2]⟩) s gs)
    (hx : opd st.env x = some d) (hD : DstV d b e (xs.map f) lo len) (hb : st.bx b = some (.vec e (xs.map f))) (hy : opd st.env y = some d2) (hS : SrcW d2 rb2 e (ys.map f)) (hb2 : preB st.bx rb2) (ht : sliceB P t el = true) (he : szB P el e = true)
    (next : Run P X ops dr Q r (i + 1) (Loc.upd ⟨gs ++ [(x, d), (y, d2)], (b, .vec e (xs.map f)) :: rb2, some s, some (vD (.int .i64 ((Nat.min ys.length len : Nat) : Int))), [(b, .vec e ((spl xs lo (ys.take (Nat.min ys.length len))).map f))], []⟩ st) ((i, ⟨gs ++ [(x, d), (y, d2)], (b, .vec e (xs.map f)) :: rb2, some s, some (vD (.int .i64 ((Nat.min ys.length len : Nat) : Int))), [(b, .vec e ((spl xs lo (ys.take (Nat.min ys.length len))).map f))], []⟩) :: log)) : Run P X ops dr Q (r + 1) i st log := by
  have hl : (ys.map f).length = ys.length := List.length_map _
  refine r_copy hat hx hD hb hy hS hb2 ht he (rows' := (spl xs lo (ys.take (Nat.min ys.length len))).map f) ?_ ?_
  · rw [hl, ← List.map_take, spl_map]
  · rw [hl]; exact next
theorem rt_clear {α : Type} (f : α → List T) (xs : List α) (z0 : α) {x : Operand} {t el b e lo len : Nat} {z : Value} {zs : List Value} {d : D} (hop0 : at0S ops i = some (.call ⟨.builtin .clear, #[x], #[t]⟩))
    (hx : opd st.env x = some d) (hD : DstV d b e (xs.map f) lo len) (hb : st.bx b = some (.vec e (xs.map f))) (ht : sliceB P t el = true) (hz : zeroB P el = some z) (hzs : z.cells.toList = zs) (hz1 : zs.all oneC = true) (hze : zs.length = e) (hf : (zs.map fun v => (T.of v).nrm) = f z0)
    (next : Run P X ops dr Q r (i + 1) (Loc.upd ⟨[(x, d)], [(b, .vec e (xs.map f))], none, none, [(b, .vec e ((spl xs lo (List.replicate len z0)).map f))], []⟩ st) ((i, ⟨[(x, d)], [(b, .vec e (xs.map f))], none, none, [(b, .vec e ((spl xs lo (List.replicate len z0)).map f))], []⟩) :: log)) : Run P X ops dr Q (r + 1) i st log := by
  refine r_clearV hop0 hx hD hb ht hz hzs hz1 hze (rows' := (spl xs lo (List.replicate len z0)).map f) ?_ next
  rw [hf, ← spl_map]; simp
end run
theorem ts_view {α : Type} {st : St} (f : α → List T) (xs : List α) (s b e : Nat) (hs0 : st.env s = some (.e (.one (.own b)))) (hb : st.bx b = some (.vec e (xs.map f))) : Sees P X st (St.put st (some s) (some (.e (.one (.view b e 0 xs.length))))) := by
  have := sees_view (P := P) (X := X) s b e (xs.map f) hs0 hb
  rwa [List.length_map] at this
theorem ts_cut {α : Type} {st : St} (f : α → List T) (xs : List α) (s b n e len : Nat) (hs0 : st.env s = some (.e (.one (.view b e 0 len)))) (hb : st.bx b = some (.vec e (xs.map f))) (hn : st.bx n = none) (hlb : isLent b = false) (hln : isLent n = false) (hle : len ≤ xs.length) :
    Sees P X st (St.put ⟨st.env, setBs st.bx [(n, .vec e ((xs.take len).map f)), (b, .gone)]⟩ (some s) (some (.e (.one (.own n))))) := by
  have := sees_cut (P := P) (X := X) s b n e len (xs.map f) hs0 hb hn hlb hln (by simpa using hle)
  rwa [← List.map_take] at this
theorem byteArray_beq (a b : ByteArray) : (a == b) = (a.data == b.data) := by
  cases a; cases b; rfl
theorem byteArray_beq_symm (a b : ByteArray) (h : (a == b) = true) : (b == a) = true := by
  rw [byteArray_beq] at h ⊢
  rw [beq_iff_eq] at h ⊢; exact h.symm
theorem W_fin {c : Code} {Q : Exit → St → Prop} {st : St} (h : W P X c (fun e st => ∃ st', Sees P X st st' ∧ Q e st') st) : W P X c Q st := by
  intro a w hs
  refine wp_mono (h a w hs) ?_
  rintro e a' w' ⟨st', ⟨st2, h1, h2⟩, h3⟩
  exact ⟨st2, h2, h1 a' w' h3⟩
def allE2 (f : Nat → Nat) (env : Nat → Option D) : List (Nat × D) → Prop
  | [] => True
  | (s, d) :: ps => env s = some (d.ren f) ∧ allE2 f env ps
def allB2 (f : Nat → Nat) (bx : Nat → Option Blk) : List (Nat × Blk) → Prop
  | [] => True
  | (b, k) :: ps => bx (f b) = some (k.ren f) ∧ allB2 f bx ps
def namesB : List (Nat × Blk) → List Nat
  | [] => []
  | (b, _) :: ps => b :: namesB ps
def lentOk (f : Nat → Nat) : List Nat → Bool
  | [] => true
  | b :: bs => (if isLent b then f b == b else !isLent (f b)) && lentOk f bs
def inB (b : Nat) : List Nat → Bool
  | [] => false
  | c :: cs => c == b || inB b cs
def shutD (ns : List Nat) : List (Nat × D) → Bool
  | [] => true
  | (_, d) :: ps => (d.names.all fun b => inB b ns) && shutD ns ps
def shutK (ns : List Nat) : List (Nat × Blk) → Bool
  | [] => true
  | (_, d) :: ps => (d.names.all fun b => inB b ns) && shutK ns ps
theorem allE2_ok {f : Nat → Nat} {env : Nat → Option D} : ∀ {el : List (Nat × D)}, allE2 f env el → allE f env el
  | [], _ => trivial
  | (_, _) :: _, h => ⟨h.1, allE2_ok h.2⟩
theorem allB2_ok {f : Nat → Nat} {bx : Nat → Option Blk} : ∀ {bl : List (Nat × Blk)}, allB2 f bx bl → allB f bx bl
  | [], _ => trivial
  | (_, _) :: _, h => ⟨h.1, allB2_ok h.2⟩
theorem namesB_eq : ∀ bl : List (Nat × Blk), namesB bl = bl.map (·.1)
  | [] => rfl
  | (b, k) :: ps => by simp [namesB, namesB_eq ps]
theorem lentOk_eq {f : Nat → Nat} : ∀ bl : List (Nat × Blk), lentOk f (namesB bl) = bl.all fun p => if isLent p.1 then f p.1 == p.1 else !isLent (f p.1)
  | [] => rfl
  | (b, k) :: ps => by simp only [namesB, lentOk, List.all_cons, lentOk_eq ps]
theorem inB_eq {b : Nat} : ∀ bl : List (Nat × Blk), inB b (namesB bl) = bl.any fun q => q.1 == b
  | [] => rfl
  | (c, k) :: ps => by simp only [namesB, inB, List.any_cons, inB_eq ps]
theorem shutD_eq (bl : List (Nat × Blk)) : ∀ el : List (Nat × D), shutD (namesB bl) el = el.all fun p => p.2.names.all fun b => bl.any fun q => q.1 == b
  | [] => rfl
  | (s, d) :: ps => by simp only [shutD, List.all_cons, shutD_eq bl ps, inB_eq]
theorem shutK_eq (bl : List (Nat × Blk)) : ∀ el : List (Nat × Blk), shutK (namesB bl) el = el.all fun p => p.2.names.all fun b => bl.any fun q => q.1 == b
  | [] => rfl
  | (s, d) :: ps => by simp only [shutK, List.all_cons, shutK_eq bl ps, inB_eq]
theorem sees_mkL {st : St} (f : Nat → Nat) (el : List (Nat × D)) (bl : List (Nat × Blk)) (he : allE2 f st.env el) (hb : allB2 f st.bx bl) (hi : (nodupB ((namesB bl).map f) && lentOk f (namesB bl)) = true) (hs : (shutD (namesB bl) el && shutK (namesB bl) bl) = true) : Sees P X st (mk el bl) := by
  refine sees_mk f el bl (allE2_ok he) (allB2_ok hb) ?_ ?_
  · rw [lentOk_eq, namesB_eq] at hi; exact hi
  · rw [shutD_eq, shutK_eq] at hs; exact hs
theorem vl_dvec {α : Type} (f : α → List T) (xs : List α) (e : Nat) (cols : List Ow) : vl (.dvec e cols (xs.map f)) = some (e, xs.length) := by simp [vl]
theorem vl_hol {α : Type} (f : α → List T) (xs : List α) (e i k c : Nat) (cols : List Ow) : vl (.hol e cols i k c (xs.map f)) = some (e, xs.length) := by simp [vl]
theorem rt_indexS {dr : Bool} {Q : St → Prop} {r i : Nat} {st : St} {log : List (Nat × Loc)} {gs : List (Operand × D)} {x y : Operand} {t s : Nat} {b : ByteArray} {k : IntKind} {n v : Int} (hat : At st.env ops i X.n (.index t x y) s gs)
    (hx : opd st.env x = some (vD (.string b))) (hy : opd st.env y = some (vD (.int k n))) (ht : strB' P t = true) (hv : idxS b n = some v)
    (next : Run P X ops dr Q r (i + 1) (Loc.upd ⟨gs ++ [(x, vD (.string b)), (y, vD (.int k n))], [], some s, some (vD (.int .u8 v)), [], []⟩ st) ((i, ⟨gs ++ [(x, vD (.string b)), (y, vD (.int k n))], [], some s, some (vD (.int .u8 v)), [], []⟩) :: log)) : Run P X ops dr Q (r + 1) i st log := by
  obtain ⟨c, h0, hc, e⟩ := idxS_bind (f := some) (r := v) (by rw [hv]; rfl)
  cases e
  exact r_indexS hat hx hy ht h0 hc next
theorem keyOk_str {t kt el : TypeId} (h1 : P.underlying t = some (.map kt el)) (h2 : P.underlying kt = some .string) : KeyOk P t Value.string where
  ty := ⟨kt, el, .string, h1, h2, fun _ _ => rfl, fun e n v w => by
    unfold Instr.checkKey
    refine run_then (run_underlying' h2 w) ?_
    rfl⟩
  same := fun a b h => by
    show (b == a) = true
    exact byteArray_beq_symm a b h
end Go.Lift

/- The types of the shallow programs, and how a value of each lies in cells. Written by a program (gen.py). -/
namespace Go.Lift
def eI64 (n : Int) : List T := [.val (.int .i64 n)]
def eU8 (n : Int) : List T := [.val (.int .u8 n)]
abbrev tI64 (n : Int) : T := .val (.int .i64 n)
abbrev tB (b : Bool) : T := .val (.bool b)
def eB (b : Bool) : List T := [.val (.bool b)]
def eSl {α : Type} (f : α → List T) (xs : List α) : List T := [.sl (xs.map f)]
theorem injI64 : Inj eI64 := ⟨by intro x y h; simpa [eI64] using h⟩
theorem injU8 : Inj eU8 := ⟨by intro x y h; simpa [eU8] using h⟩
theorem injB : Inj eB := ⟨by intro x y h; simpa [eB] using h⟩
theorem injSl {α : Type} {f : α → List T} (h : Inj f) : Inj (eSl f) := ⟨by intro x y hx; simp only [eSl, List.cons.injEq, T.sl.injEq, and_true] at hx; exact inj_map h.inj _ _ hx⟩
structure ApiTable where
  fKind : Int
  fFrom : Int
  fTo : Int
  fAware : Bool
  fOK : List (List Bool)
  fRewrite : List (List Bool)
def eApiTable (x : ApiTable) : List T := [.val (.int .i64 x.fKind), .val (.int .i64 x.fFrom), .val (.int .i64 x.fTo), .val (.bool x.fAware), .sl (x.fOK.map (eSl eB)), .sl (x.fRewrite.map (eSl eB))]
structure ApiProblem where
  fVersions : List Int
  fNow : List Int
  fTarget : List Int
  fTables : List ApiTable
def eApiProblem (x : ApiProblem) : List T := [.sl (x.fVersions.map eI64), .sl (x.fNow.map eI64), .sl (x.fTarget.map eI64), .sl (x.fTables.map eApiTable)]
structure ApiStep where
  fKind : Int
  fIndex : Int
  fVersion : Int
def eApiStep (x : ApiStep) : List T := [.val (.int .i64 x.fKind), .val (.int .i64 x.fIndex), .val (.int .i64 x.fVersion)]
theorem injApiStep : Inj eApiStep := ⟨by
  rintro ⟨a1, a2, a3⟩ ⟨b1, b2, b3⟩ h
  simp only [eApiStep, List.cons.injEq, T.val.injEq, Value.int.injEq, and_true, true_and] at h
  obtain ⟨h1, h2, h3⟩ := h
  subst h1
  subst h2
  subst h3
  rfl⟩
structure ApiMix where
  fBase : List Int
  fNext : List Int
  fHeld : List Int
def eApiMix (x : ApiMix) : List T := [.sl (x.fBase.map eI64), .sl (x.fNext.map eI64), .sl (x.fHeld.map eU8)]
structure ApiConflict where
  fTable : Int
  fWriter : Int
  fReader : Int
def eApiConflict (x : ApiConflict) : List T := [.val (.int .i64 x.fTable), .val (.int .i64 x.fWriter), .val (.int .i64 x.fReader)]
structure PlanNode where
  fM : ApiMix
  fFrom : Int
  fBy : ApiStep
  fNext : List Int
def ePlanNode (x : PlanNode) : List T := [.sl (x.fM.fBase.map eI64), .sl (x.fM.fNext.map eI64), .sl (x.fM.fHeld.map eU8), .val (.int .i64 x.fFrom), .val (.int .i64 x.fBy.fKind), .val (.int .i64 x.fBy.fIndex), .val (.int .i64 x.fBy.fVersion), .sl (x.fNext.map eI64)]
theorem injPlanNode : Inj ePlanNode := ⟨by
  rintro ⟨⟨a1, a2, a3⟩, a4, ⟨a5, a6, a7⟩, a8⟩ ⟨⟨b1, b2, b3⟩, b4, ⟨b5, b6, b7⟩, b8⟩ h
  simp only [ePlanNode, List.cons.injEq, T.val.injEq, T.sl.injEq, Value.int.injEq, and_true, true_and] at h
  obtain ⟨h1, h2, h3, h4, h5, h6, h7, h8⟩ := h
  have h1 := inj_map injI64.inj _ _ h1
  subst h1
  have h2 := inj_map injI64.inj _ _ h2
  subst h2
  have h3 := inj_map injU8.inj _ _ h3
  subst h3
  subst h4
  subst h5
  subst h6
  subst h7
  have h8 := inj_map injI64.inj _ _ h8
  subst h8
  rfl⟩
end Go.Lift

