/- Lemmas for WavesPlansCardSaid, which YtncnphcfgojgmaaGreatDoorFinV9 proves. -/
import Derived.Test.YtncnphcfgojgmaaGreatDoorLift15
import Derived.ProofKit
import Derived.Shelf.SlSortCmp.NoneTotal
import Derived.MakeChecks
import Derived.Shelf.Strconv.Itoa3
namespace Go.Lift
open Go.RowKit
variable {P : Program} {X : G7} {ops : Array Oper}
def C.fzb (b : Nat) (ts : List T) : C → C
 | .own c => if c = b then .any else .own c
 | .ptr c k => if c = b then (if k ≤ ts.length then .rop (ts.drop k) else .any) else .ptr c k
 | .eptr c e i k => if c = b then .any else .eptr c e i k
 | .view c e lo len => if c = b then .any else .view c e lo len
 | .mref c => if c = b then .any else .mref c
 | .cls f caps => if b ∈ DQ caps then .any else .cls f caps
 | c => c
def E.fzb (b : Nat) (ts : List T) : E → E
 | .one c => .one (c.fzb b ts)
 | .agg cs => .agg (cs.map (C.fzb b ts))
def D.fzb (b : Nat) (ts : List T) : D → D
 | .e x => .e (x.fzb b ts)
 | .tup xs => .tup (xs.map (E.fzb b ts))
def Bg.fzb (b : Nat) (ts : List T) : Bg → Bg
 | .box cs => .box (cs.map (C.fzb b ts))
 | .hol e cols i k c rs => if c = b then .gone else .hol e cols i k c rs
 | k => k
def St.fzb (st : St) (b : Nat) (ts : List T) : St :=
 ⟨fun s => (st.env s).map (D.fzb b ts), fun c => if c = b then none else (st.bx c).map (Bg.fzb b ts)⟩
theorem Sz {w : World} {G : Gh} {b : Nat} {ts : List T} {S' : Nat → Prop} {v : Value} {c : C} (h : Ed P w G v c) (hS : ∀ β, G.S β → S' β) (hrow : ∀ β, G.loc b = some β → ∃ arr el fz, S' β ∧ w.heap[β]? = some (.cells arr el fz) ∧ arr.size = ts.length ∧ ∀ (j : Nat) (t : T), ts[j]? = some t → C1 w S' (Au arr j) t) : Ed P w { G with S := S' } v (c.fzb b ts) := by
 cases c with
 | pure t => exact C1.mono h (fun _ _ => rfl) hS
 | own c =>
  simp only [C.fzb]
  split
  ·exact Ed.one h
  ·exact h
 | ptr c k =>
  simp only [C.fzb]
  split
  ·rename_i e; subst e
   split
   ·rename_i hk
    obtain ⟨β, hβ, rfl⟩ := h
    obtain ⟨arr, el, fz, h1, h2, h3, h4⟩ := hrow β hβ
    refine ⟨β, k, arr, el, fz, rfl, h1, h2, by simp; omega, fun j t hj => ?_⟩
    rw [List.getElem?_drop] at hj
    exact h4 _ t hj
   ·exact Ed.one ((show Ed P w G v (.ptr c k) from h))
  ·exact h
 | eptr c e i k =>
  simp only [C.fzb]
  split
  ·exact Ed.one h
  ·exact h
 | view c e lo len =>
  simp only [C.fzb]
  split
  ·exact Ed.one h
  ·exact h
 | mref c =>
  simp only [C.fzb]
  split
  ·exact Ed.one h
  ·exact h
 | rop ts =>
  obtain ⟨β, off, arr, el, fz, h1, h2, h3, h4, h5⟩ := h
  exact ⟨β, off, arr, el, fz, h1, hS _ h2, h3, h4, fun j t hj => (h5 j t hj).mono (fun _ _ => rfl) hS⟩
 | clo g => exact Km.mono h (fun _ _ => rfl) hS
 | any => exact h
 | nilq p => exact h
 | fnc f => exact h
 | cls f caps =>
  simp only [C.fzb]
  split
  ·exact Ed.one h
  ·exact Ed.mono (p := fun _ => True) h ⟨hS, fun _ _ => rfl, fun _ _ => rfl, fun _ _ => rfl⟩ (fun _ _ => rfl) fun _ _ => trivial
theorem Ug {w : World} {G : Gh} {b : Nat} {ts : List T} {S' : Nat → Prop} {v : Value} {x : E} (h : Il P w G v x) (hS : ∀ β, G.S β → S' β) (hrow : ∀ β, G.loc b = some β → ∃ arr el fz, S' β ∧ w.heap[β]? = some (.cells arr el fz) ∧ arr.size = ts.length ∧ ∀ (j : Nat) (t : T), ts[j]? = some t → C1 w S' (Au arr j) t) : Il P w { G with S := S' } v (x.fzb b ts) := by
 cases x with
 | one c => exact Sz h hS hrow
 | agg cs =>
  obtain ⟨vs, e, hs, h⟩ := h
  refine ⟨vs, e, by simp [hs], fun j c hj => ?_⟩
  rw [List.getElem?_map] at hj
  cases hx : cs[j]? with
  | none => rw [hx] at hj; cases hj
  | some c0 => rw [hx] at hj; cases hj; exact Sz (h j c0 hx) hS hrow
theorem Wi {w : World} {G : Gh} {b : Nat} {ts : List T} {S' : Nat → Prop} {v : Value} {d : D} (h : F9 P w G v d) (hS : ∀ β, G.S β → S' β) (hrow : ∀ β, G.loc b = some β → ∃ arr el fz, S' β ∧ w.heap[β]? = some (.cells arr el fz) ∧ arr.size = ts.length ∧ ∀ (j : Nat) (t : T), ts[j]? = some t → C1 w S' (Au arr j) t) : F9 P w { G with S := S' } v (d.fzb b ts) := by
 cases d with
 | e x => exact Ug h hS hrow
 | tup xs =>
  obtain ⟨vs, e, hs, h⟩ := h
  refine ⟨vs, e, by simp [hs], fun j c hj => ?_⟩
  rw [List.getElem?_map] at hj
  cases hx : xs[j]? with
  | none => rw [hx] at hj; cases hj
  | some c0 => rw [hx] at hj; cases hj; exact Ug (h j c0 hx) hS hrow
theorem Lu {b : Nat} {ts : List T} {c : C} {x : Nat} (h : x ∈ (c.fzb b ts).names) : x ∈ c.names ∧ x ≠ b := by
 cases c with
 | own c =>
  simp only [C.fzb] at h
  split at h
  ·cases h
  ·rename_i e; simp [C.names] at h ⊢; subst h; exact ⟨rfl, e⟩
 | ptr c k =>
  simp only [C.fzb] at h
  split at h
  ·split at h <;> cases h
  ·rename_i e; simp [C.names] at h ⊢; subst h; exact ⟨rfl, e⟩
 | eptr c e i k =>
  simp only [C.fzb] at h
  split at h
  ·cases h
  ·rename_i e; simp [C.names] at h ⊢; subst h; exact ⟨rfl, e⟩
 | view c e lo len =>
  simp only [C.fzb] at h
  split at h
  ·cases h
  ·rename_i e; simp [C.names] at h ⊢; subst h; exact ⟨rfl, e⟩
 | mref c =>
  simp only [C.fzb] at h
  split at h
  ·cases h
  ·rename_i e; simp [C.names] at h ⊢; subst h; exact ⟨rfl, e⟩
 | cls f caps =>
  simp only [C.fzb] at h
  split at h
  ·cases h
  ·rename_i e; exact ⟨h, fun e2 => e (e2 ▸ h)⟩
 | _ => cases h
theorem LS {b : Nat} {ts : List T} {cs : List C} {x : Nat} (h : x ∈ DZ (cs.map (C.fzb b ts))) : x ∈ DZ cs ∧ x ≠ b := by
 obtain ⟨c, hc, hx⟩ := AU.1 h
 obtain ⟨c0, h0, rfl⟩ := List.mem_map.1 hc
 obtain ⟨h1, h2⟩ := Lu hx
 exact ⟨AU.2 ⟨c0, h0, h1⟩, h2⟩
theorem Ly {b : Nat} {ts : List T} {y : E} {x : Nat} (h : x ∈ (y.fzb b ts).names) : x ∈ y.names ∧ x ≠ b := by
 cases y with
 | one c => exact Lu h
 | agg cs => exact LS h
theorem OX {b : Nat} {ts : List T} {d : D} {x : Nat} (h : x ∈ (d.fzb b ts).names) : x ∈ d.names ∧ x ≠ b := by
 cases d with
 | e y => exact Ly h
 | tup xs =>
  obtain ⟨c, hc, hx⟩ := Dv.1 h
  obtain ⟨c0, h0, rfl⟩ := List.mem_map.1 hc
  obtain ⟨h1, h2⟩ := Ly hx
  exact ⟨Dv.2 ⟨c0, h0, h1⟩, h2⟩
theorem Ky {st : St} (b : Nat) (ts : List T) (hb : st.bx b = some (.box (ts.map .pure))) (hlt : Bs b = false) : E8 P X st (st.fzb b ts) := by
 rintro a w ⟨G, h⟩
 let S' : Nat → Prop := fun β => G.S β ∨ G.loc b = some β
 have hS : ∀ β, G.S β → S' β := fun β h => .inl h
 have hrow : ∀ β, G.loc b = some β → ∃ arr el fz, S' β ∧ w.heap[β]? = some (.cells arr el fz) ∧ arr.size = ts.length ∧ ∀ (j : Nat) (t : T), ts[j]? = some t → C1 w S' (Au arr j) t := by
  intro β hβ
  obtain ⟨β', arr, el, h1, h2, h3, h4⟩ := h.blk b _ hb
  rw [hβ] at h1; cases h1
  refine ⟨arr, el, (0, 0), .inr hβ, h2, by simpa using h3, fun j t hj => ?_⟩
  have : Ed P w G (Au arr j) (.pure t) := h4 j (.pure t) (by simp [hj])
  exact C1.mono this (fun _ _ => rfl) hS
 have hbk : ∀ c k, (st.fzb b ts).bx c = some k → c ≠ b ∧ ∃ k0, st.bx c = some k0 ∧ k = k0.fzb b ts := fun c k hc => by
  simp only [St.fzb] at hc
  split at hc
  ·cases hc
  ·rename_i e
   cases hx : st.bx c with
   | none => rw [hx] at hc; cases hc
   | some k0 => rw [hx] at hc; exact ⟨e, k0, rfl, by simpa using hc.symm⟩
 have hreal : ∀ k : Bg, (k.fzb b ts).real = true → k.real = true := fun k hk => by
  cases k <;> first | rfl | exact hk
 have hlv : ∀ c, (st.bx c).isSome = true → c ≠ b → ((st.fzb b ts).bx c).isSome = true := fun c hc hne => by
  simp only [St.fzb]; rw [if_neg hne]; simpa using hc
 refine ⟨{ G with S := S' }, ?_⟩
 refine { S_lt := ?_, S_src := ?_, S_0 := fun β hβ => .inl (h.S_0 β hβ), S0_lt := h.S0_lt, tsz := h.tsz, defers := h.defers, below := h.below, gok := h.gok.mono (fun _ _ => rfl) (fun _ hβ => .inl hβ), nlt := h.nlt, lent := h.lent, blk := ?_, at_ok := ?_, at_inj := ?_, env := ?_, live := ?_, liveB := ?_ }
 ·rintro β (hβ | hβ)
  ·exact h.S_lt β hβ
  ·exact (h.at_ok b _ β hb rfl (.inl hβ)).2.1
 ·rintro β (hβ | hβ)
  ·exact h.S_src β hβ
  ·exact .inr ((h.at_ok b _ β hb rfl (.inl hβ)).1.1 hlt)
 ·intro c k hc
  obtain ⟨hne, k0, h0, rfl⟩ := hbk c k hc
  have := h.blk c k0 h0
  cases k0 with
  | box cells =>
   obtain ⟨β, arr, el, h1, h2, h3, h4⟩ := this
   refine ⟨β, arr, el, h1, h2, by simp [h3], fun j u hj => ?_⟩
   rw [List.getElem?_map] at hj
   cases hx : cells[j]? with
   | none => rw [hx] at hj; cases hj
   | some c0 => rw [hx] at hj; cases hj; exact Sz (h4 j c0 hx) hS hrow
  | vec e' rows' =>
   rcases this with h1 | ⟨β, cap, arr, el, h0, h1, h2, h3, h4, h5, h6⟩
   ·exact .inl h1
   ·exact .inr ⟨β, cap, arr, el, h0, h1, h2, h3, h4, h5, fun i row j t hi hj => (h6 i row j t hi hj).mono (fun _ _ => rfl) hS⟩
  | mp es =>
   obtain ⟨β, arr, clock, h1, h2, h3, h4⟩ := this
   exact ⟨β, arr, clock, h1, h2, h3, fun i x hi => by
    obtain ⟨m, e1, e2, e3⟩ := h4 i x hi
    exact ⟨m, e1, e2, e3.mono (fun _ _ => rfl) hS⟩⟩
  | dvec e cols rs =>
   rcases this with h1 | ⟨β, cap, arr, el, Rf, h0, h1, h2, h3, h4, h5, h6, h7, h8, h9⟩
   ·exact .inl h1
   ·exact .inr ⟨β, cap, arr, el, Rf, h0, h1, h2, h3, h4, h5, fun i row j t hi hj => (h6 i row j t hi hj).mono (fun _ _ => rfl) hS (fun _ h => h), h7, h8, h9⟩
  | pvec n_ e cols rs =>
   obtain ⟨hn_, this⟩ := this
   refine ⟨hn_, ?_⟩
   rcases this with h1 | ⟨β, cap, arr, el, Rf, h0, h1, h2, h3, h4, h5, h6, h7, h8, h9⟩
   ·exact .inl h1
   ·exact .inr ⟨β, cap, arr, el, Rf, h0, h1, h2, h3, h4, h5, fun i row j t hi hj => (h6 i row j t hi hj).mono (fun _ _ => rfl) hS (fun _ h => h), h7, h8, h9⟩
  | hol e cols i0 k1 c1 rs =>
   simp only [Bg.fzb]
   split
   ·trivial
   ·obtain ⟨β, cap, arr, el, Rf, h0, h1, h2, h3, h4, h5, h6, h7, h8, h9, h10, h11⟩ := this
    exact ⟨β, cap, arr, el, Rf, h0, h1, h2, h3, h4, h5, fun i row j t hi hj hne => (h6 i row j t hi hj hne).mono (fun _ _ => rfl) hS (fun _ h => h), h7, h8, h9, h10, h11⟩
  | gone => trivial
 ·intro c k β hc hr hβ
  obtain ⟨hne, k0, h0, rfl⟩ := hbk c k hc
  have hr := hreal _ hr
  have h1 := h.at_ok c k0 β h0 hr hβ
  refine ⟨h1.1, h1.2.1, ?_⟩
  rintro (h2 | h2)
  ·exact h1.2.2 h2
  ·exact hne (h.at_inj c b k0 _ β h0 hb hr rfl hβ (.inl h2))
 ·intro c c' k k' β hc hc' hr hr' hβ hβ'
  obtain ⟨_, k0, h0, rfl⟩ := hbk c k hc
  obtain ⟨_, k0', h0', rfl⟩ := hbk c' k' hc'
  have hr := hreal _ hr
  have hr' := hreal _ hr'
  exact h.at_inj c c' k0 k0' β h0 h0' hr hr' hβ hβ'
 ·intro s d hs
  simp only [St.fzb] at hs
  cases hx : st.env s with
  | none => rw [hx] at hs; cases hs
  | some d0 => rw [hx] at hs; cases hs; exact Wi (h.env s d0 hx) hS hrow
 ·intro s d hs c hc
  simp only [St.fzb] at hs
  cases hx : st.env s with
  | none => rw [hx] at hs; cases hs
  | some d0 =>
   rw [hx] at hs; cases hs
   obtain ⟨h1, h2⟩ := OX hc
   exact hlv c (h.live s d0 hx c h1) h2
 ·intro c k hc x hx
  obtain ⟨_, k0, h0, rfl⟩ := hbk c k hc
  cases k0 with
  | box cells =>
   obtain ⟨h1, h2⟩ := LS hx
   exact hlv x (h.liveB c _ h0 x h1) h2
  | vec e' rows' => cases hx
  | mp es => cases hx
  | dvec e cols rs => cases hx
  | pvec n_ e cols rs => cases hx
  | hol e cols i0 k1 c1 rs =>
   simp only [Bg.fzb] at hx
   split at hx
   ·cases hx
   ·rename_i hne
    have hx' : x = c1 := by simpa [Bg.names] using hx
    subst hx'
    exact hlv x (h.liveB c _ h0 x (by simp [Bg.names])) hne
  | gone => cases hx
end Go.Lift
namespace Go.Lift
open Go.RowKit
variable {P : Program} {X : G7} {ops : Array Oper}
def Ib (P : Program) : Nat → List Field → Option (List Nat)
 | _, [] => some []
 | k, f :: fs => if f.name == "_" || f.offset != k then none else match P.underlying f.type with
  | some (.int _) => (Ib P (k + 1) fs).map (0 :: ·)
  | some .bool => (Ib P (k + 1) fs).map (1 :: ·)
  | some .string => (Ib P (k + 1) fs).map (2 :: ·)
  | _ => none
def R3 (P : Program) (t : TypeId) : Option (List Nat) :=
 match P.underlying t with
 | some (.struct fs) => if P.stoodInHeld t || P.eqGuardType P.depth t then none else Ib P 0 fs.toList
 | _ => none
def Ej : List Nat → List Value → List Value → Option Bool
 | [], [], [] => some true
 | 0 :: ts, .int k a :: ar, .int k' b :: bs => if k = k' then (Ej ts ar bs).map (fun r => (a == b) && r) else none
 | 1 :: ts, .bool a :: ar, .bool b :: bs => (Ej ts ar bs).map (fun r => (a == b) && r)
 | 2 :: ts, .string a :: ar, .string b :: bs => (Ej ts ar bs).map (fun r => (a.toList == b.toList) && r)
 | _, _, _ => none
theorem RW {ts : List Nat} {ar bs : List Value} {r : Bool} (h : Ej (0 :: ts) ar bs = some r) : ∃ k a ar' b bs' r', ar = .int k a :: ar' ∧ bs = .int k b :: bs' ∧ Ej ts ar' bs' = some r' ∧ r = ((a == b) && r') := by
 unfold Ej at h
 split at h <;> try (exfalso; simp_all; done)
 rename_i ts' k a ar' k' b bs' e
 cases e
 split at h
 ·rename_i e; subst e
  cases hel : Ej ts ar' bs' with
  | none => rw [hel] at h; cases h
  | some r' =>
   rw [hel] at h
   exact ⟨k, a, ar', b, bs', r', rfl, rfl, hel, by simpa using h.symm⟩
 ·cases h
theorem RX {ts : List Nat} {ar bs : List Value} {r : Bool} (h : Ej (1 :: ts) ar bs = some r) : ∃ a ar' b bs' r', ar = .bool a :: ar' ∧ bs = .bool b :: bs' ∧ Ej ts ar' bs' = some r' ∧ r = ((a == b) && r') := by
 unfold Ej at h
 split at h <;> try (exfalso; simp_all; done)
 rename_i ts' a ar' b bs' e
 cases e
 cases hel : Ej ts ar' bs' with
 | none => rw [hel] at h; cases h
 | some r' =>
  rw [hel] at h
  exact ⟨a, ar', b, bs', r', rfl, rfl, hel, by simpa using h.symm⟩
theorem Sx {ts : List Nat} {ar bs : List Value} {r : Bool} (h : Ej (2 :: ts) ar bs = some r) : ∃ a ar' b bs' r', ar = .string a :: ar' ∧ bs = .string b :: bs' ∧ Ej ts ar' bs' = some r' ∧ r = ((a.toList == b.toList) && r') := by
 unfold Ej at h
 split at h <;> try (exfalso; simp_all; done)
 rename_i ts' a ar' b bs' e
 cases e
 cases hel : Ej ts ar' bs' with
 | none => rw [hel] at h; cases h
 | some r' =>
  rw [hel] at h
  exact ⟨a, ar', b, bs', r', rfl, rfl, hel, by simpa using h.symm⟩
theorem M7 {t : TypeId} (h : D7 P t false = true) {cs : Array Value} {off : Nat} {v : Value} (hv : cs[off]? = some v) (w : World) : (part t cs off).run P w = .ok v w := by
 unfold part
 refine Ak (Hi h w) ?_
 simp only [Bool.false_eq_true, if_false, hv]
 rfl
theorem LO (d : Nat) (xs ys : Array Value) (w : World) : ∀ (fs : List Field) (ts : List Nat) (k : Nat) (ar bs : List Value) (r : Bool), Ib P k fs = some ts → (∀ (j : Nat) (v : Value), ar[j]? = some v → xs[k + j]? = some v) → (∀ (j : Nat) (v : Value), bs[j]? = some v → ys[k + j]? = some v) → Ej ts ar bs = some r →
  (Op.eqFields (d + 1) xs ys fs).run P w = .ok r w
 | [], ts, k, ar, bs, r, ht, hx, hy, he => by
  cases ht
  cases ar <;> cases bs <;> simp [Ej] at he
  subst he; rfl
 | f :: fs, ts, k, ar, bs, r, ht, hx, hy, he => by
  simp only [Ib] at ht
  split at ht
  ·cases ht
  ·rename_i hn
   simp only [Bool.or_eq_true, not_or, beq_iff_eq, bne_iff_ne, ne_eq, Decidable.not_not] at hn
   obtain ⟨hn1, hn2⟩ := hn
   subst hn2
   have step : ∀ (ts' : List Nat) (a b : Value) (ar' bs' : List Value) (q r' : Bool), ar = a :: ar' → bs = b :: bs' → Ib P (f.offset + 1) fs = some ts' → Ej ts' ar' bs' = some r' → D7 P f.type false = true → (Op.equalIn (d + 1) f.type a b).run P w = .ok q w →
     (Op.eqFields (d + 1) xs ys (f :: fs)).run P w = .ok (q && r') w := by
    intro ts' a b ar' bs' q r' ha hb htl hel hag heq
    subst ha; subst hb
    have h1 : xs[f.offset]? = some a := hx 0 a rfl
    have h2 : ys[f.offset]? = some b := hy 0 b rfl
    simp only [Op.eqFields, hn1, ne_eq, not_false_eq_true, if_true]
    refine Ak (M7 hag h1 w) (Ak (M7 hag h2 w) (Ak heq ?_))
    cases q
    ·simp
    ·simp only [Bool.not_true, Bool.false_eq_true, if_false, Bool.true_and]
     exact LO d xs ys w fs ts' (f.offset + 1) ar' bs' r' htl (fun j v hj => by rw [show f.offset + 1 + j = f.offset + (j + 1) from by omega]; exact hx (j + 1) v hj) (fun j v hj => by rw [show f.offset + 1 + j = f.offset + (j + 1) from by omega]; exact hy (j + 1) v hj) hel
   split at ht
   ·rename_i kk hu
    cases htl : Ib P (f.offset + 1) fs with
    | none => rw [htl] at ht; cases ht
    | some ts' =>
     rw [htl] at ht; cases ht
     obtain ⟨k1, a1, ar', b1, bs', r', e1, e2, hel, rfl⟩ := RW he
     subst e1; subst e2
     exact step ts' _ _ ar' bs' _ r' rfl rfl htl hel (by unfold D7; rw [hu]; rfl) (run_equalIn_int w d f.type k1 kk a1 b1 hu)
   ·rename_i hu
    cases htl : Ib P (f.offset + 1) fs with
    | none => rw [htl] at ht; cases ht
    | some ts' =>
     rw [htl] at ht; cases ht
     obtain ⟨a1, ar', b1, bs', r', e1, e2, hel, rfl⟩ := RX he
     subst e1; subst e2
     exact step ts' _ _ ar' bs' _ r' rfl rfl htl hel (by unfold D7; rw [hu]; rfl) (run_equalIn_bool' w d f.type a1 b1 hu)
   ·rename_i hu
    cases htl : Ib P (f.offset + 1) fs with
    | none => rw [htl] at ht; cases ht
    | some ts' =>
     rw [htl] at ht; cases ht
     obtain ⟨a1, ar', b1, bs', r', e1, e2, hel, rfl⟩ := Sx he
     subst e1; subst e2
     exact step ts' _ _ ar' bs' _ r' rfl rfl htl hel (by unfold D7; rw [hu]; rfl) (run_equalIn_string w d f.type a1 b1 hu)
   ·cases ht
theorem J9 {t : TypeId} {ts : List Nat} (h : R3 P t = some ts) {ar bs : List Value} {r : Bool} (hr : Ej ts ar bs = some r) (w : World) :
  (Op.equalIn 10000 t (.agg ar.toArray) (.agg bs.toArray)).run P w = .ok r w ∧ P.eqGuardType P.depth t = false := by
 unfold R3 at h
 split at h
 ·rename_i fs hu
  split at h
  ·cases h
  ·rename_i hn
   simp only [Bool.or_eq_true, not_or, Bool.not_eq_true] at hn
   have hf : P.fieldsOf t = fs := by unfold Program.fieldsOf; rw [hu]
   refine ⟨?_, hn.2⟩
   rw [run_equalIn_struct w 9999 t _ _ (by rw [hf]; exact hu) hn.1, hf]
   exact LO 9998 _ _ w fs.toList ts 0 ar bs r h (fun j v hj => by simpa using hj) (fun j v hj => by simpa using hj) hr
 ·cases h
abbrev aD (ar : List Value) : D := .e (.agg (ar.map fun v => .pure (.val v)))
theorem NV {w : World} {G : Gh} {v : Value} {ar : List Value} (h : F9 P w G v (aD ar)) : v = .agg ar.toArray := by
 obtain ⟨vs, rfl, hs, h⟩ := h
 congr 1
 have hs' : vs.size = ar.length := by simpa using hs
 apply Array.ext
 ·simpa using hs'
 ·intro j h1 h2
  have hj : j < ar.length := by omega
  have : Ed P w G (Au vs j) (.pure (.val ar[j])) := h j _ (by simp [hj])
  have h3 := Ef (this : C1 w G.S _ (.val _))
  simpa [Au, h1] using h3
section run
variable {dr : Bool} {Q : St → Prop} {r i : Nat} {st : St} {log : List (Nat × Cc)} {o : Oper} {gs : List (Operand × D)}
theorem VC {xt yt : TypeId} {x y : Operand} {s : Nat} {ts : List Nat} {b : Bool} (ar bs : List Value) (hat : At st.env ops i X.n (.binOp .eql xt x y yt) s gs)
  (hx : opd st.env x = some (aD ar)) (hy : opd st.env y = some (aD bs)) (ht : R3 P xt = some ts) (he : Ej ts ar bs = some b)
  (next : A6 P X ops dr Q r (i + 1) (Cc.upd ⟨gs ++ [(x, aD ar), (y, aD bs)], [], some s, some (bD b), [], []⟩ st) ((i, ⟨gs ++ [(x, aD ar), (y, aD bs)], [], some s, some (bD b), [], []⟩) :: log)) : A6 P X ops dr Q (r + 1) i st log := by
 obtain ⟨o, ho, hop, hd, hn, hg, hgp⟩ := hat.out
 refine A6.step next ⟨Al.2 ⟨hgp, hx, hy, trivial⟩, trivial, trivial⟩ (LR.value ho hg rfl hd.symm (C5 hd hn) ?_)
 intro G st a w hs hpre
 obtain ⟨hx, hy, _⟩ := (Al.1 hpre.r).2
 have hX := NV (hs.opd hx)
 have hY := NV (hs.opd hy)
 obtain ⟨h1, h2⟩ := J9 ht he w
 refine ⟨.bool b, w, G, ?_, hs, ?_⟩
 ·simp only [execOp, hop, hX, hY]
  refine Ak (a := .bool b) (w1 := w) (Ak (run_eqGuard_agg w .eql xt x y _ _ h2) ?_) rfl
  rw [run_eql_struct, h1]; rfl
 ·rintro d ⟨⟩
  exact ⟨.val _ rfl, fun b hb => by cases hb⟩
theorem VO {xt yt : TypeId} {x y : Operand} {s : Nat} {ts : List Nat} {b : Bool} (ar bs : List Value) (hat : At st.env ops i X.n (.binOp .neq xt x y yt) s gs)
  (hx : opd st.env x = some (aD ar)) (hy : opd st.env y = some (aD bs)) (ht : R3 P xt = some ts) (he : Ej ts ar bs = some b)
  (next : A6 P X ops dr Q r (i + 1) (Cc.upd ⟨gs ++ [(x, aD ar), (y, aD bs)], [], some s, some (bD (!b)), [], []⟩ st) ((i, ⟨gs ++ [(x, aD ar), (y, aD bs)], [], some s, some (bD (!b)), [], []⟩) :: log)) : A6 P X ops dr Q (r + 1) i st log := by
 obtain ⟨o, ho, hop, hd, hn, hg, hgp⟩ := hat.out
 refine A6.step next ⟨Al.2 ⟨hgp, hx, hy, trivial⟩, trivial, trivial⟩ (LR.value ho hg rfl hd.symm (C5 hd hn) ?_)
 intro G st a w hs hpre
 obtain ⟨hx, hy, _⟩ := (Al.1 hpre.r).2
 have hX := NV (hs.opd hx)
 have hY := NV (hs.opd hy)
 obtain ⟨h1, h2⟩ := J9 ht he w
 refine ⟨.bool (!b), w, G, ?_, hs, ?_⟩
 ·simp only [execOp, hop, hX, hY]
  refine Ak (a := .bool (!b)) (w1 := w) (Ak (run_eqGuard_agg w .neq xt x y _ _ h2) ?_) rfl
  rw [run_neq_struct, h1]; rfl
 ·rintro d ⟨⟩
  exact ⟨.val _ rfl, fun b hb => by cases hb⟩
theorem N4 {xt yt : TypeId} {x : Operand} {s e : Nat} {rows : List (List T)} (hat : At st.env ops i X.n (.binOp .eql xt x (.const (.slice none 0 0)) yt) s gs)
  (hx : opd st.env x = some (one (.sl rows))) (ht : sliceB P xt e = true)
  (next : A6 P X ops dr Q r (i + 1) (Cc.upd ⟨gs ++ [(x, one (.sl rows))], [], some s, some (.e (.one (.nilq (rows = [])))), [], []⟩ st) ((i, ⟨gs ++ [(x, one (.sl rows))], [], some s, some (.e (.one (.nilq (rows = [])))), [], []⟩) :: log)) : A6 P X ops dr Q (r + 1) i st log := by
 obtain ⟨o, ho, hop, hd, hn, hg, hgp⟩ := hat.out
 refine A6.step next ⟨Al.2 ⟨hgp, hx, trivial⟩, trivial, trivial⟩ (LR.value ho hg rfl hd.symm (C5 hd hn) ?_)
 intro G st a w hs hpre
 obtain ⟨hx, _⟩ := (Al.1 hpre.r).2
 have hX : C1 w G.S (a.eval x) (.sl rows) := hs.opd hx
 obtain ⟨av, l, c, hv, hq⟩ : ∃ av l c, a.eval x = .slice av l c ∧ (av.isNone = true → rows = []) := by
  generalize a.eval x = v at hX
  cases hX with
  | nil av cap => exact ⟨av, 0, cap, rfl, fun _ => rfl⟩
  | sl β off cap e arr el fz rows h1 h2 h3 h4 h5 h6 => exact ⟨_, _, _, rfl, fun h => by cases h⟩
 have hu : P.underlying xt = some (.slice e) := by
  unfold sliceB at ht
  split at ht
  ·rename_i e' he; rw [he]; simp at ht; rw [ht]
  ·cases ht
 refine ⟨.bool av.isNone, w, G, ?_, hs, ?_⟩
 ·simp only [execOp, hop, hv]
  refine Ak (a := .bool av.isNone) (w1 := w) (Ak (a := ()) (w1 := w) (by simp [eqGuard]) ?_) rfl
  have h1 : (Op.equalIn (9999 + 1) xt (.slice av l c) (.slice none 0 0)).run P w = .ok av.isNone w := by
   generalize 9999 = dd
   cases av <;> (unfold Op.equalIn; exact Ak (AK hu w) rfl)
  simp only [binOp, Act.eval]
  refine Ak (a := av.isNone) (w1 := w) ?_ rfl
  exact h1
 ·rintro d ⟨⟩
  exact ⟨⟨_, rfl, hq⟩, fun b hb => by cases hb⟩
end run
theorem OA {c : Operand} {x y : Code} {Q : Exit → St → Prop} {st : St} {p : Prop} (hc : opd st.env c = some (.e (.one (.nilq p)))) (ht : p → W P X x Q st) (hf : W P X y Q st) : W P X (.cond c x y) Q st := by
 intro a w hs
 obtain ⟨b, hcv, hp⟩ : ∃ b, a.eval c = .bool b ∧ (b = true → p) := by
  obtain ⟨G, hs⟩ := hs
  exact hs.opd hc
 cases b with
 | true => exact wp_cond_true hcv (ht (hp rfl) a w hs)
 | false => exact wp_cond_false hcv (hf a w hs)
end Go.Lift
namespace Go.Lift
open List renaming mem_of_getElem? → lM
open Go.RowKit
variable {P : Program} {X : G7} {ops : Array Oper}
def OI : Bool × List T → D
 | (true, ts) => .e (.agg (ts.map .pure))
 | (false, ts) => .e (.one (.pure (ts.headD .nil0)))
def Uc : Bool × List T → Bool
 | (true, _) => true
 | (false, ts) => match ts with | [_] => true | _ => false
theorem Uw {w : World} {S : Nat → Prop} {G : Gh} {v : Value} {x : Bool × List T} (h : F9 P w G v (OI x)) (hS : ∀ β, G.S β → S β) (hx : Uc x = true) : Vr w S v x := by
 obtain ⟨b, ts⟩ := x
 cases b with
 | false =>
  match ts, hx with
  | [t], _ => exact ⟨t, rfl, C1.mono (show C1 w G.S v t from h) (fun _ _ => rfl) hS⟩
 | true =>
  obtain ⟨vs, e, hs, h⟩ := h
  refine ⟨vs, e, by simpa using hs, fun j t hj => ?_⟩
  have : Ed P w G (Au vs j) (.pure t) := h j (.pure t) (by simp [hj])
  exact C1.mono this (fun _ _ => rfl) hS
theorem Sk {w : World} {S : Nat → Prop} {v : Value} {x : Bool × List T} (h : Vr w S v x) : F9 P w (G0 S) v (OI x) := by
 obtain ⟨b, ts⟩ := x
 cases b with
 | false =>
  obtain ⟨t, rfl, h⟩ := h
  exact h
 | true =>
  obtain ⟨vs, e, hs, h⟩ := h
  refine ⟨vs, e, by simpa using hs, fun j c hj => ?_⟩
  rw [List.getElem?_map] at hj
  cases hx : ts[j]? with
  | none => rw [hx] at hj; cases hj
  | some t => rw [hx] at hj; cases hj; exact h j t hx
noncomputable def Mf {α ρ : Type} (ea : α → List (Bool × List T)) (er : ρ → T) (q : α → Option ρ) : List (Bool × List T) → Option T := fun ar =>
 open Classical in if h : ∃ x r, ea x = ar ∧ q x = some r then some (er (Classical.choose (Classical.choose_spec h))) else none
theorem M8 {α ρ : Type} {ea : α → List (Bool × List T)} {er : ρ → T} {q : α → Option ρ} {ar : List (Bool × List T)} {t : T} (h : Mf ea er q ar = some t) : ∃ x r, ar = ea x ∧ q x = some r ∧ t = er r := by
 unfold Mf at h
 split at h
 ·rename_i hx
  cases h
  have := Classical.choose_spec (Classical.choose_spec hx)
  exact ⟨_, _, this.1.symm, this.2, rfl⟩
 ·cases h
theorem QO {α ρ : Type} {ea : α → List (Bool × List T)} {er : ρ → T} {q : α → Option ρ} (inj : ∀ x y, ea x = ea y → x = y) {x : α} {r : ρ} (h : q x = some r) : Mf ea er q (ea x) = some (er r) := by
 have hx : ∃ y s, ea y = ea x ∧ q y = some s := ⟨x, r, rfl, h⟩
 unfold Mf
 rw [dif_pos hx]
 have h1 := Classical.choose_spec (Classical.choose_spec hx)
 have h2 := inj _ _ h1.1
 have h3 : q (Classical.choose hx) = some r := by rw [h2]; exact h
 exact congrArg (fun z => some (er z)) (Option.some.inj (h3.symm.trans h1.2)).symm
structure VK {α β : Type} (f : α → β) : Prop where
 inj : ∀ x y, f x = f y → x = y
def Rr {α : Type} (b : Bool) (e : α → List T) (x : α) : List (Bool × List T) := [(b, e x)]
theorem QA {α : Type} (b : Bool) (e : α → List T) (h : VK e) : ∀ x y, Rr b e x = Rr b e y → x = y := by
 intro x y hxy
 simp only [Rr, List.cons.injEq, Prod.mk.injEq, true_and, and_true] at hxy
 exact h.inj _ _ hxy
theorem QF {α β : Type} {f : α → β} (h : ∀ x y, f x = f y → x = y) : ∀ (xs ys : List α), xs.map f = ys.map f → xs = ys
 | [], [], _ => rfl
 | [], _ :: _, e => by cases e
 | _ :: _, [], e => by cases e
 | x :: xs, y :: ys, e => by
  simp only [List.map_cons, List.cons.injEq] at e
  rw [h _ _ e.1, QF h _ _ e.2]
theorem TL {f : FuncId} {g : List (Bool × List T) → Option T} (hf : AD P f = true) (hclo : ∀ ar t, g ar = some t → As P f (ar.map OI) [] (one t)) {w : World} {S : Nat → Prop} {v : Value} (h : F9 P w (G0 S) v (.e (.one (.fnc f)))) : F9 P w (G0 S) v (.e (.one (.clo g))) := by
 refine ⟨f, #[], h, ?_, ?_⟩
 ·unfold AD at hf
  split at hf
  ·rename_i fn h0
   simp only [Bool.and_eq_true, Bool.not_eq_true'] at hf
   exact ⟨fn, h0, hf.2, hf.1⟩
  ·cases hf
 ·intro w' S' _ _ hlt hgk vs ar r0 hvs has hgr
  refine (hclo ar r0 hgr w' S' (vs ++ #[]) hlt hgk (by simp [hvs]) ?_).mono ?_
  ·intro j d hj
   rw [List.getElem?_map] at hj
   cases hx0 : ar[j]? with
   | none => rw [hx0] at hj; cases hj
   | some y =>
    rw [hx0] at hj; cases hj
    rw [Array.append_empty]
    exact Sk (has j y hx0)
  ·rintro e w'' ⟨v, G', rfl, hbel, h1, h2, h3, _⟩
   exact ⟨v, G'.S, rfl, hbel, h1, h2, h3⟩
def Vy (P : Program) : List D → List D → Prop
 | [], [] => True
 | a :: ar, b :: bs => (∀ (w : World) (S : Nat → Prop) (v : Value), F9 P w (G0 S) v a → F9 P w (G0 S) v b) ∧ Vy P ar bs
 | _, _ => False
theorem Vy.get : ∀ {ar bs : List D}, Vy P ar bs → ar.length = bs.length ∧ ∀ (j : Nat) (b : D), bs[j]? = some b → ∃ a, ar[j]? = some a ∧ ∀ (w : World) (S : Nat → Prop) (v : Value), F9 P w (G0 S) v a → F9 P w (G0 S) v b
 | [], [], _ => ⟨rfl, fun j b h => by simp at h⟩
 | a :: ar, b :: bs, h => by
  obtain ⟨h1, h2⟩ := Vy.get h.2
  refine ⟨by simp [h1], fun j c hj => ?_⟩
  cases j with
  | zero => simp at hj; subst hj; exact ⟨a, rfl, h.1⟩
  | succ j => obtain ⟨a', g1, g2⟩ := h2 j c (by simpa using hj); exact ⟨a', by simpa using g1, g2⟩
theorem As.weak {f : FuncId} {ds ds' : List D} {rv : List (Nat × List (List T))} {res : D} (h : As P f ds rv res) (hp : Vy P ds' ds) : As P f ds' rv res := by
 intro w S vs hS hgk hlen hargs
 obtain ⟨h1, h2⟩ := hp.get
 refine h w S vs hS hgk (by rw [hlen, h1]) fun j d hj => ?_
 obtain ⟨a, g1, g2⟩ := h2 j d hj
 exact g2 w S _ (hargs j a g1)
section run
variable {dr : Bool} {Q : St → Prop} {r i : Nat} {st : St} {log : List (Nat × Cc)} {o : Oper} {gs : List (Operand × D)}
theorem Qk {f : FuncId} (h : AD P f = true) : ∃ fn, P.funcs[f]? = some fn ∧ fn.body.isSome = true ∧ (fn.name == "runtime.NumGoroutine") = false := by
 unfold AD at h
 split at h
 ·rename_i fn hf
  simp only [Bool.and_eq_true, Bool.not_eq_true'] at h
  exact ⟨fn, hf, h.2, h.1⟩
 ·cases h
theorem PP {f : FuncId} {s : Nat} {xs : List Operand} {capD : List D} (g : List (Bool × List T) → Option T) (hat : At st.env ops i X.n (.makeFunc (.func f) #[] xs.toArray) s gs)
  (hf : AD P f = true) (hl : xs.length = capD.length) (hx : EF st.env (F8 xs capD)) (hpub : capD.all Rq = true)
  (hclo : ∀ ar t, g ar = some t → As P f (ar.map OI ++ capD) [] (one t))
  (next : A6 P X ops dr Q r (i + 1) (Cc.upd ⟨gs ++ F8 xs capD, [], some s, some (.e (.one (.clo g))), [], []⟩ st) ((i, ⟨gs ++ F8 xs capD, [], some s, some (.e (.one (.clo g))), [], []⟩) :: log)) : A6 P X ops dr Q (r + 1) i st log := by
 obtain ⟨o, ho, hop, hd, hn, hg, hgp⟩ := hat.out
 refine A6.step next ⟨Al.2 ⟨hgp, hx⟩, trivial, trivial⟩ (LR.value ho hg rfl hd.symm (C5 hd hn) ?_)
 intro G st a w hs hpre
 have hx := (Al.1 hpre.r).2
 refine ⟨.func (.func f) #[] (xs.toArray.map a.eval), w, G, ?_, hs, ?_⟩
 ·simp only [execOp, hop]
  exact Ak (a := .func (.func f) #[] (xs.toArray.map a.eval)) (w1 := w) (by simp [Instr.makeFunc]) rfl
 ·rintro d ⟨⟩
  refine ⟨⟨f, _, rfl, Qk hf, ?_⟩, fun b hb => by cases hb⟩
  intro w' S' hS' hw' hlt hgk vs ar r0 hvs has hgr
  refine (hclo ar r0 hgr w' S' (vs ++ xs.toArray.map a.eval) hlt hgk (by simp [hvs, hl]) ?_).mono ?_
  ·intro j d hj
   by_cases hja : j < ar.length
   ·rw [List.getElem?_append_left (by simpa using hja), List.getElem?_map] at hj
    have hx0 : ar[j]? = some ar[j] := by simp [hja]
    rw [hx0] at hj; cases hj
    rw [Cx (by omega)]
    exact Sk (has j _ hx0)
   ·rw [List.getElem?_append_right (by simp; omega)] at hj
    simp only [List.length_map] at hj
    have hlt' := AF hj
    have hxj : xs[j - ar.length]? = some (xs[j - ar.length]'(by omega)) := by simp [show j - ar.length < xs.length from by omega]
    have hop' := GU hl hx _ _ d hxj hj
    have hcell : Au (vs ++ xs.toArray.map a.eval) j = a.eval (xs[j - ar.length]'(by omega)) := by
     unfold Au
     rw [Array.getElem?_append_right (by omega), hvs]
     simp [show j - ar.length < xs.length from by omega]
    rw [hcell]
    have hcl : d.names = [] := by
     have := List.all_eq_true.1 hpub d (lM hj)
     simpa [Rq] using this
    exact ((hs.opd hop').mono (p := fun _ => False) (G' := G0 S') ⟨hS', fun _ h => h.elim, fun _ h => h.elim, fun _ h => h.elim⟩ hw' (fun b hb => by rw [hcl] at hb; cases hb))
  ·rintro e w'' ⟨v, G', rfl, hbel, h1, h2, h3, _⟩
   exact ⟨v, G'.S, rfl, hbel, h1, h2, h3⟩
theorem QC {x : Operand} {g : List (Bool × List T) → Option T} {s : Nat} {xs : List Operand} {ds0 : List D} {ar : List (Bool × List T)} {r0 : T} {ts : Array TypeId} (hat : At st.env ops i X.n (.call ⟨.value x, xs.toArray, ts⟩) s gs)
  (hgx : opd st.env x = some (.e (.one (.clo g)))) (hl : xs.length = ds0.length) (hx : EF st.env (F8 xs ds0)) (hds : ds0.map D.nrm = ar.map OI) (_hpub : (ar.map OI).all Rq = true) (hok : ar.all Uc = true) (hr : g ar = some r0)
  (next : A6 P X ops dr Q r (i + 1) (Cc.upd ⟨gs ++ ((x, .e (.one (.clo g))) :: F8 xs ds0), [], some s, some (one r0), [], []⟩ st) ((i, ⟨gs ++ ((x, .e (.one (.clo g))) :: F8 xs ds0), [], some s, some (one r0), [], []⟩) :: log)) : A6 P X ops dr Q (r + 1) i st log := by
 obtain ⟨o, ho, hop, hd, hn, hg, hgp⟩ := hat.out
 refine A6.step next ⟨Al.2 ⟨hgp, hgx, hx⟩, trivial, trivial⟩ ?_
 intro st a w K Q' hs hpre hK
 obtain ⟨G, hs⟩ := hs
 obtain ⟨hgx, hx⟩ := (Al.1 hpre.r).2
 have hw := hs.wanted hg (Al.1 hpre.r).1
 unfold wpOp
 rw [ho]
 simp only [hw, if_true]
 refine .inl ?_
 unfold Oper.wp
 obtain ⟨f, caps, hv, ⟨fn, hf1, hf2, hf3⟩, hcall⟩ : Km P w G.S (a.eval x) g := hs.opd hgx
 have hgood : AD P f = true := by unfold AD; rw [hf1]; simp [hf2]; simpa using hf3
 have hrun : (execOp a.eval o).run P w = .ok (.enter f (xs.toArray.map a.eval ++ caps)) w := by
  simp only [execOp, hop]
  simp only [resolve, hv, Deferred.ofValue]
  refine Ak (a := { target := .fn (.func f) caps, args := #[] ++ xs.toArray.map a.eval }) (w1 := w) rfl ?_
  simp only [invoke]
  rw [II hgood]; simp
 rw [hrun]
 show Calls P f (xs.toArray.map a.eval ++ caps) w _
 have hlen : xs.length = ar.length := by
  have := congrArg List.length hds
  simp at this; omega
 refine (hcall w G.S (fun _ h => h) (fun _ _ => rfl) hs.S_lt hs.gok (xs.toArray.map a.eval) ar r0 (by simp [hlen]) ?_ hr).mono ?_
 ·intro j y hj
  have hlt := AF hj
  have hd0 : ds0[j]? = some (ds0[j]'(by omega)) := by simp [show j < ds0.length from by omega]
  have hnrm : (ds0[j]'(by omega)).nrm = OI y := by
   have h1 : (ds0.map D.nrm)[j]? = (ar.map OI)[j]? := by rw [hds]
   rw [List.getElem?_map, List.getElem?_map, hd0, hj] at h1
   simpa using h1
  have hxj : xs[j]? = some (xs[j]'(by omega)) := by simp [show j < xs.length from by omega]
  have hop' := GU hl hx j _ _ hxj hd0
  have hcell : Au (xs.toArray.map a.eval) j = a.eval (xs[j]'(by omega)) := by simp [Au, show j < xs.length from by omega]
  rw [hcell]
  have hrd := (hs.opd hop').nrm
  rw [hnrm] at hrd
  exact Uw hrd (fun _ h => h) (List.all_eq_true.1 hok y (lM hj))
 ·rintro e w' ⟨v, S'', rfl, hbel, hS1, hS2, hres⟩
  show K (a.put o.dst v) w'
  rw [hd]
  let G2 : Gh := { G with S := S'' }
  have hsz := hbel.size
  have hle := hs.below.size
  have key : CZ P X G2 ⟨st.env, A8 st.bx []⟩ a w' := by
   refine hs.frame (fun c hc => hc) ⟨hS1, fun _ _ => rfl, fun _ _ => rfl, fun _ _ => rfl⟩ (fun β hβ => hbel.block β (hs.S_lt β hβ)) ?_ ?_ ?_ ?_ ?_ (hs.below.trans (.of (hbel.mono hle))) (fun _ _ => ⟨rfl, rfl, rfl⟩)
   ·intro c k hc
    exact .inl ⟨hc, fun β hr hβ => hbel.block β (hs.at_ok c k β hc hr hβ).2.1⟩
   ·intro c k β hc hr hβ
    have := hs.at_ok c k β hc hr hβ
    refine ⟨this.1, by omega, fun h => ?_⟩
    rcases hS2 β h with h | h
    ·exact this.2.2 h
    ·omega
   ·intro c c' k k' β hc hc' hr hr' hβ hβ'
    exact hs.at_inj c c' k k' β hc hc' hr hr' hβ hβ'
   ·intro β h
    rcases hS2 β h with h | h
    ·have := hs.S_lt β h; omega
    ·exact h.2
   ·intro β h
    rcases hS2 β h with h | h
    ·exact hs.S_src β h
    ·exact .inr (by omega)
  refine hK _ _ ⟨G2, key.put (some s) (some (one r0)) v (by intro t e; cases e; exact hn) ?_⟩
  rintro d ⟨⟩
  exact ⟨hres, fun b hb => by cases hb⟩
end run
end Go.Lift
namespace Go.Lift
open Go.RowKit Go.ChangeShapes Go.WideShapes
section
variable {P : Program}
def KD (P : Program) : Nat → List Field → Nat → Bool
 | o, [], n => o == n
 | o, f :: fs, n => f.offset == o && KD P (o + P.cellsOf f.type) fs n
def H6 (P : Program) : Nat → TypeId → Bool
 | 0, _ => false
 | d + 1, t => match P.underlying t with
  | some (.int _) => true
  | some .bool => true
  | some .string => true
  | some (.slice e) => decide (0 < P.cellsOf e) && H6 P d e
  | some (.struct fs) => KD P 0 fs.toList (P.cellsOf t) && fs.toList.all fun f => H6 P d f.type
  | _ => false
def TK (F : TypeId → List T → Prop) : List TypeId → List T → Prop
 | [], ts => ts = []
 | t :: tys, ts => ∃ a b, ts = a ++ b ∧ F t a ∧ TK F tys b
def Jc (P : Program) : Nat → TypeId → List T → Prop
 | 0, _, _ => False
 | d + 1, t, ts => match P.underlying t with
  | some (.int k) => ∃ n, ts = [.val (.int k n)] ∧ (Lit.int k n).wf = true
  | some .bool => ∃ b, ts = [.val (.bool b)]
  | some .string => ∃ s, ts = [.val (.string s)]
  | some (.slice e) => ∃ rows, ts = [.sl rows] ∧ ∀ row, row ∈ rows → Jc P d e row
  | some (.struct fs) => TK (Jc P d) (fs.toList.map (·.type)) ts
  | _ => False
def G5 (w : World) (S : Nat → Prop) : List Value → List T → Prop
 | [], [] => True
 | v :: vs, t :: ts => C1 w S v t ∧ G5 w S vs ts
 | _, _ => False
theorem G5.append {w : World} {S : Nat → Prop} : ∀ {a b : List Value} {x y : List T}, G5 w S a x → G5 w S b y → G5 w S (a ++ b) (x ++ y)
 | [], _, [], _, _, h => h
 | _ :: _, _, _ :: _, _, h1, h2 => ⟨h1.1, G5.append h1.2 h2⟩
theorem G5.len {w : World} {S : Nat → Prop} : ∀ {a : List Value} {x : List T}, G5 w S a x → a.length = x.length
 | [], [], _ => rfl
 | _ :: _, _ :: _, h => by simp [h.2.len]
theorem G5.get {w : World} {S : Nat → Prop} : ∀ {a : List Value} {x : List T}, G5 w S a x → ∀ (j : Nat) (t : T), x[j]? = some t → ∃ v, a[j]? = some v ∧ C1 w S v t
 | [], [], _, j, t, hj => by simp at hj
 | v :: _, _ :: _, h, 0, t, hj => by simp at hj; subst hj; exact ⟨v, rfl, h.1⟩
 | _ :: _, _ :: _, h, j + 1, t, hj => by
  obtain ⟨v, h1, h2⟩ := h.2.get j t (by simpa using hj)
  exact ⟨v, by simpa using h1, h2⟩
theorem Lp {α : Type} {p : Nat → α → Prop} : ∀ (n : Nat), (∀ i, i < n → ∃ x, p i x) → ∃ l : List α, l.length = n ∧ ∀ i x, l[i]? = some x → p i x
 | 0, _ => ⟨[], rfl, fun i x h => by simp at h⟩
 | n + 1, h => by
  obtain ⟨l, h1, h2⟩ := Lp n (fun i hi => h i (by omega))
  obtain ⟨x, hx⟩ := h n (by omega)
  refine ⟨l ++ [x], by simp [h1], fun i y hi => ?_⟩
  by_cases hlt : i < l.length
  ·rw [List.getElem?_append_left hlt] at hi; exact h2 i y hi
  ·rw [List.getElem?_append_right (by omega)] at hi
   have : i - l.length = 0 := by
    have := AF hi
    simp at this; omega
   rw [this] at hi
   simp at hi; subst hi
   have : i = n := by omega
   subst this; exact hx
theorem Ji {α : Type} {f : Nat → Option α} : ∀ {n : Nat} {l : List α}, (List.range n).mapM f = some l → l.length = n ∧ ∀ i, i < n → f i = l[i]? := by
 intro n l h
 have h1 := mapM_some_length h
 refine ⟨by simpa using h1, fun i hi => ?_⟩
 exact mapM_some_get h i i (by simp [hi])
theorem Pi {w : World} {b o : Nat} {v : Value} (h : w.cell? ⟨b, o, none⟩ = some v) : ∃ arr el fz, w.heap[b]? = some (.cells arr el fz) ∧ arr[o]? = some v := by
 unfold World.cell? at h
 split at h
 ·rename_i c el fz hc
  exact ⟨c, el, fz, hc, by simpa using h⟩
 ·cases h
theorem Tq {w : World} {b : Nat} {o : Obj} (h : w.heap[b]? = some o) : b < w.heap.size := by
 rcases Nat.lt_or_ge b w.heap.size with h1 | h1
 ·exact h1
 ·rw [Array.getElem?_eq_none h1] at h; cases h
abbrev P1 (w : World) : Nat → Prop := fun β => β < w.heap.size
theorem Ny {H : Type} {enc : TypeId × Value → H} {w : World} {sp : Nat → Bool} {held : Bool} {n d : Nat} {cs : List Value}
  (ih : ∀ (t : TypeId) (cs : List Value) (x : DataW H × List MemPlace), H6 P d t = true → DataW.trod enc P w 0 sp held n t cs = some x → ∃ ts, G5 w (P1 w) cs ts ∧ Jc P d t ts) :
  ∀ (fs : List Field) (o : Nat), KD P o fs cs.length = true → (fs.all fun f => H6 P d f.type) = true →
   (∀ f, f ∈ fs → ∃ x, DataW.trod enc P w 0 sp held n f.type ((cs.drop f.offset).take (P.cellsOf f.type)) = some x) →
   ∃ ts, G5 w (P1 w) (cs.drop o) ts ∧ TK (Jc P d) (fs.map (·.type)) ts
 | [], o, hc, _, _ => by
  simp only [KD, beq_iff_eq] at hc
  refine ⟨[], ?_, rfl⟩
  rw [List.drop_eq_nil_of_le (by omega)]; trivial
 | f :: fs, o, hc, hp, hx => by
  simp only [KD, Bool.and_eq_true, beq_iff_eq] at hc
  simp only [List.all_cons, Bool.and_eq_true] at hp
  obtain ⟨x, hx0⟩ := hx f (by simp)
  rw [hc.1] at hx0
  obtain ⟨ts, h1, h2⟩ := ih _ _ _ hp.1 hx0
  obtain ⟨us, h3, h4⟩ := Ny ih fs _ hc.2 hp.2 (fun g hg => hx g (by simp [hg]))
  refine ⟨ts ++ us, ?_, ⟨ts, us, rfl, h2, h4⟩⟩
  have : cs.drop o = (cs.drop o).take (P.cellsOf f.type) ++ cs.drop (o + P.cellsOf f.type) := by
   rw [← List.drop_drop, List.take_append_drop]
  rw [this]
  exact h1.append h3
theorem N8 {H : Type} {enc : TypeId × Value → H} {w : World} {sp : Nat → Bool} {held : Bool} : ∀ (d fuel : Nat) (t : TypeId) (cs : List Value) (x : DataW H × List MemPlace), H6 P d t = true → DataW.trod enc P w 0 sp held fuel t cs = some x → ∃ ts, G5 w (P1 w) cs ts ∧ Jc P d t ts
 | 0, _, _, _, _, hp, _ => by cases hp
 | d + 1, fuel, t, cs, x, hp, hx => by
  unfold H6 at hp
  unfold Jc
  split at hp
  ·rename_i k hu
   obtain ⟨n, rfl, _, hw⟩ := DataW.trod_int hu hx
   exact ⟨[.val (.int k n)], ⟨.val _ rfl, trivial⟩, n, rfl, hw⟩
  ·rename_i hu
   obtain ⟨b, rfl, _⟩ := DataW.trod_bool hu hx
   exact ⟨[.val (.bool b)], ⟨.val _ rfl, trivial⟩, b, rfl⟩
  ·rename_i hu
   obtain ⟨b, rfl, _⟩ := DataW.trod_string hu hx
   exact ⟨[.val (.string b)], ⟨.val _ rfl, trivial⟩, b, rfl⟩
  ·rename_i e hu
   simp only [Bool.and_eq_true, decide_eq_true_eq] at hp
   rcases DataW.trod_slice hu hx with ⟨rfl, _⟩ | ⟨a, len, cap, elems, rest, n, rfl, rfl, _, _, hl, _, hlen, hel, _, _⟩
   ·exact ⟨[.sl []], ⟨.nil none 0, trivial⟩, [], rfl, fun row h => by cases h⟩
   ·have hrow : ∀ i, i < len → ∃ row, ∃ csi, w.cells? 0 (a.add (i * P.cellsOf e)) (P.cellsOf e) = some csi ∧ G5 w (P1 w) csi row ∧ Jc P d e row := by
     intro i hi
     have h1 := hel i hi
     have h2 : elems[i]? = some (elems[i]'(by omega)) := by simp [show i < elems.length from by omega]
     rw [h2] at h1
     obtain ⟨csi, h3, h4⟩ := Option.bind_eq_some_iff.1 h1
     obtain ⟨row, h5, h6⟩ := N8 d n e csi _ hp.2 h4
     exact ⟨row, csi, h3, h5, h6⟩
    obtain ⟨rows, hrl, hrows⟩ := Lp len hrow
    subst hrl
    refine ⟨[.sl rows], ⟨?_, trivial⟩, rows, rfl, fun row hm => ?_⟩
    ·cases hr0 : rows with
     | nil => exact .nil _ _
     | cons r0 rs0 =>
      rw [← hr0]
      have hpos : 0 < rows.length := by rw [hr0]; simp
      -- each cell
      have hcell : ∀ (i : Nat) (row : List T) (j : Nat) (u : T), rows[i]? = some row → row[j]? = some u → j < P.cellsOf e ∧ ∃ v, w.cell? ((a.add (i * P.cellsOf e)).add j) = some v ∧ C1 w (P1 w) v u := by
       intro i row j u hi hj
       obtain ⟨csi, h1, h2, _⟩ := hrows i row hi
       obtain ⟨v, h3, h4⟩ := h2.get j u hj
       unfold World.cells? at h1
       rw [if_pos (Nat.zero_le _)] at h1
       obtain ⟨h5, h6⟩ := Ji h1
       have hjl : j < P.cellsOf e := by have := AF h3; omega
       exact ⟨hjl, v, by rw [h6 j hjl, h3], h4⟩
      have hrlen : ∀ (i : Nat) (row : List T), rows[i]? = some row → row.length = P.cellsOf e := by
       intro i row hi
       obtain ⟨csi, h1, h2, _⟩ := hrows i row hi
       unfold World.cells? at h1
       rw [if_pos (Nat.zero_le _)] at h1
       obtain ⟨h5, _⟩ := Ji h1
       rw [← h2.len, h5]
      have hget : ∀ i (hi : i < rows.length), rows[i]? = some (rows[i]'hi) := fun i hi => by simp [hi]
      have hr00 := hget 0 hpos
      have hl0 := hrlen 0 _ hr00
      obtain ⟨_, v0, hv0, _⟩ := hcell 0 _ 0 ((rows[0]'hpos)[0]'(by omega)) hr00 (by simp)
      have hadd0 : (a.add (0 * P.cellsOf e)).add 0 = a := by simp [Addr.add]
      rw [hadd0] at hv0
      have hspot := World.cell?_spot hv0
      obtain ⟨β, off, spot⟩ := a
      simp only at hspot
      subst hspot
      obtain ⟨arr, el, fz, hb, _⟩ := Pi hv0
      have hadd : ∀ i j : Nat, ((⟨β, off, none⟩ : Addr).add (i * P.cellsOf e)).add j = ⟨β, off + i * P.cellsOf e + j, none⟩ := by
       intro i j
       unfold Addr.add
       split
       ·rename_i h1
        split
        ·rename_i h2; rw [h2]; simp
        ·rename_i h2; simp only [Addr.mk.injEq, true_and, and_true]; omega
       ·split <;> simp_all <;> omega
      have hat : ∀ (i : Nat) (row : List T) (j : Nat) (u : T), rows[i]? = some row → row[j]? = some u → off + i * P.cellsOf e + j < arr.size ∧ C1 w (P1 w) (Au arr (off + i * P.cellsOf e + j)) u := by
       intro i row j u hi hj
       obtain ⟨_, v, h1, h2⟩ := hcell i row j u hi hj
       rw [hadd] at h1
       obtain ⟨arr', el', fz', h3, h4⟩ := Pi h1
       rw [hb] at h3; cases h3
       have hlt : off + i * P.cellsOf e + j < arr.size := by
        rcases Nat.lt_or_ge (off + i * P.cellsOf e + j) arr.size with h | h
        ·exact h
        ·rw [Array.getElem?_eq_none h] at h4; cases h4
       refine ⟨hlt, ?_⟩
       have : Au arr (off + i * P.cellsOf e + j) = v := by unfold Au; rw [h4]; rfl
       rw [this]; exact h2
      refine .sl β off cap (P.cellsOf e) arr el fz rows (Tq hb) hb hl ?_ hrlen (fun i row j u hi hj => (hat i row j u hi hj).2)
      have hil := hget (rows.length - 1) (by omega)
      have hll := hrlen _ _ hil
      have h7 := (hat (rows.length - 1) _ (P.cellsOf e - 1) ((rows[rows.length - 1]'(by omega))[P.cellsOf e - 1]'(by omega)) hil (by simp)).1
      have h8 : rows.length * P.cellsOf e = (rows.length - 1) * P.cellsOf e + P.cellsOf e := by
       rw [← Nat.succ_mul]; congr 1; omega
      omega
    ·obtain ⟨i, hi⟩ := List.mem_iff_getElem?.1 hm
     obtain ⟨_, _, _, h⟩ := hrows i row hi
     exact h
  ·rename_i fs hu
   simp only [Bool.and_eq_true] at hp
   obtain ⟨xs, n, rfl, _, hcl, hxl, hf⟩ := DataW.trod_struct hu hx
   have := Ny (enc := enc) (sp := sp) (held := held) (cs := cs) (fun t cs x h1 h2 => N8 d n t cs x h1 h2) fs.toList 0 (by rw [hcl]; exact hp.1) hp.2 (fun f hm => by
    obtain ⟨i, hi⟩ := List.mem_iff_getElem?.1 hm
    have hi' : fs[i]? = some f := by simpa using hi
    have h1 := hf i f hi'
    have hlt : i < fs.size := by
     have := AF hi
     simpa using this
    exact ⟨xs[i]'(by omega), by rw [h1]; simp [show i < xs.length from by omega]⟩)
   simpa using this
  ·cases hp
end
end Go.Lift
namespace Go.Lift
open Go.RowKit Go.ChangeShapes Go.WideShapes
section
variable {P : Program}
def SW (P : Program) (t : TypeId) (us : List T) : D := match P.underlying t with
 | some (.struct _) => .e (.agg (us.map .pure))
 | _ => .e (.one (.pure (us.headD .nil0)))
def Io (P : Program) (d : Nat) : List TypeId → List D → Prop
 | [], [] => True
 | t :: ts, x :: xs => (∃ us, Jc P d t us ∧ x = SW P t us) ∧ Io P d ts xs
 | _, _ => False
theorem UR {H : Type} {enc : TypeId × Value → H} {w : World} {d base : Nat} {t : TypeId} {v : Value} {x : DataW H} {ps : List MemPlace} (hp : H6 P d t = true) (hval : Value.okWide P w .any base t v) (h : DataW.Trod enc P w 0 (fun _ => true) true t v x ps) :
  ∃ us, Jc P d t us ∧ F9 P w (G0 (P1 w)) v (SW P t us) := by
 obtain ⟨fuel, hf⟩ := h
 obtain ⟨us, h1, h2⟩ := N8 d fuel t _ _ hp hf
 refine ⟨us, h2, ?_⟩
 have single : ∀ (v : Value), v.cells.toList = [v] → G5 w (P1 w) v.cells.toList us → F9 P w (G0 (P1 w)) v (.e (.one (.pure (us.headD .nil0)))) := by
  intro v hv hr
  rw [hv] at hr
  match us, hr with
  | [u], hr => exact hr.1
 unfold SW
 cases d with
 | zero => cases hp
 | succ d =>
  unfold H6 at hp
  split at hp
  ·rename_i k hu
   rw [hu]
   obtain ⟨n, rfl⟩ := okWide_int hu hval
   exact single _ rfl h1
  ·rename_i hu
   rw [hu]
   obtain ⟨n, rfl⟩ := okWide_bool hu hval
   exact single _ rfl h1
  ·rename_i hu
   rw [hu]
   obtain ⟨n, rfl⟩ := okWide_string hu hval
   exact single _ rfl h1
  ·rename_i e hu
   rw [hu]
   obtain ⟨a, len, cap, rfl⟩ := okWide_slice hu hval
   exact single _ rfl h1
  ·rename_i fs hu
   rw [hu]
   simp only [Value.okWide, hu] at hval
   obtain ⟨cs, rfl, _, _⟩ := hval
   have h1 : G5 w (P1 w) cs.toList us := h1
   refine ⟨cs, rfl, by simpa using h1.len, fun j c hj => ?_⟩
   rw [List.getElem?_map] at hj
   cases hx : us[j]? with
   | none => rw [hx] at hj; cases hj
   | some u =>
    rw [hx] at hj; cases hj
    obtain ⟨v, h3, h4⟩ := h1.get j u hx
    have : Au cs j = v := by unfold Au; rw [show cs[j]? = some v from by simpa using h3]; rfl
    rw [this]; exact h4
  ·cases hp
theorem QU {H : Type} {enc : TypeId × Value → H} {w : World} {d base : Nat} : ∀ {ts : List TypeId} {vs : List Value} {ds : List (DataW H)} {ps : List MemPlace}, (ts.all (H6 P d)) = true → (∀ (j : Nat) t v, ts[j]? = some t → vs[j]? = some v → Value.okWide P w .any base t v) →
  DataW.TrodAll enc P w 0 (fun _ => true) true ts vs ds ps → ∃ Ds, Io P d ts Ds ∧ vs.length = Ds.length ∧ ds.length = ts.length ∧ ∀ (j : Nat) (x : D), Ds[j]? = some x → ∃ v, vs[j]? = some v ∧ F9 P w (G0 (P1 w)) v x
 | [], [], [], _, _, _, _ => ⟨[], trivial, rfl, rfl, fun j x h => by simp at h⟩
 | t :: ts, v :: vs, x :: xs, _, hp, hval, h => by
  obtain ⟨p, q, h1, h2, _⟩ := h
  simp only [List.all_cons, Bool.and_eq_true] at hp
  obtain ⟨us, h3, h4⟩ := UR hp.1 (hval 0 t v rfl rfl) h1
  obtain ⟨Ds, h5, h6, h7, h8⟩ := QU hp.2 (fun j t v hj hv => hval (j + 1) t v (by simpa using hj) (by simpa using hv)) h2
  refine ⟨SW P t us :: Ds, ⟨⟨us, h3, rfl⟩, h5⟩, by simp [h6], by simp [h7], fun j y hj => ?_⟩
  cases j with
  | zero => simp at hj; subst hj; exact ⟨v, rfl, h4⟩
  | succ j =>
   obtain ⟨v', g1, g2⟩ := h8 j y (by simpa using hj)
   exact ⟨v', by simpa using g1, g2⟩
 | [], [], _ :: _, _, _, _, h => h.elim
 | [], _ :: _, _, _, _, _, h => by cases ‹List (DataW H)› <;> exact h.elim
 | _ :: _, [], _, _, _, _, h => by cases ‹List (DataW H)› <;> exact h.elim
 | _ :: _, _ :: _, [], _, _, _, h => h.elim
theorem JJ {H : Type} {enc : TypeId × Value → H} (hl : laidOutB P = true) {W W' : World} (hb : Below W.heap.size W W') : ∀ {ts : List TypeId} {vs : List Value} {ds : List (DataW H)} {ps : List MemPlace}, (ts.all fun t => P.readableRec t && decide (t < P.types.size)) = true →
  DataW.TrodAll enc P W 0 (fun _ => true) true ts vs ds ps → (∀ x ∈ ps, x.block < W.heap.size) → DataW.TrodAll enc P W' 0 (fun b => decide (b < W.heap.size)) true ts vs ds ps
 | [], [], [], _, _, h, _ => h
 | t :: ts, v :: vs, x :: xs, _, hr, h, hlt => by
  obtain ⟨p, q, h1, h2, rfl⟩ := h
  simp only [List.all_cons, Bool.and_eq_true, decide_eq_true_eq] at hr
  refine ⟨p, q, Below.trod hl hr.1.1 hr.1.2 h1 hb (fun y hy => hlt y (by simp [hy])), JJ hl hb (by simpa using hr.2) h2 (fun y hy => hlt y (by simp [hy])), rfl⟩
 | [], [], _ :: _, _, _, h, _ => h.elim
 | [], _ :: _, _, _, _, h, _ => by cases ‹List (DataW H)› <;> exact h.elim
 | _ :: _, [], _, _, _, h, _ => by cases ‹List (DataW H)› <;> exact h.elim
 | _ :: _, _ :: _, [], _, _, h, _ => h.elim
end
end Go.Lift
namespace Go.Lift
open Go.RowKit
section
variable {P : Program}
def P8 {α : Type} (P : Program) (t : TypeId) (e : α → List T) (W : α → Prop) : Prop := ∀ (d : Nat) (ts : List T), Jc P d t ts → ∃ x, ts = e x ∧ W x
theorem Oe {t : TypeId} {k : IntKind} {e : Int → List T} (h : N2 P t k = true) (he : ∀ n, e n = [.val (.int k n)]) : P8 P t e (fun n => (Lit.int k n).wf = true) := by
 intro d ts hf
 cases d with
 | zero => exact hf.elim
 | succ d =>
  unfold N2 at h
  unfold Jc at hf
  split at h
  ·rename_i k' hu
   rw [hu] at hf
   obtain ⟨n, rfl, hw⟩ := hf
   have : k' = k := by simpa using h
   subst this
   exact ⟨n, (he n).symm, hw⟩
  ·cases h
theorem RK {t : TypeId} {e : Bool → List T} (h : Ud P t = true) (he : ∀ n, e n = [.val (.bool n)]) : P8 P t e (fun _ => True) := by
 intro d ts hf
 cases d with
 | zero => exact hf.elim
 | succ d =>
  unfold Ud at h
  unfold Jc at hf
  split at h
  ·rename_i hu
   rw [hu] at hf
   obtain ⟨n, rfl⟩ := hf
   exact ⟨n, (he n).symm, trivial⟩
  ·cases h
theorem Me {α : Type} {e : α → List T} {W : α → Prop} : ∀ (rows : List (List T)), (∀ row, row ∈ rows → ∃ x, row = e x ∧ W x) → ∃ xs : List α, rows = xs.map e ∧ ∀ x, x ∈ xs → W x
 | [], _ => ⟨[], rfl, fun x h => by cases h⟩
 | r :: rows, h => by
  obtain ⟨x, rfl, hx⟩ := h r (by simp)
  obtain ⟨xs, rfl, hxs⟩ := Me rows (fun row hr => h row (by simp [hr]))
  exact ⟨x :: xs, rfl, fun y hy => by
   rcases List.mem_cons.1 hy with e | e
   ·subst e; exact hx
   ·exact hxs y e⟩
theorem KV {α : Type} {t el : TypeId} {e : α → List T} {W : α → Prop} {e2 : List α → List T} (h : sliceB P t el = true) (he : P8 P el e W) (h2 : ∀ xs, e2 xs = [.sl (xs.map e)]) : P8 P t e2 (fun xs => ∀ x, x ∈ xs → W x) := by
 intro d ts hf
 cases d with
 | zero => exact hf.elim
 | succ d =>
  unfold sliceB at h
  unfold Jc at hf
  split at h
  ·rename_i e' hu
   rw [hu] at hf
   obtain ⟨rows, rfl, hr⟩ := hf
   have : e' = el := by simpa using h
   subst this
   obtain ⟨xs, rfl, hxs⟩ := Me rows (fun row hm => he d row (hr row hm))
   exact ⟨xs, (h2 xs).symm, hxs⟩
  ·cases h
def Gf (P : Program) (t : TypeId) : Option (List TypeId) := match P.underlying t with | some (.struct fs) => some (fs.toList.map (·.type)) | _ => none
theorem JY {t : TypeId} {tys : List TypeId} (h : Gf P t = some tys) {d : Nat} {ts : List T} (hf : Jc P d t ts) : ∃ d', TK (Jc P d') tys ts := by
 cases d with
 | zero => exact hf.elim
 | succ d =>
  unfold Gf at h
  unfold Jc at hf
  split at h
  ·rename_i fs hu
   cases h
   rw [hu] at hf
   exact ⟨d, hf⟩
  ·cases h
theorem PY {t : TypeId} {tys : List TypeId} (h : Gf P t = some tys) (us : List T) : SW P t us = .e (.agg (us.map .pure)) := by
 unfold Gf at h
 unfold SW
 revert h
 cases P.underlying t with
 | none => intro h; cases h
 | some k => cases k <;> intro h <;> first | rfl | cases h
theorem QB {t : TypeId} (h : Gf P t = none) (us : List T) : SW P t us = .e (.one (.pure (us.headD .nil0))) := by
 unfold Gf at h
 unfold SW
 revert h
 cases P.underlying t with
 | none => intro _; rfl
 | some k => cases k <;> intro h <;> first | rfl | cases h
theorem IE {d : Nat} {t : TypeId} {ts : List TypeId} {Ds : List D} (h : Io P d (t :: ts) Ds) : ∃ us xs, Ds = SW P t us :: xs ∧ Jc P d t us ∧ Io P d ts xs := by
 cases Ds with
 | nil => exact h.elim
 | cons x xs => obtain ⟨⟨us, h1, rfl⟩, h2⟩ := h; exact ⟨us, xs, rfl, h1, h2⟩
theorem OQ {d : Nat} {Ds : List D} (h : Io P d [] Ds) : Ds = [] := by
 cases Ds with
 | nil => rfl
 | cons x xs => exact h.elim
end
end Go.Lift
namespace Go.Lift
open List renaming mem_of_getElem? → lM
open List renaming getD_eq_getElem?_getD → lD
open Go.RowKit
variable {P : Program} {X : G7} {ops : Array Oper}
instance : Inhabited Bg := ⟨.gone⟩
def Ey (n m b : Nat) : Bool := if Bs b then Nat.blt (b - 90000) n else Nat.blt b m
def OP (G : Gh) (n : Nat) (β : Nat) : Prop := ∃ k, k < n ∧ G.has (90000 + k) β
theorem Gz {k : Nat} (h : k < 1000) : Bs (90000 + k) = true := by
 unfold Bs
 rw [Nat.ble_eq_true_of_le (by omega), Nat.ble_eq_true_of_le (by omega)]; rfl
theorem Rb {k : Nat} (h : k < 900) : NG (90000 + k) = true := by
 unfold NG
 rw [Bool.and_eq_true]
 exact ⟨Nat.ble_eq_true_of_le (by omega), Nat.ble_eq_true_of_le (by omega)⟩
theorem GK {b : Nat} (h : Bs b = true) : ∃ k, k < 1000 ∧ b = 90000 + k := by
 unfold Bs at h
 rw [Bool.and_eq_true] at h
 have h1 := Nat.le_of_ble_eq_true h.1
 have h2 := Nat.le_of_ble_eq_true h.2
 exact ⟨b - 90000, by omega, by omega⟩
def C8 (P : Program) (f : FuncId) (args : List D) (lent : List (Bg × Bg)) (rv : List Bg) (res : D) : Prop :=
 ∀ (w : World) (G : Gh) (vs : Array Value), (∀ β, G.S β → β < w.heap.size) → SQ P w G.S →
  (∀ (k : Nat) (x : Bg × Bg), lent[k]? = some x → EP P w G (90000 + k) x.1) →
  (∀ k β, k < lent.length → G.has (90000 + k) β → β < w.heap.size ∧ ¬ G.S β) →
  (∀ k l β, k < lent.length → l < lent.length → G.has (90000 + k) β → G.has (90000 + l) β → k = l) →
  vs.size = args.length → (∀ (j : Nat) (d : D), args[j]? = some d → F9 P w G (Au vs j) d) →
  Calls P f vs w fun e w' => ∃ v G', e = .returned v ∧ CL (OP G lent.length) w.heap.size w w' ∧ (∀ β, G.S β → G'.S β) ∧ (∀ β, G'.S β → G.S β ∨ (w.heap.size ≤ β ∧ β < w'.heap.size)) ∧ F9 P w' G' v res ∧
   (∀ (k : Nat) (x : Bg × Bg), lent[k]? = some x → EP P w' G' (90000 + k) x.2) ∧
   (∀ (k : Nat) (x : Bg), rv[k]? = some x → EP P w' G' k x) ∧
   (∀ k, k < lent.length → G'.loc (90000 + k) = G.loc (90000 + k) ∧ G'.hd (90000 + k) = G.hd (90000 + k) ∧ G'.more (90000 + k) = G.more (90000 + k)) ∧
   (∀ k β, k < lent.length → G'.has (90000 + k) β → ¬ G'.S β) ∧
   (∀ k β, k < rv.length → G'.has k β → w.heap.size ≤ β ∧ β < w'.heap.size ∧ ¬ G'.S β) ∧
   (∀ k l β, k < rv.length → l < rv.length → G'.has k β → G'.has l β → k = l)
def Nh (args : List D) (lent : List (Bg × Bg)) : St := ⟨fun s => args[s]?, fun b => if Bs b then (lent[b - 90000]?).map (·.1) else none⟩
def OE (bx : Nat → Option Bg) (f : Nat → Nat) : Nat → List (Bg × Bg) → Prop
 | _, [] => True
 | k, x :: xs => bx (90000 + k) = some (x.2.ren f) ∧ OE bx f (k + 1) xs
def P3 (bx : Nat → Option Bg) (f : Nat → Nat) : Nat → List Bg → Prop
 | _, [] => True
 | k, x :: xs => bx (1000 + k) = some (x.ren f) ∧ P3 bx f (k + 1) xs
theorem K8 {bx : Nat → Option Bg} {f : Nat → Nat} : ∀ {l : List (Bg × Bg)} {m : Nat}, OE bx f m l → ∀ (k : Nat) (x : Bg × Bg), l[k]? = some x → bx (90000 + (m + k)) = some (x.2.ren f)
 | y :: rv, m, h, 0, x, hk => by simp at hk; subst hk; exact h.1
 | y :: rv, m, h, k + 1, x, hk => by
  have := K8 h.2 k x (by simpa using hk)
  rwa [show m + 1 + k = m + (k + 1) from by omega] at this
theorem Mp {bx : Nat → Option Bg} {f : Nat → Nat} : ∀ {l : List Bg} {m : Nat}, P3 bx f m l → ∀ (k : Nat) (x : Bg), l[k]? = some x → bx (1000 + (m + k)) = some (x.ren f)
 | y :: rv, m, h, 0, x, hk => by simp at hk; subst hk; exact h.1
 | y :: rv, m, h, k + 1, x, hk => by
  have := Mp h.2 k x (by simpa using hk)
  rwa [show m + 1 + k = m + (k + 1) from by omega] at this
def Jy (b : Nat) : Nat := if Bs b then b else 1000 + b
structure SF (P : Program) (rs : List ResultVar) (st : St) (lent : List (Bg × Bg)) (rv : List Bg) (res : D) : Prop where
 r : ∃ xs, VV P st rs xs ∧ VD xs = res.ren Jy
 l : OE st.bx Jy 0 lent
 v : P3 st.bx Jy 0 rv
def EZ (n m : Nat) (l : List Nat) : Bool := l.all (Ey n m)
theorem Fh {f n : Nat} {fn : Func} {c : Code} {args : List D} {lent : List (Bg × Bg)} {rv : List Bg} {res : D} {rs : List ResultVar} (hf : P.funcs[f]? = some fn) (hb : fn.body = some c) (hn : fn.ntmps = n) (hrs : fn.results.toList = rs) (hl : args.length ≤ n) (hn9 : n ≤ 90000)
  (hargs : (args.all fun d => EZ lent.length 0 d.names) = true) (hpre : (lent.all fun x => EZ lent.length 0 x.1.names && x.1.real && x.2.real) = true) (hll : lent.length ≤ 900) (hrl : (rv.all fun x => x.real) = true) (hrn : rv.length ≤ 1000)
  (h : ∀ (w0 : World) (S0 : Nat → Prop) (GL : Gh), W P ⟨w0, S0, n, GL⟩ c (fun e st => match e with | .normal | .ret => SF P rs st lent rv res | _ => False) (Nh args lent)) : C8 P f args lent rv res := by
 subst hn; subst hrs
 intro w G vs hS hgk hlb hla hli hlen hrd
 refine calls_of_wp hf hb ?_
 have hcell : ∀ j, j < args.length → Au (vs ++ Array.replicate (fn.ntmps - vs.size) undef) j = Au vs j := fun j hj => Cx (by omega)
 -- the ghost that knows of what is lent alone
 let dom : Nat → Prop := fun b => Bs b = true ∧ b - 90000 < lent.length
 have hdec : ∀ b, Decidable (dom b) := fun b => inferInstanceAs (Decidable (_ ∧ _))
 let GL : Gh := { S := G.S, loc := fun b => if dom b then G.loc b else none, hd := fun b => if dom b then G.hd b else undef, more := fun b => if dom b then G.more b else fun _ => False }
 have hext : G.ext GL dom := ⟨fun _ h => h, fun b hb => if_pos hb, fun b hb => if_pos hb, fun b hb => if_pos hb⟩
 have hdomk : ∀ k, k < lent.length → dom (90000 + k) := fun k hk => ⟨Gz (by omega), by omega⟩
 have hin : ∀ b, Ey lent.length 0 b = true → dom b := by
  intro b hb
  unfold Ey at hb
  split at hb
  ·rename_i hl; exact ⟨hl, by rwa [Nat.blt_eq] at hb⟩
  ·simp [Nat.blt] at hb
 have hhas : ∀ b β, GL.has b β → dom b ∧ G.has b β := by
  intro b β hb
  by_cases hd : dom b
  ·exact ⟨hd, (hext.has hd).1 hb⟩
  ·exfalso
   unfold Gh.has at hb
   simp only [GL] at hb
   rw [if_neg hd, if_neg hd] at hb
   rcases hb with h | h
   ·cases h
   ·exact h
 have hlent : ∀ β, GL.lent β ↔ OP G lent.length β := by
  intro β
  constructor
  ·rintro ⟨b, hb, hb2⟩
   obtain ⟨hd, hg⟩ := hhas b β hb2
   obtain ⟨k, _, rfl⟩ := GK hb
   exact ⟨k, by have := hd.2; omega, hg⟩
  ·rintro ⟨k, hk, hg⟩
   exact ⟨90000 + k, Gz (by omega), (hext.has (hdomk k hk)).2 hg⟩
 have hbx : ∀ b k, (Nh args lent).bx b = some k → dom b ∧ ∃ x, lent[b - 90000]? = some x ∧ x.1 = k := by
  intro b k hk
  simp only [Nh] at hk
  split at hk
  ·rename_i hb
   cases hx : lent[b - 90000]? with
   | none => rw [hx] at hk; cases hk
   | some x => rw [hx] at hk; cases hk; exact ⟨⟨hb, AF hx⟩, x, rfl, rfl⟩
  ·cases hk
 have hdn : ∀ b, dom b → ((Nh args lent).bx b).isSome = true := by
  intro b hb
  simp only [Nh]
  rw [if_pos hb.1]
  simp [hb.2]
 have hpre' : ∀ x, x ∈ lent → EZ lent.length 0 x.1.names = true ∧ x.1.real = true ∧ x.2.real = true := fun x hx => by
  have := List.all_eq_true.1 hpre x hx
  rw [Bool.and_eq_true, Bool.and_eq_true] at this
  exact ⟨this.1.1, this.1.2, this.2⟩
 have hbk : ∀ b, dom b → b = 90000 + (b - 90000) := fun b hb => by obtain ⟨k, _, e⟩ := GK hb.1; omega
 have hinit : CZ P ⟨w, G.S, fn.ntmps, GL⟩ GL (Nh args lent) { tmps := vs ++ Array.replicate (fn.ntmps - vs.size) undef, defers := [] } w := by
  refine { S_lt := hS, S_src := fun β h => .inl h, S_0 := fun β h => h, S0_lt := hS, tsz := by simp; omega, defers := rfl, below := CL.refl _ _ _, gok := hgk, nlt := hn9, lent := fun _ _ => ⟨rfl, rfl, rfl⟩, blk := ?_, at_ok := ?_, at_inj := ?_, env := ?_, live := ?_, liveB := ?_ }
  ·intro b k hk
   obtain ⟨hd, x, hx, rfl⟩ := hbx b k hk
   have h1 := hlb _ x hx
   rw [← hbk b hd] at h1
   exact h1.mono hext hd (fun _ _ => rfl) (fun _ _ _ => rfl) fun c hc => hin c (List.all_eq_true.1 (hpre' x (lM hx)).1 c hc)
  ·intro b k β hk hr hβ
   obtain ⟨hd, hg⟩ := hhas b β hβ
   rw [hbk b hd] at hg
   have := hla _ β hd.2 hg
   exact ⟨⟨fun h3 => (by rw [hd.1] at h3; cases h3), .inr ⟨b, hd.1, hβ⟩⟩, this.1, this.2⟩
  ·intro b c k l β hk hl hr hr' hβ hβ'
   obtain ⟨hd, hg⟩ := hhas b β hβ
   obtain ⟨hd', hg'⟩ := hhas c β hβ'
   rw [hbk b hd] at hg
   rw [hbk c hd'] at hg'
   have := hli _ _ β hd.2 hd'.2 hg hg'
   rw [hbk b hd, hbk c hd', this]
  ·intro s d hs
   have hs' : args[s]? = some d := hs
   rw [hcell s (AF hs')]
   exact (hrd s d hs').mono hext (fun _ _ => rfl) fun b hb => hin b (List.all_eq_true.1 (List.all_eq_true.1 hargs d (lM hs')) b hb)
  ·intro s d hs b hb
   have hs' : args[s]? = some d := hs
   exact hdn b (hin b (List.all_eq_true.1 (List.all_eq_true.1 hargs d (lM hs')) b hb))
  ·intro b k hk c hc
   obtain ⟨hd, x, hx, rfl⟩ := hbx b k hk
   exact hdn c (hin c (List.all_eq_true.1 (hpre' x (lM hx)).1 c hc))
 refine wp_mono (h w G.S GL _ w ⟨_, hinit⟩) ?_
 rintro e a' w' ⟨st', hq, G2, hs⟩
 have key : SF P fn.results.toList st' lent rv res → a'.defers = [] ∧ ∃ v, (results fn a'.tmps).run P w' = .ok v w' ∧ ∃ v' G', Ending.returned v = .returned v' ∧ CL (OP G lent.length) w.heap.size w w' ∧ (∀ β, G.S β → G'.S β) ∧ (∀ β, G'.S β → G.S β ∨ (w.heap.size ≤ β ∧ β < w'.heap.size)) ∧ F9 P w' G' v' res ∧
   (∀ (k : Nat) (x : Bg × Bg), lent[k]? = some x → EP P w' G' (90000 + k) x.2) ∧
   (∀ (k : Nat) (x : Bg), rv[k]? = some x → EP P w' G' k x) ∧
   (∀ k, k < lent.length → G'.loc (90000 + k) = G.loc (90000 + k) ∧ G'.hd (90000 + k) = G.hd (90000 + k) ∧ G'.more (90000 + k) = G.more (90000 + k)) ∧
   (∀ k β, k < lent.length → G'.has (90000 + k) β → ¬ G'.S β) ∧
   (∀ k β, k < rv.length → G'.has k β → w.heap.size ≤ β ∧ β < w'.heap.size ∧ ¬ G'.S β) ∧
   (∀ k l β, k < rv.length → l < rv.length → G'.has k β → G'.has l β → k = l) := by
  rintro ⟨⟨xs, hr1, hr2⟩, hlp, hv⟩
  obtain ⟨us, h1, h2, h3⟩ := hs.rrs hr1
  have hoL : ∀ k, k < lent.length → Jy (90000 + k) = 90000 + k := fun k hk => by unfold Jy; rw [Gz (by omega)]; rfl
  have hoN : ∀ k, k < rv.length → Jy k = 1000 + k := fun k hk => by unfold Jy; rw [GP (show k < 1000 by omega) (by omega)]; rfl
  have hbl : ∀ (k : Nat) (x : Bg × Bg), lent[k]? = some x → st'.bx (90000 + k) = some (x.2.ren Jy) := fun k x hk => by
   have := K8 hlp k x hk
   rwa [Nat.zero_add] at this
  have hbv : ∀ (k : Nat) (x : Bg), rv[k]? = some x → st'.bx (1000 + k) = some (x.ren Jy) := fun k x hk => by
   have := Mp hv k x hk
   rwa [Nat.zero_add] at this
  have hreal : ∀ (k : Nat) (x : Bg), rv[k]? = some x → (x.ren Jy).real = true := fun k x hk => by
   rw [HB]; exact List.all_eq_true.1 hrl x (lM hk)
  have hgl : ∀ k, k < lent.length → G2.loc (90000 + k) = G.loc (90000 + k) ∧ G2.hd (90000 + k) = G.hd (90000 + k) ∧ G2.more (90000 + k) = G.more (90000 + k) := fun k hk => by
   obtain ⟨e1, e2, e3⟩ := hs.lent (90000 + k) (Rb (by omega))
   exact ⟨e1.trans (hext.loc _ (hdomk k hk)), e2.trans (hext.hd _ (hdomk k hk)), e3.trans (hext.more _ (hdomk k hk))⟩
  refine ⟨hs.defers, (if h : us.toArray.size = 1 then us.toArray[0] else .tuple us.toArray), ?_, _, { S := G2.S, loc := fun b => G2.loc (Jy b), hd := fun b => G2.hd (Jy b), more := fun b => G2.more (Jy b) }, rfl, ?_, hs.S_0, ?_, ?_, ?_, ?_, ?_, ?_, ?_, ?_⟩
  ·unfold results
   refine Ak (a := us.toArray) (w1 := w') ?_ rfl
   rw [Array.mapM_eq_mapM_toList]
   simp only [Sem.run_map]
   exact congrArg (fun r => Result.andThen r fun a w' => Result.ok a.toArray w') h1
  ·have hb := hs.below
   exact ⟨hb.os, hb.tape, hb.output, hb.size, hb.drawn, fun k hk hl => hb.block k hk fun h => hl ((hlent k).1 h)⟩
  ·intro β hβ
   rcases hs.S_src β hβ with h | h
   ·exact .inl h
   ·exact .inr ⟨h, hs.S_lt β hβ⟩
  ·refine HF (f := Jy) ?_
   rw [← hr2]
   match xs, us, h2 with
   | [], [], _ => exact ⟨#[], rfl, rfl, fun j x h => by simp at h⟩
   | [x], [u], _ => exact h3 0 u x rfl rfl
   | x :: y :: xs, u :: u' :: us, hl2 =>
    refine ⟨(u :: u' :: us).toArray, by simp, by simpa using hl2, fun j z hj => ?_⟩
    have hlt := AF hj
    have hu : (u :: u' :: us)[j]? = some ((u :: u' :: us)[j]'(by rw [hl2]; exact hlt)) := by rw [List.getElem?_eq_getElem]
    have := h3 j _ z hu hj
    have hc : Au (u :: u' :: us).toArray j = (u :: u' :: us)[j]'(by rw [hl2]; exact hlt) := by
     unfold Au
     rw [List.getElem?_toArray, hu]; rfl
    rw [hc]; exact this
  ·intro k x hk
   refine Hr (f := Jy) ?_
   rw [hoL k (AF hk)]
   exact hs.blk _ _ (hbl k x hk)
  ·intro k x hk
   refine Hr (f := Jy) ?_
   rw [hoN k (AF hk)]
   exact hs.blk _ _ (hbv k x hk)
  ·intro k hk
   simp only [hoL k hk]
   exact hgl k hk
  ·intro k β hk hβ
   have hx : lent[k]? = some lent[k] := by simp [hk]
   have hβ : G2.has (90000 + k) β := by
    unfold Gh.has at hβ ⊢
    simp only [hoL k hk] at hβ
    exact hβ
   exact (hs.at_ok _ _ β (hbl k _ hx) (by rw [HB]; exact (hpre' _ (lM hx)).2.2) hβ).2.2
  ·intro k β hk hβ
   have hx : rv[k]? = some rv[k] := by simp [hk]
   have hβ : G2.has (1000 + k) β := by
    unfold Gh.has at hβ ⊢
    simp only [hoN k hk] at hβ
    exact hβ
   have := hs.at_ok _ _ β (hbv k _ hx) (hreal k _ hx) hβ
   exact ⟨this.1.1 (GP (show 1000 + k < 3000 by omega) (by omega)), this.2⟩
  ·intro k l β hk hl hβ hβ'
   have hx : rv[k]? = some rv[k] := by simp [hk]
   have hx' : rv[l]? = some rv[l] := by simp [hl]
   have hβ : G2.has (1000 + k) β := by
    unfold Gh.has at hβ ⊢
    simp only [hoN k hk] at hβ
    exact hβ
   have hβ' : G2.has (1000 + l) β := by
    unfold Gh.has at hβ' ⊢
    simp only [hoN l hl] at hβ'
    exact hβ'
   have := hs.at_inj _ _ _ _ β (hbv k _ hx) (hbv l _ hx') (hreal k _ hx) (hreal l _ hx') hβ hβ'
   omega
 cases e with
 | normal => exact key hq
 | ret => exact key hq
 | _ => exact hq.elim
def nu (ls ns : List Nat) (b : Nat) : Nat := if Bs b then ls.getD (b - 90000) 0 else ns.getD b 0
def Im (f : Nat → Nat) : List Nat → List (Bg × Bg) → List (Nat × Bg)
 | l :: ls, x :: xs => (l, x.1.ren f) :: Im f ls xs
 | _, _ => []
def FM (f : Nat → Nat) : List Nat → List (Bg × Bg) → List Bool → List (Nat × Bg) → List (Nat × Bg)
 | l :: ls, x :: xs, c :: cs, r => if c then (l, x.2.ren f) :: FM f ls xs cs r else FM f ls xs cs r
 | _, _, _, r => r
def newB (f : Nat → Nat) : List Nat → List Bg → List (Nat × Bg)
 | n :: ns, x :: xs => (n, x.ren f) :: newB f ns xs
 | _, _ => []
def Pm : List (Bg × Bg) → List Bool → Prop
 | x :: xs, c :: cs => (c = false → x.1 = x.2) ∧ Pm xs cs
 | [], [] => True
 | _, _ => False
theorem KL {f : Nat → Nat} {bx : Nat → Option Bg} : ∀ {ls : List Nat} {lent : List (Bg × Bg)}, ls.length = lent.length → FX bx (Im f ls lent) → ∀ (k : Nat) (x : Bg × Bg), lent[k]? = some x → bx (nm ls k) = some (x.1.ren f)
 | [], [], _, _, k, y, hk => by simp at hk
 | l :: ls, x :: xs, hl, h, 0, y, hk => by simp at hk; subst hk; exact h.1
 | l :: ls, x :: xs, hl, h, k + 1, y, hk => by
  have := KL (ls := ls) (lent := xs) (by simpa using hl) h.2 k y (by simpa using hk)
  simpa [nm] using this
theorem K2 {f : Nat → Nat} {bx : Nat → Option Bg} {r : List (Nat × Bg)} : ∀ {ls : List Nat} {lent : List (Bg × Bg)} {ch : List Bool}, ls.length = lent.length → ls.Nodup → Pm lent ch → (∀ c, c ∈ ls → A8 bx r c = bx c) → FX bx (Im f ls lent) →
  (∀ c, c ∉ ls → A8 bx (FM f ls lent ch r) c = A8 bx r c) ∧ ∀ (k : Nat) (x : Bg × Bg), lent[k]? = some x → A8 bx (FM f ls lent ch r) (nm ls k) = some (x.2.ren f)
 | [], [], [], _, _, _, _, _ => ⟨fun _ _ => rfl, fun k x h => by simp at h⟩
 | [], [], _ :: _, _, _, h, _, _ => h.elim
 | l :: ls, x :: xs, [], hl, hnd, hc, hr, hp => by cases hc
 | l :: ls, x :: xs, c :: cs, hl, hnd, hc, hr, hp => by
  have ih := K2 (f := f) (bx := bx) (r := r) (ls := ls) (lent := xs) (ch := cs) (by simpa using hl) (List.nodup_cons.1 hnd).2 hc.2 (fun c hc => hr c (by simp [hc])) hp.2
  have hln : l ∉ ls := (List.nodup_cons.1 hnd).1
  have hl0 : A8 bx (FM f ls xs cs r) l = bx l := (ih.1 l hln).trans (hr l (by simp))
  refine ⟨fun d hd => ?_, fun k y hk => ?_⟩
  ·simp only [List.mem_cons, not_or] at hd
   simp only [FM]
   split
   ·simp only [A8]; rw [if_neg hd.1]; exact ih.1 d hd.2
   ·exact ih.1 d hd.2
  ·cases k with
   | zero =>
    simp at hk; subst hk
    simp only [FM, nm, List.getD_cons_zero]
    split
    ·simp [A8]
    ·rename_i hcc
     have hcf : c = false := by simpa using hcc
     rw [hl0, hp.1, hc.1 hcf]
   | succ k =>
    have hk' : xs[k]? = some y := by simpa using hk
    have hlt := AF hk'
    have hlt2 : k < ls.length := by simp at hl; omega
    have e : nm (l :: ls) (k + 1) = nm ls k := by simp [nm]
    rw [e]
    have hne : nm ls k ≠ l := fun h => hln (h ▸ Dg hlt2)
    simp only [FM]
    split
    ·simp only [A8]; rw [if_neg hne]; exact ih.2 k y hk'
    ·exact ih.2 k y hk'
theorem Ks {f : Nat → Nat} {bx : Nat → Option Bg} : ∀ {ns : List Nat} {rv : List Bg} {c : Nat}, ns.length = rv.length → ns.Nodup →
  (c ∉ ns → A8 bx (newB f ns rv) c = bx c) ∧ ∀ (k : Nat) (x : Bg), rv[k]? = some x → A8 bx (newB f ns rv) (nm ns k) = some (x.ren f)
 | [], [], c, _, _ => ⟨fun _ => rfl, fun k x h => by simp at h⟩
 | n :: ns, x :: xs, c, hl, hnd => by
  have ih := Ks (f := f) (bx := bx) (ns := ns) (rv := xs) (c := c) (by simpa using hl) (List.nodup_cons.1 hnd).2
  refine ⟨fun hc => ?_, fun k y hk => ?_⟩
  ·simp only [List.mem_cons, not_or] at hc
   simp only [newB, A8]
   rw [if_neg hc.1]; exact ih.1 hc.2
  ·cases k with
   | zero => simp at hk; subst hk; simp [newB, A8, nm]
   | succ k =>
    have hk' : xs[k]? = some y := by simpa using hk
    have hlt := AF hk'
    have hlt2 : k < ns.length := by simp at hl; omega
    have : nm (n :: ns) (k + 1) = nm ns k := by simp [nm]
    rw [this]
    have hne : nm ns k ≠ n := fun e => (List.nodup_cons.1 hnd).1 (e ▸ Dg hlt2)
    simp only [newB, A8]
    rw [if_neg hne]
    exact (Ks (f := f) (bx := bx) (ns := ns) (rv := xs) (c := c) (by simpa using hl) (List.nodup_cons.1 hnd).2).2 k y hk'
theorem Di {ls ns : List Nat} {k : Nat} (h : k < 1000) : nu ls ns (90000 + k) = nm ls k := by
 unfold nu nm; rw [Gz h, if_pos rfl, show 90000 + k - 90000 = k from by omega]
theorem GX {ls ns : List Nat} {k : Nat} (h : k < 90000) : nu ls ns k = nm ns k := by
 unfold nu nm; rw [GP h (Nat.le_refl _), if_neg (by simp)]
theorem JR {bx : Nat → Option Bg} {c : Nat} : ∀ {wb : List (Nat × Bg)}, (bx c).isSome = true → (A8 bx wb c).isSome = true
 | [], h => h
 | p :: ps, h => by
  simp only [A8]; split
  ·rfl
  ·exact JR h
section run
variable {dr : Bool} {Q : St → Prop} {r i : Nat} {st : St} {log : List (Nat × Cc)} {o : Oper} {gs : List (Operand × D)}
theorem OY {f s : Nat} {xs : List Operand} {ds0 ds : List D} {lent : List (Bg × Bg)} {rv : List Bg} {res : D} {ts : Array TypeId} (ls ns : List Nat) (ch : List Bool) (hc : C8 P f ds lent rv res) (hat : At st.env ops i X.n (.call ⟨.value (.func f), xs.toArray, ts⟩) s gs)
  (hf : AD P f = true) (hl : xs.length = ds0.length) (hds : ds0.map D.nrm = ds.map (D.ren (nu ls ns)))
  (hll : ls.length = lent.length) (hln : ls.Nodup) (hns : ns.length = rv.length) (hndl : JZ ns) (hch : Pm lent ch)
  (hlim : (Nat.ble lent.length 1000 && Nat.ble rv.length 1000) = true) (hre : (lent.all fun x => x.1.real && x.2.real) = true)
  (hnm : (EZ lent.length rv.length res.names && (lent.all fun x => EZ lent.length rv.length x.2.names) && rv.all fun x => EZ lent.length rv.length x.names) = true) : LR P X ops i ⟨gs ++ F8 xs ds0, Im (nu ls ns) ls lent, some s, some (res.ren (nu ls ns)), FM (nu ls ns) ls lent ch (newB (nu ls ns) ns rv), ns⟩ := by
 obtain ⟨o, ho, hop, hd, hn, hg, hgp⟩ := hat.out
 have hnd := hndl.1
 rw [Bool.and_eq_true] at hlim
 have hlim1 := Nat.le_of_ble_eq_true hlim.1
 have hlim2 := Nat.le_of_ble_eq_true hlim.2
 rw [Bool.and_eq_true, Bool.and_eq_true] at hnm
 obtain ⟨⟨hnmR, hnmL⟩, hnmV⟩ := hnm
 have hre' : ∀ x, x ∈ lent → x.1.real = true ∧ x.2.real = true := fun x hx => by
  have := List.all_eq_true.1 hre x hx
  rw [Bool.and_eq_true] at this
  exact this
 intro st a w K Q' hs hpre hK
 obtain ⟨G, hs⟩ := hs
 have hx := (Al.1 hpre.r).2
 have hw := hs.wanted hg (Al.1 hpre.r).1
 have hnew := hpre.n
 have hlb := hpre.b
 have hnew' : ∀ c, c ∈ ns → st.bx c = none := by
  have : ∀ {l : List Nat}, KS st.bx l → ∀ c, c ∈ l → st.bx c = none := by
   intro l
   induction l with
   | nil => intro _ c hc; cases hc
   | cons b l ih =>
    intro h c hc
    rcases List.mem_cons.1 hc with e | e
    ·subst e; exact h.1
    ·exact ih h.2 c e
  exact this hnew
 have hget := fun k x hk => KL (f := nu ls ns) hll hlb k x hk
 have hlk : ∀ k, k < lent.length → st.bx (nm ls k) = some (lent[k]!.1.ren (nu ls ns)) ∧ (lent[k]!.1.ren (nu ls ns)).real = true := fun k hk => by
  have hx0 : lent[k]? = some lent[k]! := by simp [hk]
  exact ⟨hget k _ hx0, by rw [HB]; exact (hre' _ (lM hx0)).1⟩
 have hlsns : ∀ c, c ∈ ls → c ∉ ns := fun c hc hm => by
  obtain ⟨k, hk, e⟩ := I0 hc
  have := (hlk k (by omega)).1
  rw [e, hnew' c hm] at this; cases this
 unfold wpOp
 rw [ho]
 simp only [hw, if_true]
 refine .inl ?_
 unfold Oper.wp
 have hrun : (execOp a.eval o).run P w = .ok (.enter f (xs.toArray.map a.eval)) w := by
  simp only [execOp, hop]
  exact HC hf rfl
 rw [hrun]
 show Calls P f (xs.toArray.map a.eval) w _
 let Gc : Gh := { S := G.S, loc := fun b => G.loc (nu ls ns b), hd := fun b => G.hd (nu ls ns b), more := fun b => G.more (nu ls ns b) }
 have hGc : ∀ k β, k < lent.length → (Gc.has (90000 + k) β ↔ G.has (nm ls k) β) := fun k β hk => by
  unfold Gh.has; simp only [Gc]; rw [Di (by omega)]
 refine (hc w Gc (xs.toArray.map a.eval) hs.S_lt hs.gok ?_ ?_ ?_ ?_ ?_).mono ?_
 ·intro k x hk
  refine Hr (f := nu ls ns) ?_
  rw [Di (by have := AF hk; omega)]
  exact hs.blk _ _ (hget k x hk)
 ·intro k β hk hβ
  have h1 := hlk k hk
  exact (hs.at_ok _ _ β h1.1 h1.2 ((hGc k β hk).1 hβ)).2
 ·intro k l β hk hl' hβ hβ'
  have h1 := hlk k hk
  have h2 := hlk l hl'
  have := hs.at_inj _ _ _ _ β h1.1 h2.1 h1.2 h2.2 ((hGc k β hk).1 hβ) ((hGc l β hl').1 hβ')
  exact KP hln (by omega) (by omega) this
 ·have h1 := congrArg List.length hds
  simp at h1
  simp; omega
 ·intro j d hj
  have hj2 : (ds.map (D.ren (nu ls ns)))[j]? = some (d.ren (nu ls ns)) := by rw [List.getElem?_map, hj]; rfl
  rw [← hds, List.getElem?_map] at hj2
  obtain ⟨d0, hj0, hd0⟩ : ∃ d0, ds0[j]? = some d0 ∧ d0.nrm = d.ren (nu ls ns) := by
   cases hx0 : ds0[j]? with
   | none => rw [hx0] at hj2; cases hj2
   | some d0 => rw [hx0] at hj2; exact ⟨d0, rfl, by simpa using hj2⟩
  have hlt := AF hj0
  have hxj : xs[j]? = some (xs[j]'(by omega)) := by simp [show j < xs.length from by omega]
  have hop' := GU hl hx j _ d0 hxj hj0
  have hcell : Au (xs.toArray.map a.eval) j = a.eval (xs[j]'(by omega)) := by simp [Au, show j < xs.length from by omega]
  rw [hcell]
  refine HF (f := nu ls ns) ?_
  rw [← hd0]
  exact (hs.opd hop').nrm
 ·rintro e w' ⟨v, G', rfl, hbel, hS1, hS2, hres', hpost, hvec, hsame, hlS, hvat, hvinj⟩
  show K (a.put o.dst v) w'
  rw [hd]
  let G2 : Gh := { S := G'.S, loc := fun c => if c ∈ ns then G'.loc (ns.idxOf c) else G.loc c, hd := fun c => if c ∈ ns then G'.hd (ns.idxOf c) else G.hd c, more := fun c => if c ∈ ns then G'.more (ns.idxOf c) else G.more c }
  have hidx : ∀ k, k < ns.length → ns.idxOf (nm ns k) = k := by
   intro k hk
   have hm := Dg hk
   have h1 : ns.idxOf (nm ns k) < ns.length := List.idxOf_lt_length_of_mem hm
   refine KP hnd h1 hk ?_
   have h2 := List.getElem_idxOf h1
   show ns.getD (ns.idxOf (nm ns k)) 0 = nm ns k
   rw [lD, List.getElem?_eq_getElem h1, Option.getD_some, h2]
  have hvia : G'.via G2 (nu ls ns) (fun b => Ey lent.length rv.length b = true) := by
   have key : ∀ b, Ey lent.length rv.length b = true → (∃ k, k < lent.length ∧ b = 90000 + k) ∨ (b < rv.length ∧ Bs b = false) := by
    intro b hb
    unfold Ey at hb
    split at hb
    ·rename_i h
     obtain ⟨k, _, rfl⟩ := GK h
     rw [Nat.blt_eq] at hb
     exact .inl ⟨k, by omega, rfl⟩
    ·rename_i h
     rw [Nat.blt_eq] at hb
     exact .inr ⟨hb, by simpa using h⟩
   refine ⟨fun β h => h, fun b hb => ?_, fun b hb => ?_, fun b hb => ?_⟩
   ·rcases key b hb with ⟨k, hk, rfl⟩ | ⟨hb1, hb2⟩
    ·rw [Di (by omega)]
     have hni : nm ls k ∉ ns := hlsns _ (Dg (by omega))
     simp only [G2]; rw [if_neg hni, (hsame k hk).1]; simp only [Gc]; rw [Di (by omega)]
    ·rw [GX (by omega)]
     simp only [G2]; rw [if_pos (Dg (by omega)), hidx b (by omega)]
   ·rcases key b hb with ⟨k, hk, rfl⟩ | ⟨hb1, hb2⟩
    ·rw [Di (by omega)]
     have hni : nm ls k ∉ ns := hlsns _ (Dg (by omega))
     simp only [G2]; rw [if_neg hni, (hsame k hk).2.1]; simp only [Gc]; rw [Di (by omega)]
    ·rw [GX (by omega)]
     simp only [G2]; rw [if_pos (Dg (by omega)), hidx b (by omega)]
   ·rcases key b hb with ⟨k, hk, rfl⟩ | ⟨hb1, hb2⟩
    ·rw [Di (by omega)]
     have hni : nm ls k ∉ ns := hlsns _ (Dg (by omega))
     simp only [G2]; rw [if_neg hni, (hsame k hk).2.2]; simp only [Gc]; rw [Di (by omega)]
    ·rw [GX (by omega)]
     simp only [G2]; rw [if_pos (Dg (by omega)), hidx b (by omega)]
  have hext : G.ext G2 (fun b => (st.bx b).isSome = true) := by
   have : ∀ b, (st.bx b).isSome = true → b ∉ ns := fun b hb hm => by rw [hnew' b hm] at hb; cases hb
   exact ⟨fun β h => hS1 β h, fun b hb => by simp only [G2]; rw [if_neg (this b hb)], fun b hb => by simp only [G2]; rw [if_neg (this b hb)], fun b hb => by simp only [G2]; rw [if_neg (this b hb)]⟩
  have hnotL : ∀ β, OP Gc lent.length β → ∃ k, k < lent.length ∧ G.has (nm ls k) β := fun β ⟨k, hk, hb⟩ => ⟨k, hk, (hGc k β hk).1 hb⟩
  have hwS : ∀ β, G.S β → w'.heap[β]? = w.heap[β]? := fun β hβ => hbel.block β (hs.S_lt β hβ) fun h => by
   obtain ⟨k, hk, hg⟩ := hnotL β h
   exact (hs.at_ok _ _ β (hlk k hk).1 (hlk k hk).2 hg).2.2 hβ
  have hsz := hbel.size
  have hle := hs.below.size
  have hng := fun c => Ks (f := nu ls ns) (bx := st.bx) (ns := ns) (rv := rv) (c := c) hns hnd
  have hbg := K2 (f := nu ls ns) (bx := st.bx) (r := newB (nu ls ns) ns rv) (ls := ls) (lent := lent) (ch := ch) hll hln hch (fun c hc => (hng c).1 (hlsns c hc)) hlb
  have hblk : ∀ c k, A8 st.bx (FM (nu ls ns) ls lent ch (newB (nu ls ns) ns rv)) c = some k →
    (c ∉ ns ∧ c ∉ ls ∧ st.bx c = some k) ∨ (∃ m x, m < ns.length ∧ nm ns m = c ∧ rv[m]? = some x ∧ k = x.ren (nu ls ns)) ∨ (∃ m x, m < ls.length ∧ nm ls m = c ∧ lent[m]? = some x ∧ k = x.2.ren (nu ls ns)) := by
   intro c k hc
   by_cases hm : c ∈ ls
   ·obtain ⟨m, hm1, hm2⟩ := I0 hm
    have hlx : lent[m]? = some (lent[m]'(by omega)) := by simp [show m < lent.length from by omega]
    have := hbg.2 m _ hlx
    rw [hm2, hc] at this
    exact .inr (.inr ⟨m, _, hm1, hm2, hlx, by simpa using this⟩)
   ·rw [hbg.1 c hm] at hc
    by_cases hm2 : c ∈ ns
    ·obtain ⟨m, hm1, hm3⟩ := I0 hm2
     have hrx : rv[m]? = some (rv[m]'(by omega)) := by simp [show m < rv.length from by omega]
     have := (hng c).2 m _ hrx
     rw [hm3, hc] at this
     exact .inr (.inl ⟨m, _, hm1, hm3, hrx, by simpa using this⟩)
    ·rw [(hng c).1 hm2] at hc; exact .inl ⟨hm2, hm, hc⟩
  have hdom : ∀ b, Ey lent.length rv.length b = true → (A8 st.bx (FM (nu ls ns) ls lent ch (newB (nu ls ns) ns rv)) (nu ls ns b)).isSome = true := by
   intro b hb
   unfold Ey at hb
   split at hb
   ·rename_i h
    obtain ⟨k, _, rfl⟩ := GK h
    rw [Nat.blt_eq] at hb
    have hk : k < lent.length := by omega
    rw [Di (by omega), hbg.2 k _ (show lent[k]? = some lent[k] by simp [hk])]; rfl
   ·rename_i h
    rw [Nat.blt_eq] at hb
    have hni : nm ns b ∉ ls := fun hm => hlsns _ hm (Dg (by omega))
    rw [GX (by omega), hbg.1 _ hni, (hng (nm ns b)).2 b _ (show rv[b]? = some rv[b] by simp [hb])]; rfl
  have hren : ∀ l : List Nat, EZ lent.length rv.length l = true → ∀ b, b ∈ l → Ey lent.length rv.length b = true := fun l h b hb => List.all_eq_true.1 h b hb
  have hrenB : ∀ (k : Bg) b, b ∈ (k.ren (nu ls ns)).names → ∃ b0, b0 ∈ k.names ∧ b = nu ls ns b0 := by
   intro k b hb
   cases k with
   | box cs =>
    obtain ⟨c, hc, hb⟩ := AU.1 hb
    obtain ⟨c0, h0, rfl⟩ := List.mem_map.1 hc
    obtain ⟨b0, h1, h2⟩ := H1 hb
    exact ⟨b0, AU.2 ⟨c0, h0, h1⟩, h2⟩
   | vec e rows => cases hb
   | mp es => cases hb
   | dvec e cols rs => cases hb
   | pvec n e cols rs => cases hb
   | hol e cols i0 k0 c rs => exact ⟨c, by simp [Bg.names], by simpa [Bg.ren, Bg.names] using hb⟩
   | gone => cases hb
  have hhasN : ∀ m β, m < ns.length → (G2.has (nm ns m) β ↔ G'.has m β) := fun m β hm => by
   have hmd : Ey lent.length rv.length m = true := by
    unfold Ey; rw [GP (show m < 90000 by omega) (Nat.le_refl _), if_neg (by simp), Nat.blt_eq]; omega
   have := hvia.has (β := β) hmd
   rwa [GX (by omega)] at this
  have key : CZ P X G2 ⟨st.env, A8 st.bx (FM (nu ls ns) ls lent ch (newB (nu ls ns) ns rv))⟩ a w' := by
   refine hs.frame (fun c hc => JR hc) hext hwS ?_ ?_ ?_ ?_ ?_ ?_ (fun b hb => by
    have : b ∉ ns := fun hm => by rw [hndl.2 b hm] at hb; cases hb
    simp only [G2]; rw [if_neg this, if_neg this, if_neg this]; exact ⟨rfl, rfl, rfl⟩)
   ·intro c k hc
    rcases hblk c k hc with ⟨_, h0, h1⟩ | ⟨m, x, h1, h2, h3, h4⟩ | ⟨m, x, h1, h2, h3, h4⟩
    ·refine .inl ⟨h1, fun β hr hβ => hbel.block β (hs.at_ok c k β h1 hr hβ).2.1 fun hL => ?_⟩
     obtain ⟨j, hj, hg⟩ := hnotL β hL
     exact h0 ((hs.at_inj _ _ _ _ β h1 (hlk j hj).1 hr (hlk j hj).2 hβ hg) ▸ Dg (by omega))
    ·subst h4
     have hmd : Ey lent.length rv.length m = true := by
      unfold Ey; rw [GP (show m < 90000 by omega) (Nat.le_refl _), if_neg (by simp), Nat.blt_eq]; omega
     have hxn := hren _ (List.all_eq_true.1 hnmV x (lM h3))
     refine .inr ⟨?_, fun c' hc' => ?_⟩
     ·have := (hvec m x h3).ren hvia hmd hxn
      rwa [GX (by omega), h2] at this
     ·obtain ⟨b0, hb0, rfl⟩ := hrenB x c' hc'
      exact hdom b0 (hxn b0 hb0)
    ·subst h4
     have hmd : Ey lent.length rv.length (90000 + m) = true := by
      unfold Ey; rw [Gz (by omega), if_pos rfl, Nat.blt_eq]; omega
     have hxn := hren _ (List.all_eq_true.1 hnmL x (lM h3))
     refine .inr ⟨?_, fun c' hc' => ?_⟩
     ·have := (hpost m x h3).ren hvia hmd hxn
      rwa [Di (by omega), h2] at this
     ·obtain ⟨b0, hb0, rfl⟩ := hrenB x.2 c' hc'
      exact hdom b0 (hxn b0 hb0)
   ·intro c k β hc hr hβ
    rcases hblk c k hc with ⟨h0, _, h1⟩ | ⟨m, x, h1, h2, h3, h4⟩ | ⟨m, x, h1, h2, h3, h4⟩
    ·have hβ := (hext.has (by rw [h1]; rfl)).1 hβ
     have := hs.at_ok c k β h1 hr hβ
     refine ⟨this.1, by omega, fun h => ?_⟩
     rcases hS2 β h with h | h
     ·exact this.2.2 h
     ·omega
    ·rw [← h2, hhasN m β h1] at hβ
     have := hvat m β (by omega) hβ
     exact ⟨.new (by omega), this.2.1, this.2.2⟩
    ·subst h2
     have h5 := hlk m (by omega)
     have hβ := (hext.has (by rw [h5.1]; rfl)).1 hβ
     have := hs.at_ok _ _ β h5.1 h5.2 hβ
     refine ⟨this.1, by omega, hlS m β (by omega) ?_⟩
     have h6 := hsame m (by omega)
     unfold Gh.has at hβ ⊢
     rw [h6.1, h6.2.2]
     simp only [Gc]; rw [Di (by omega)]; exact hβ
   ·intro c c' k k' β hc hc' hr hr' hβ hβ'
    have old : ∀ c k, A8 st.bx (FM (nu ls ns) ls lent ch (newB (nu ls ns) ns rv)) c = some k → k.real = true → G2.has c β → (∃ k0, st.bx c = some k0 ∧ k0.real = true ∧ G.has c β) ∨ ∃ m, m < ns.length ∧ nm ns m = c ∧ G'.has m β := by
     intro c k hc hr hβ
     rcases hblk c k hc with ⟨h0, _, h1⟩ | ⟨m, x, h1, h2, h3, h4⟩ | ⟨m, x, h1, h2, h3, h4⟩
     ·exact .inl ⟨k, h1, hr, (hext.has (by rw [h1]; rfl)).1 hβ⟩
     ·rw [← h2, hhasN m β h1] at hβ
      exact .inr ⟨m, h1, h2, hβ⟩
     ·subst h2
      have h5 := hlk m (by omega)
      exact .inl ⟨_, h5.1, h5.2, (hext.has (by rw [h5.1]; rfl)).1 hβ⟩
    rcases old c k hc hr hβ with ⟨k0, h1, h2, h3⟩ | ⟨m, h1, h2, h3⟩ <;> rcases old c' k' hc' hr' hβ' with ⟨k0', h1', h2', h3'⟩ | ⟨m', h1', h2', h3'⟩
    ·exact hs.at_inj c c' k0 k0' β h1 h1' h2 h2' h3 h3'
    ·have h5 := hvat m' β (by omega) h3'
     have h6 := (hs.at_ok c k0 β h1 h2 h3).2.1
     omega
    ·have h5 := hvat m β (by omega) h3
     have h6 := (hs.at_ok c' k0' β h1' h2' h3').2.1
     omega
    ·have := hvinj m m' β (by omega) (by omega) h3 h3'
     rw [← h2, ← h2', this]
   ·intro β h
    rcases hS2 β h with h | h
    ·have := hs.S_lt β h; omega
    ·exact h.2
   ·intro β h
    rcases hS2 β h with h | h
    ·exact hs.S_src β h
    ·exact .inr (by omega)
   ·refine hs.below.trans ⟨hbel.os, hbel.tape, hbel.output, hbel.size, hbel.drawn, fun k hk hnl => hbel.block k (by omega) fun hL => ?_⟩
    obtain ⟨j, hj, hg⟩ := hnotL k hL
    rcases (hs.at_ok _ _ k (hlk j hj).1 (hlk j hj).2 hg).1.2 with h | h
    ·omega
    ·exact hnl h
  refine hK _ _ ⟨G2, key.put (some s) (some (res.ren (nu ls ns))) v (by intro t e; cases e; exact hn) ?_⟩
  rintro d ⟨⟩
  refine ⟨hres'.ren hvia (hren _ hnmR), fun b hb => ?_⟩
  obtain ⟨b0, h1, h2⟩ := HZ hb
  rw [h2]
  exact hdom b0 (hren _ hnmR b0 h1)
theorem LJ {f s : Nat} {xs : List Operand} {ds0 ds : List D} {lent : List (Bg × Bg)} {rv : List Bg} {res : D} {ts : Array TypeId} (ls ns : List Nat) (ch : List Bool) (hc : C8 P f ds lent rv res) (hat : At st.env ops i X.n (.call ⟨.value (.func f), xs.toArray, ts⟩) s gs)
  (hf : AD P f = true) (hl : xs.length = ds0.length) (hx : EF st.env (F8 xs ds0)) (hds : ds0.map D.nrm = ds.map (D.ren (nu ls ns)))
  (hll : ls.length = lent.length) (hln : ls.Nodup) (hlb : FX st.bx (Im (nu ls ns) ls lent)) (hns : ns.length = rv.length) (hndl : JZ ns) (hnew : KS st.bx ns) (hch : Pm lent ch)
  (hlim : (Nat.ble lent.length 1000 && Nat.ble rv.length 1000) = true) (hre : (lent.all fun x => x.1.real && x.2.real) = true)
  (hnm : (EZ lent.length rv.length res.names && (lent.all fun x => EZ lent.length rv.length x.2.names) && rv.all fun x => EZ lent.length rv.length x.names) = true)
  (next : A6 P X ops dr Q r (i + 1) (Cc.upd ⟨gs ++ F8 xs ds0, Im (nu ls ns) ls lent, some s, some (res.ren (nu ls ns)), FM (nu ls ns) ls lent ch (newB (nu ls ns) ns rv), ns⟩ st) ((i, ⟨gs ++ F8 xs ds0, Im (nu ls ns) ls lent, some s, some (res.ren (nu ls ns)), FM (nu ls ns) ls lent ch (newB (nu ls ns) ns rv), ns⟩) :: log)) : A6 P X ops dr Q (r + 1) i st log := by
 obtain ⟨o, ho, hop, hd, hn, hg, hgp⟩ := hat.out
 exact A6.step next ⟨Al.2 ⟨hgp, hx⟩, hlb, hnew⟩ (OY ls ns ch hc hat hf hl hds hll hln hns hndl hch hlim hre hnm)
end run
end Go.Lift
namespace Go.Lift
open List renaming mem_of_getElem? → lM
open Go.RowKit
variable {P : Program} {X : G7} {ops : Array Oper}
def Gq {α : Type} (xs : List α) (q : Nat) (ys : List α) : List α := xs.take q ++ ys ++ xs.drop (q + ys.length)
theorem FY {α : Type} {xs ys : List α} {q : Nat} (h : q + ys.length ≤ xs.length) : (Gq xs q ys).length = xs.length := by
 unfold Gq; simp; omega
theorem QL {α : Type} {xs ys : List α} {q : Nat} (h : q + ys.length ≤ xs.length) (i : Nat) : (Gq xs q ys)[i]? = if q ≤ i ∧ i < q + ys.length then ys[i - q]? else xs[i]? := by
 unfold Gq
 by_cases h1 : i < q
 ·rw [if_neg (by omega), List.append_assoc, List.getElem?_append_left (by simp; omega), List.getElem?_take_of_lt h1]
 ·by_cases h2 : i < q + ys.length
  ·rw [if_pos (by omega), List.getElem?_append_left (by simp; omega), List.getElem?_append_right (by simp; omega)]
   congr 1; simp; omega
  ·rw [if_neg (by omega), List.getElem?_append_right (by simp; omega), List.getElem?_drop]
   congr 1; simp; omega
theorem Ov {α β : Type} (f : α → β) (xs ys : List α) (q : Nat) : Gq (xs.map f) q (ys.map f) = (Gq xs q ys).map f := by
 unfold Gq; simp
inductive Kg : D → Nat → Nat → List (List T) → Nat → Nat → Prop where
 | own (b e : Nat) (rows : List (List T)) : Kg (.e (.one (.own b))) b e rows 0 rows.length
 | view (b e : Nat) (rows : List (List T)) (lo len : Nat) (h : lo + len ≤ rows.length) : Kg (.e (.one (.view b e lo len))) b e rows lo len
inductive MV : D → List (Nat × Bg) → Nat → List (List T) → Prop where
 | of {d : D} {rb : List (Nat × Bg)} {e : Nat} {rows : List (List T)} (h : Ui d rb e rows) : MV d rb e rows
 | view (b e : Nat) (rows : List (List T)) (lo len : Nat) (h : lo + len ≤ rows.length) : MV (.e (.one (.view b e lo len))) [(b, .vec e rows)] e ((rows.drop lo).take len)
theorem KM (q : Addr) : q.add 0 = q := by unfold Addr.add; simp
theorem KZ {G : Gh} {w : World} {b e : Nat} {rows : List (List T)} (h : EP P w G b (.vec e rows)) : ∃ a cap, G.hd b = .slice a rows.length cap ∧ rows.length ≤ cap ∧
  (0 < cap → ∃ β arr el, a = some ⟨β, 0, none⟩ ∧ G.loc b = some β ∧ w.heap[β]? = some (.cells arr el (0, 0)) ∧ arr.size = cap * e ∧ Df w G.S arr e 0 rows) := by
 rcases h with ⟨a, h1, h2, _⟩ | ⟨β, cap, arr, el, h0, h1, h2, h3, h4, h5, h6⟩
 ·subst h2; exact ⟨a, 0, h1, Nat.le_refl _, fun h => by cases h⟩
 ·exact ⟨_, cap, h1, h3, fun _ => ⟨β, arr, el, rfl, h0, h2, h4, by rw [h4, Nat.zero_add]; exact Nat.mul_le_mul_right e h3, h5, fun i row j t hi hj => by rw [Nat.zero_add]; exact h6 i row j t hi hj⟩⟩
section run
variable {dr : Bool} {Q : St → Prop} {r i : Nat} {st : St} {log : List (Nat × Cc)} {o : Oper} {gs : List (Operand × D)}
theorem CZ.dstV {G : Gh} {a : Act} {w : World} (hs : CZ P X G st a w) {x : Operand} {d : D} {b e lo len : Nat} {rows : List (List T)} (hx : Lift.opd st.env x = some d) (h : Kg d b e rows lo len) (hb : st.bx b = some (.vec e rows)) :
  ∃ p cap', a.eval x = .slice p len cap' ∧ rows.length - lo ≤ cap' ∧ lo + len ≤ rows.length ∧
   (lo < rows.length → ∃ β cap arr el, G.loc b = some β ∧ G.hd b = .slice (some ⟨β, 0, none⟩) rows.length cap ∧ rows.length ≤ cap ∧ p = some ⟨β, lo * e, none⟩ ∧ w.heap[β]? = some (.cells arr el (0, 0)) ∧ arr.size = cap * e ∧ Df w G.S arr e 0 rows) := by
 obtain ⟨a0, cap, h1, h2, h3⟩ := KZ (hs.blk b _ hb)
 have hR := hs.opd hx
 cases h with
 | own =>
  obtain ⟨hR, _⟩ : Ed P w G (a.eval x) (.own b) := hR
  refine ⟨a0, cap, hR.trans h1, by omega, by omega, fun hlt => ?_⟩
  obtain ⟨β, arr, el, g1, g2, g3, g4, g5⟩ := h3 (by omega)
  subst g1
  exact ⟨β, cap, arr, el, g2, h1, h2, by simp, g3, g4, g5⟩
 | view _ _ _ _ _ h =>
  obtain ⟨a1, n1, cap1, p, k1, k2, k3, k4⟩ : Ed P w G (a.eval x) (.view b e lo len) := hR
  rw [h1] at k1
  cases k1
  refine ⟨p, cap - lo, k3, by omega, h, fun hlt => ?_⟩
  obtain ⟨β, arr, el, g1, g2, g3, g4, g5⟩ := h3 (by omega)
  subst g1
  refine ⟨β, cap, arr, el, g2, h1, h2, ?_, g3, g4, g5⟩
  rw [k4 (by omega)]
  simp [Addr.add_mk]
theorem CZ.srcW {G : Gh} {a : Act} {w : World} (hs : CZ P X G st a w) {x : Operand} {d : D} {rb : List (Nat × Bg)} {e : Nat} {rows : List (List T)} (hx : Lift.opd st.env x = some d) (h : MV d rb e rows) (hb : FX st.bx rb) :
  ∃ p cap, a.eval x = .slice p rows.length cap ∧ (rows = [] ∨ ∃ β off arr el fz, p = some ⟨β, off, none⟩ ∧ w.heap[β]? = some (.cells arr el fz) ∧ Df w G.S arr e off rows) := by
 cases h with
 | of h =>
  have hR := hs.opd hx
  cases h with
  | own b e rows =>
   obtain ⟨hR, _⟩ : Ed P w G (a.eval x) (.own b) := hR
   obtain ⟨a0, cap, h1, h2, h3⟩ := KZ (hs.blk b _ hb.1)
   refine ⟨a0, cap, hR.trans h1, ?_⟩
   cases rows with
   | nil => exact .inl rfl
   | cons y ys =>
    obtain ⟨β, arr, el, g1, g2, g3, g4, g5⟩ := h3 (by simp at h2; omega)
    exact .inr ⟨β, 0, arr, el, (0, 0), g1, g3, g5⟩
  | sl e rows hrow =>
   have hR : C1 w G.S (a.eval x) (.sl rows) := hR
   generalize a.eval x = v at hR
   cases hR with
   | nil a' cap => exact ⟨_, _, rfl, .inl rfl⟩
   | sl β off cap e' arr el' fz rows h1 h2 h3 h4 h5 h6 =>
    refine ⟨_, _, rfl, ?_⟩
    cases rows with
    | nil => exact .inl rfl
    | cons r0 rs =>
     have he : e' = e := by rw [← hrow 0 r0 rfl]; exact (h5 0 r0 rfl).symm
     subst he
     exact .inr ⟨β, off, arr, el', fz, rfl, h2, h4, h5, h6⟩
  | nil e =>
   have hR : C1 w G.S (a.eval x) .nil0 := hR
   generalize a.eval x = v at hR
   cases hR with
   | nil0 a' => exact ⟨_, _, rfl, .inl rfl⟩
 | view b _ rows lo len h =>
  obtain ⟨p, cap', h1, h2, h3, h4⟩ := hs.dstV hx (.view b e rows lo len h) hb.1
  have hlen : ((rows.drop lo).take len).length = len := by simp; omega
  refine ⟨p, cap', by rw [hlen]; exact h1, ?_⟩
  by_cases hz : len = 0
  ·exact .inl (by rw [hz, List.take_zero])
  ·obtain ⟨β, cap, arr, el, g1, g2, g3, g4, g5, g6, g7⟩ := h4 (by omega)
   refine .inr ⟨β, lo * e, arr, el, (0, 0), g4, g5, ?_, ?_, ?_⟩
   ·rw [hlen, g6, ← Nat.add_mul]; exact Nat.mul_le_mul_right e (by omega)
   ·intro i row hi
    have := AF hi
    rw [hlen] at this
    rw [List.getElem?_take_of_lt this, List.getElem?_drop] at hi
    exact g7.2.1 _ row hi
   ·intro i row j t hi hj
    have := AF hi
    rw [hlen] at this
    rw [List.getElem?_take_of_lt this, List.getElem?_drop] at hi
    have := g7.2.2 _ row j t hi hj
    rwa [Nat.zero_add, Nat.add_mul] at this
theorem Df.take {w : World} {S : Nat → Prop} {arr : Array Value} {e off n : Nat} {rows : List (List T)} (h : Df w S arr e off rows) : Df w S arr e off (rows.take n) := by
 refine ⟨?_, ?_, ?_⟩
 ·have := h.1
  have h2 : (rows.take n).length * e ≤ rows.length * e := Nat.mul_le_mul_right e (by simp; omega)
  omega
 ·intro i row hi
  have := AF hi
  simp at this
  rw [List.getElem?_take_of_lt (by omega)] at hi
  exact h.2.1 i row hi
 ·intro i row j t hi hj
  have := AF hi
  simp at this
  rw [List.getElem?_take_of_lt (by omega)] at hi
  exact h.2.2 i row j t hi hj
theorem Kc {w : World} {S : Nat → Prop} {p : Option Addr} {len cap e n : Nat} {rows : List (List T)} (hn : n ≤ rows.length) (h : rows = [] ∨ ∃ β off arr el fz, p = some ⟨β, off, none⟩ ∧ w.heap[β]? = some (.cells arr el fz) ∧ Df w S arr e off rows) :
  ∃ news, (Builtin.firstCells e n (.slice p len cap)).run P w = .ok news w ∧ Df w S news e 0 (rows.take n) ∧ news.size = n * e := by
 rcases h with h | ⟨β, off, arr, el, fz, h1, h2, h3⟩
 ·subst h
  have : n = 0 := by simpa using hn
  subst this
  obtain ⟨news, k1, k2, k3⟩ := EO (P := P) (w := w) (a := p) (len := len) (cap := cap) (e := e) (S := S)
  exact ⟨news, k1 w rfl, by simpa using k2, by simpa using k3⟩
 ·subst h1
  have hl : (rows.take n).length = n := by simp; omega
  obtain ⟨news, k1, k2, k3⟩ := Gk (P := P) (len := len) (cap := cap) h2 (h3.take (n := n))
  rw [hl] at k1 k3
  exact ⟨news, k1 w rfl, k2, k3⟩
theorem L8 {G : Gh} {w : World} {b e β cap q : Nat} {rows rows2 : List (List T)} {arr news : Array Value} {el : TypeId} (hlt : β < w.heap.size) (hnS : ¬ G.S β) (h0 : G.loc b = some β) (h1 : G.hd b = .slice (some ⟨β, 0, none⟩) rows.length cap) (h3 : rows.length ≤ cap) (h4 : arr.size = cap * e) (h5 : Df w G.S arr e 0 rows)
  (hn : Df w G.S news e 0 rows2) (hns : news.size = rows2.length * e) (hq : q + rows2.length ≤ rows.length) :
  EP P (GN w β (.cells (E7 arr (q * e) news.toList) el (0, 0))) G b (.vec e (Gq rows q rows2)) := by
 have hle : q * e + rows2.length * e ≤ cap * e := by rw [← Nat.add_mul]; exact Nat.mul_le_mul_right e (by omega)
 have hS : ∀ γ, G.S γ → (GN w β (.cells (E7 arr (q * e) news.toList) el (0, 0))).heap[γ]? = w.heap[γ]? := fun γ hγ => by
  rw [Ep, if_neg (fun (h : γ = β ∧ β < w.heap.size) => hnS (h.1 ▸ hγ))]
 have hrl : ∀ (i : Nat) (row : List T), (Gq rows q rows2)[i]? = some row → row.length = e := by
  intro i row hi
  rw [QL hq] at hi
  split at hi
  ·exact hn.2.1 _ row hi
  ·exact h5.2.1 _ row hi
 refine .inr ⟨β, cap, E7 arr (q * e) news.toList, el, h0, by rw [FY hq]; exact h1, by rw [Ep, if_pos ⟨rfl, hlt⟩], by rw [FY hq]; exact h3, by rw [GG, h4], hrl, ?_⟩
 intro i row j t hi hj
 have hj' := AF hj
 have hre := hrl i row hi
 rw [QL hq] at hi
 rw [Fk _ _ _ _ (by simp; omega)]
 simp only [Array.length_toList, hns]
 split at hi
 ·rename_i hin
  have hle2 : (i - q) * e + e ≤ rows2.length * e := by rw [← Nat.succ_mul]; exact Nat.mul_le_mul_right e (by omega)
  have hsp : i * e = q * e + (i - q) * e := by rw [← Nat.add_mul]; congr 1; omega
  rw [if_pos (by omega)]
  have := hn.2.2 _ row j t hi hj
  rw [Nat.zero_add] at this
  have h6 : (news.toList[i * e + j - q * e]?).getD undef = Au news ((i - q) * e + j) := by
   rw [show i * e + j - q * e = (i - q) * e + j from by omega]
   unfold Au; simp
  rw [h6]
  exact this.mono hS fun _ h => h
 ·rename_i hin
  rw [if_neg]
  ·have := h5.2.2 _ row j t hi hj
   rw [Nat.zero_add] at this
   exact this.mono hS fun _ h => h
  ·rintro ⟨k1, k2⟩
   by_cases hiq : i < q
   ·have : i * e + e ≤ q * e := by rw [← Nat.succ_mul]; exact Nat.mul_le_mul_right e hiq
    omega
   ·have : q * e + rows2.length * e ≤ i * e := by rw [← Nat.add_mul]; exact Nat.mul_le_mul_right e (by omega)
    omega
theorem RS {x : Operand} {t el s e l h b lo0 len : Nat} {lo hi : Option Operand} {rl rh : List (Operand × D)} {rows : List (List T)} {d : D} (hat : At st.env ops i X.n (.slice t x lo hi none) s gs)
  (hx : opd st.env x = some d) (hD : Kg d b e rows lo0 len) (hb : st.bx b = some (.vec e rows)) (ht : sliceB P t el = true) (he : Gs P el e = true) (hlo : Rs lo 0 l rl) (hhi : Rs hi len h rh) (h1 : EF st.env rl) (h2 : EF st.env rh) (hlh : l ≤ h) (hhl : lo0 + h ≤ rows.length)
  (next : A6 P X ops dr Q r (i + 1) (Cc.upd ⟨gs ++ ((x, d) :: (rl ++ rh)), [(b, .vec e rows)], some s, some (.e (.one (.view b e (lo0 + l) (h - l)))), [], []⟩ st) ((i, ⟨gs ++ ((x, d) :: (rl ++ rh)), [(b, .vec e rows)], some s, some (.e (.one (.view b e (lo0 + l) (h - l)))), [], []⟩) :: log)) : A6 P X ops dr Q (r + 1) i st log := by
 obtain ⟨o, ho, hop, hd, hn, hg, hgp⟩ := hat.out
 refine A6.step next ⟨Al.2 ⟨hgp, hx, Al.2 ⟨h1, h2⟩⟩, ⟨hb, trivial⟩, trivial⟩ (LR.value ho hg rfl hd.symm (C5 hd hn) ?_)
 intro G st a w hs hpre
 obtain ⟨hx, h12⟩ := (Al.1 hpre.r).2
 obtain ⟨h1, h2⟩ := Al.1 h12
 have hb := hpre.b.1
 -- the header of the whole
 obtain ⟨a0, cap, k1, k2, k3⟩ := KZ (hs.blk b _ hb)
 have hv : ∃ p, a.eval x = .slice p len (cap - lo0) ∧ lo0 + len ≤ rows.length ∧ (lo0 < cap → p = a0.map fun q => q.add (lo0 * e)) := by
  have hR := hs.opd hx
  cases hD with
  | own =>
   obtain ⟨hR, _⟩ : Ed P w G (a.eval x) (.own b) := hR
   exact ⟨a0, hR.trans k1, by omega, fun _ => by cases a0 <;> simp [KM]⟩
  | view _ _ _ _ _ h' =>
   obtain ⟨a1, n1, cap1, p, g1, g2, g3, g4⟩ : Ed P w G (a.eval x) (.view b e lo0 len) := hR
   rw [k1] at g1; cases g1
   exact ⟨p, g3, h', g4⟩
 obtain ⟨p, hv1, hv2, hv3⟩ := hv
 refine ⟨.slice (if cap - lo0 = l then p else p.map (·.add (l * e))) (h - l) (cap - lo0 - l), w, G, ?_, hs, ?_⟩
 ·simp only [execOp, hop]
  refine Ak (a := .slice (if cap - lo0 = l then p else p.map (·.add (l * e))) (h - l) (cap - lo0 - l)) (w1 := w) ?_ rfl
  rw [hv1]
  exact IZ (a := a) hs ht he hlo hhi h1 h2 hlh (by omega)
 ·rintro d' ⟨⟩
  refine ⟨⟨a0, rows.length, cap, _, k1, by omega, by rw [show cap - lo0 - l = cap - (lo0 + l) from by omega], fun hlt => ?_⟩, fun b' hb' => ?_⟩
  ·rw [if_neg (by omega), hv3 (by omega)]
   obtain ⟨β, arr, el', g1, _⟩ := k3 (by omega)
   subst g1
   simp only [Option.map_some, Addr.add_mk, Nat.add_mul, Nat.zero_add]
  ·simp [D.names, E.names, C.names] at hb'
   subst hb'
   simp [A8, hb]
theorem R4 {x yl yh ym : Operand} {t el s e b : Nat} {rows : List (List T)} {kl kh km : IntKind} {vl vh vm : Int} (hat : At st.env ops i X.n (.slice t x (some yl) (some yh) (some ym)) s gs)
  (hx : opd st.env x = some (.e (.one (.own b)))) (hb : st.bx b = some (.vec e rows)) (ht : sliceB P t el = true) (he : Gs P el e = true) (h1 : opd st.env yl = some (vD (.int kl vl))) (h2 : opd st.env yh = some (vD (.int kh vh))) (h3 : opd st.env ym = some (vD (.int km vm)))
  (g1 : 0 ≤ vl) (g2 : vl.toNat ≤ vh.toNat) (g3 : 0 ≤ vh) (g4 : vh.toNat ≤ vm.toNat) (g5 : 0 ≤ vm) (g6 : vm.toNat ≤ rows.length)
  (next : A6 P X ops dr Q r (i + 1) (Cc.upd ⟨gs ++ [(x, .e (.one (.own b))), (yl, vD (.int kl vl)), (yh, vD (.int kh vh)), (ym, vD (.int km vm))], [(b, .vec e rows)], some s, some (.e (.one .any)), [], []⟩ st) ((i, ⟨gs ++ [(x, .e (.one (.own b))), (yl, vD (.int kl vl)), (yh, vD (.int kh vh)), (ym, vD (.int km vm))], [(b, .vec e rows)], some s, some (.e (.one .any)), [], []⟩) :: log)) : A6 P X ops dr Q (r + 1) i st log := by
 obtain ⟨o, ho, hop, hd, hn, hg, hgp⟩ := hat.out
 refine A6.step next ⟨Al.2 ⟨hgp, hx, h1, h2, h3, trivial⟩, ⟨hb, trivial⟩, trivial⟩ (LR.value ho hg rfl hd.symm (C5 hd hn) ?_)
 intro G st a w hs hpre
 obtain ⟨hx, h1, h2, h3, _⟩ := (Al.1 hpre.r).2
 have hb := hpre.b.1
 obtain ⟨a0, cap, k1, k2, k3⟩ := KZ (hs.blk b _ hb)
 obtain ⟨hR, _⟩ : Ed P w G (a.eval x) (.own b) := hs.opd hx
 have e1 : a.eval yl = .int kl vl := Ef (hs.opd h1 : C1 w G.S (a.eval yl) (.val _))
 have e2 : a.eval yh = .int kh vh := Ef (hs.opd h2 : C1 w G.S (a.eval yh) (.val _))
 have e3 : a.eval ym = .int km vm := Ef (hs.opd h3 : C1 w G.S (a.eval ym) (.val _))
 refine ⟨.slice (if vm.toNat = vl.toNat then a0 else a0.map (·.add (vl.toNat * e))) (vh.toNat - vl.toNat) (vm.toNat - vl.toNat), w, G, ?_, hs, ?_⟩
 ·simp only [execOp, hop]
  refine Ak (w1 := w) (a := .slice (if vm.toNat = vl.toNat then a0 else a0.map (·.add (vl.toNat * e))) (vh.toNat - vl.toNat) (vm.toNat - vl.toNat)) ?_ rfl
  unfold sliceB at ht
  split at ht
  ·rename_i e' hu
   have : e' = el := by simpa using ht
   subst this
   unfold Instr.sliceAt
   refine Ak (AK hu w) ?_
   unfold Instr.slice
   rw [hR, k1]
   refine Ak (AK hu w) ?_
   refine Ak (a := (vl.toNat, vh.toNat, vm.toNat)) (w1 := w) ?_ ?_
   ·unfold Instr.sliceBounds
    simp only [Option.map_some, e1, e2, e3, if_true, Option.isSome_some]
    refine Ak (Fb g5 (by omega) w) ?_
    refine Ak (Fb g3 g4 w) ?_
    exact Ak (Fb g1 g2 w) rfl
   ·exact Ak (DM he w) rfl
  ·cases ht
 ·rintro d' ⟨⟩
  exact ⟨rfl, fun b' hb' => by cases hb'⟩
theorem Vk {x : Operand} {s t el b e lo len : Nat} (hat : At st.env ops i X.n (.call ⟨.builtin .len, #[x], #[t]⟩) s gs)
  (hx : opd st.env x = some (.e (.one (.view b e lo len)))) (ht : sliceB P t el = true)
  (next : A6 P X ops dr Q r (i + 1) (Cc.upd ⟨gs ++ [(x, .e (.one (.view b e lo len)))], [], some s, some (vD (goInt len)), [], []⟩ st) ((i, ⟨gs ++ [(x, .e (.one (.view b e lo len)))], [], some s, some (vD (goInt len)), [], []⟩) :: log)) : A6 P X ops dr Q (r + 1) i st log := by
 obtain ⟨o, ho, hop, hd, hn, hg, hgp⟩ := hat.out
 refine A6.step next ⟨Al.2 ⟨hgp, hx, trivial⟩, trivial, trivial⟩ (LR.value ho hg rfl hd.symm (C5 hd hn) ?_)
 intro G st a w hs hpre
 obtain ⟨hx, _⟩ := (Al.1 hpre.r).2
 obtain ⟨a1, n1, cap1, p, k1, k2, k3, k4⟩ : Ed P w G (a.eval x) (.view b e lo len) := hs.opd hx
 refine ⟨goInt len, w, G, ?_, hs, ?_⟩
 ·simp only [execOp, hop]
  refine Fm fun cs => ?_
  simp only [List.map_toArray, List.map_cons, List.map_nil, builtin, k3]
  exact Ak (Kp ht) rfl
 ·rintro d ⟨⟩
  exact ⟨.val _ rfl, fun b hb => by cases hb⟩
theorem Rx {t t2 el e : Nat} {w : World} {p p2 : Option Addr} {dl dc n2 c2 : Nat} {news : Array Value} {ty : TypeId} (ht : sliceB P t el = true) (he : Gs P el e = true) (hnew : (Builtin.firstCells e (Nat.min n2 dl) (.slice p2 n2 c2)).run P w = .ok news w) {w' : World}
  (hst : ∀ q, p = some q → (storeCells q news.toList).run P w = .ok () w') (hno : p = none → w' = w) : (Builtin.copy_ #[t, t2] ty #[.slice p dl dc, .slice p2 n2 c2]).run P w = .ok (goInt (Nat.min n2 dl)) w' := by
 unfold sliceB at ht
 split at ht
 ·rename_i e' hu
  have : e' = el := by simpa using ht
  subst this
  unfold Builtin.copy_
  refine Ak (AK hu w) ?_
  refine Ak (a := n2) (w1 := w) rfl ?_
  refine Ak (DM he w) ?_
  refine Ak hnew ?_
  cases p with
  | none => rw [hno rfl]; rfl
  | some q => exact Ak (hst q rfl) rfl
 ·cases ht
theorem UD {x y : Operand} {t t2 el s e b lo len : Nat} {d d2 : D} {rb2 : List (Nat × Bg)} {rows rows2 rows' : List (List T)} (hat : At st.env ops i X.n (.call ⟨.builtin .copy, #[x, y], #[t, t2]⟩) s gs)
  (hx : opd st.env x = some d) (hD : Kg d b e rows lo len) (hb : st.bx b = some (.vec e rows)) (hy : opd st.env y = some d2) (hS : MV d2 rb2 e rows2) (hb2 : FX st.bx rb2) (ht : sliceB P t el = true) (he : Gs P el e = true) (hr : Gq rows lo (rows2.take (Nat.min rows2.length len)) = rows')
  (next : A6 P X ops dr Q r (i + 1) (Cc.upd ⟨gs ++ [(x, d), (y, d2)], (b, .vec e rows) :: rb2, some s, some (vD (goInt (Nat.min rows2.length len))), [(b, .vec e rows')], []⟩ st) ((i, ⟨gs ++ [(x, d), (y, d2)], (b, .vec e rows) :: rb2, some s, some (vD (goInt (Nat.min rows2.length len))), [(b, .vec e rows')], []⟩) :: log)) : A6 P X ops dr Q (r + 1) i st log := by
 obtain ⟨o, ho, hop, hd, hn, hg, hgp⟩ := hat.out
 refine A6.step next ⟨Al.2 ⟨hgp, hx, hy, trivial⟩, ⟨hb, hb2⟩, trivial⟩ (LR.value ho hg rfl hd.symm (C5 hd hn) ?_)
 intro G st a w hs hpre
 obtain ⟨hx, hy, _⟩ := (Al.1 hpre.r).2
 obtain ⟨hb, hb2⟩ := hpre.b
 subst hr
 obtain ⟨p, cap', h1, h2, h3, h4⟩ := hs.dstV hx hD hb
 obtain ⟨p2, cap2, k1, k2⟩ := hs.srcW hy hS hb2
 have hmin : Nat.min rows2.length len ≤ rows2.length := Nat.min_le_left _ _
 have hmin2 : Nat.min rows2.length len ≤ len := Nat.min_le_right _ _
 obtain ⟨news, n1, n2, n3⟩ := Kc (P := P) (len := rows2.length) (cap := cap2) hmin k2
 have hl2 : (rows2.take (Nat.min rows2.length len)).length = Nat.min rows2.length len := by rw [List.length_take]; exact Nat.min_eq_left hmin
 have hrun : ∀ w', (∀ q, p = some q → (storeCells q news.toList).run P w = .ok () w') → (p = none → w' = w) → (execOp a.eval o).run P w = .ok (.value (goInt (Nat.min rows2.length len))) w' := fun w' g1 g2 => by
  simp only [execOp, hop]
  refine Fm fun cs => ?_
  simp only [List.map_toArray, List.map_cons, List.map_nil, builtin, h1, k1]
  exact Ak (Rx ht he n1 g1 g2) rfl
 have fin : ∀ d', some (vD (goInt (Nat.min rows2.length len))) = some d' → ∀ w' (G' : Gh), F9 P w' G' (goInt (Nat.min rows2.length len)) d' ∧ ∀ c, c ∈ d'.names → (A8 st.bx [(b, .vec e (Gq rows lo (rows2.take (Nat.min rows2.length len))))] c).isSome = true := fun d' hd' w' G' => by
  cases hd'; exact ⟨.val _ rfl, fun c hc => by cases hc⟩
 by_cases hlt : lo < rows.length
 ·obtain ⟨β, cap, arr, el', g1, g2, g3, g4, g5, g6, g7⟩ := h4 hlt
  subst g4
  have hat := hs.at_ok b _ β hb rfl (.inl g1)
  have hle : lo * e + Nat.min rows2.length len * e ≤ arr.size := by rw [g6, ← Nat.add_mul]; exact Nat.mul_le_mul_right e (by omega)
  have hst := Et (P := P) (β := β) (el := el') news.toList w (lo * e) 0 arr g5 (by simp [n3]; omega) (Df.ones n2 (by rw [n3, hl2]))
  rw [Nat.add_zero] at hst
  refine ⟨_, _, G, hrun _ (fun q hq => by cases hq; exact hst) (fun h => by cases h), ?_, fun d' hd' => fin d' hd' _ _⟩
  exact hs.setB (b := b) (k0 := .vec e rows) hb rfl rfl (.inl g1) (L8 hat.2.1 hat.2.2 g1 g2 g3 g6 g7 n2 (by rw [n3, hl2]) (by rw [hl2]; omega)) (fun c hc => by cases hc)
 ·have hz : Nat.min rows2.length len = 0 := by omega
  have hn0 : news.toList = [] := List.eq_nil_of_length_eq_zero (by simp [n3, hz])
  have hsp : Gq rows lo (rows2.take (Nat.min rows2.length len)) = rows := by
   have : lo = rows.length := by omega
   rw [hz]; unfold Gq; simp [this]
  refine ⟨_, w, G, hrun w (fun q _ => by rw [hn0]; rfl) (fun _ => rfl), ?_, fun d' hd' => fin d' hd' _ _⟩
  have : (⟨st.env, A8 st.bx [(b, .vec e (Gq rows lo (rows2.take (Nat.min rows2.length len))))]⟩ : St) = st := by
   refine St.ext (fun _ => rfl) fun c => ?_
   simp only [A8]
   split
   ·rename_i e1; rw [e1, hsp, hb]
   ·rfl
  rw [this]; exact hs
theorem Q9 {x y : Operand} {t t2 el el2 s e b lo len : Nat} {d d2 : D} {rb2 : List (Nat × Bg)} {rows rows2 rows' : List (List T)} (hat : At st.env ops i X.n (.call ⟨.builtin .append, #[x, y], #[t, t2]⟩) s gs)
  (hx : opd st.env x = some d) (hD : Kg d b e rows lo len) (hb : st.bx b = some (.vec e rows)) (hy : opd st.env y = some d2) (hS : MV d2 rb2 e rows2) (hb2 : FX st.bx rb2)
  (ht : sliceB P t el = true) (ht2 : sliceB P t2 el2 = true) (he : Gs P el e = true) (hfit : lo + len + rows2.length ≤ rows.length) (hr : Gq rows (lo + len) rows2 = rows')
  (next : A6 P X ops dr Q r (i + 1) (Cc.upd ⟨gs ++ [(x, d), (y, d2)], (b, .vec e rows) :: rb2, some s, some (.e (.one (.view b e lo (len + rows2.length)))), [(b, .vec e rows')], []⟩ st) ((i, ⟨gs ++ [(x, d), (y, d2)], (b, .vec e rows) :: rb2, some s, some (.e (.one (.view b e lo (len + rows2.length)))), [(b, .vec e rows')], []⟩) :: log)) : A6 P X ops dr Q (r + 1) i st log := by
 obtain ⟨o, ho, hop, hd, hn, hg, hgp⟩ := hat.out
 refine A6.step next ⟨Al.2 ⟨hgp, hx, hy, trivial⟩, ⟨hb, hb2⟩, trivial⟩ (LR.value ho hg rfl hd.symm (C5 hd hn) ?_)
 intro G st a w hs hpre
 obtain ⟨hx, hy, _⟩ := (Al.1 hpre.r).2
 obtain ⟨hb, hb2⟩ := hpre.b
 subst hr
 -- the header of the whole
 obtain ⟨a0, cap0, q1, q2, q3⟩ := KZ (hs.blk b _ hb)
 have hlc0 : rows2.length ≠ 0 → lo < cap0 := fun h => by omega
 have hfe : (lo + len) * e + rows2.length * e ≤ cap0 * e := by rw [← Nat.add_mul]; exact Nat.mul_le_mul_right e (by omega)
 have hca : len + rows2.length ≤ cap0 - lo := by omega
 have hcb : lo + (len + rows2.length) ≤ cap0 := by omega
 have hv : ∃ p, a.eval x = .slice p len (cap0 - lo) ∧ (lo < cap0 → p = a0.map fun q => q.add (lo * e)) := by
  have hR := hs.opd hx
  cases hD with
  | own =>
   obtain ⟨hR, _⟩ : Ed P w G (a.eval x) (.own b) := hR
   exact ⟨a0, hR.trans q1, fun _ => by cases a0 <;> simp [KM]⟩
  | view _ _ _ _ _ h' =>
   obtain ⟨a1, n1, cap1, p, g1, g2, g3, g4⟩ : Ed P w G (a.eval x) (.view b e lo len) := hR
   rw [q1] at g1; cases g1
   exact ⟨p, g3, g4⟩
 obtain ⟨p, h1, hpa⟩ := hv
 obtain ⟨p2, cap2, k1, k2⟩ := hs.srcW hy hS hb2
 obtain ⟨news, n1, n2, n3⟩ := Kc (P := P) (len := rows2.length) (cap := cap2) (Nat.le_refl _) k2
 rw [List.take_length] at n2
 have hrun : ∀ w', (∀ q, p = some q → (storeCells (q.add (len * e)) news.toList).run P w = .ok () w') → (p = none → w' = w) → (execOp a.eval o).run P w = .ok (.value (.slice p (len + rows2.length) (cap0 - lo))) w' := fun w' g1 g2 => by
  simp only [execOp, hop]
  refine Fm fun cs => ?_
  simp only [List.map_toArray, List.map_cons, List.map_nil, builtin, h1, k1]
  refine Ak (a := .slice p (len + rows2.length) (cap0 - lo)) (w1 := w') ?_ rfl
  unfold sliceB at ht ht2
  split at ht
  ·rename_i e' hu
   split at ht2
   ·rename_i e2' hu2
    have : e' = el := by simpa using ht
    subst this
    unfold Builtin.append_
    refine Ak (AK hu w) ?_
    refine Ak (DM he w) ?_
    refine Ak (AK hu2 w) ?_
    refine Ak (a := false) (w1 := w) rfl ?_
    refine Ak (a := rows2.length) (w1 := w) rfl ?_
    simp only [hca, if_true]
    refine Ak n1 ?_
    cases p with
    | none => rw [g2 rfl]; rfl
    | some q => exact Ak (g1 q rfl) rfl
   ·cases ht2
  ·cases ht
 have fin : ∀ w' (d' : D), some (D.e (.one (.view b e lo (len + rows2.length)))) = some d' → F9 P w' G (.slice p (len + rows2.length) (cap0 - lo)) d' ∧ ∀ c, c ∈ d'.names → (A8 st.bx [(b, .vec e (Gq rows (lo + len) rows2))] c).isSome = true := fun w' d' hd' => by
  cases hd'
  refine ⟨⟨a0, rows.length, cap0, p, q1, hcb, rfl, hpa⟩, fun c hc => ?_⟩
  simp [D.names, E.names, C.names] at hc
  subst hc; simp [A8]
 by_cases hz : rows2.length = 0
 ·have hn0 : news.toList = [] := List.eq_nil_of_length_eq_zero (by simp [n3, hz])
  have h2 : rows2 = [] := List.eq_nil_of_length_eq_zero hz
  have hsp : Gq rows (lo + len) rows2 = rows := by rw [h2]; unfold Gq; simp
  refine ⟨_, w, G, hrun w (fun q _ => by rw [hn0]; rfl) (fun _ => rfl), ?_, fin w⟩
  have : (⟨st.env, A8 st.bx [(b, .vec e (Gq rows (lo + len) rows2))]⟩ : St) = st := by
   refine St.ext (fun _ => rfl) fun c => ?_
   simp only [A8]
   split
   ·rename_i e1; rw [e1, hsp, hb]
   ·rfl
  rw [this]; exact hs
 ·have hc0 : 0 < cap0 := Nat.lt_of_le_of_lt (Nat.zero_le _) (hlc0 hz)
  obtain ⟨β, arr, el', g1, g2, g3, g4, g5⟩ := q3 hc0
  subst g1
  have hat := hs.at_ok b _ β hb rfl (.inl g2)
  have hp : p = some ⟨β, lo * e, none⟩ := by rw [hpa (hlc0 hz)]; simp [Addr.add_mk]
  have hle : (lo + len) * e + rows2.length * e ≤ arr.size := by rw [g4]; exact hfe
  have hst := Et (P := P) (β := β) (el := el') news.toList w ((lo + len) * e) 0 arr g3 (by simp only [Array.length_toList, n3, Nat.add_zero]; exact hle) (Df.ones n2 n3)
  rw [Nat.add_zero] at hst
  refine ⟨_, _, G, hrun _ (fun q hq => by rw [hp] at hq; cases hq; rw [Addr.add_mk, ← Nat.add_mul]; exact hst) (fun h => by rw [hp] at h; cases h), ?_, fin _⟩
  exact hs.setB (b := b) (k0 := .vec e rows) hb rfl rfl (.inl g2) (L8 hat.2.1 hat.2.2 g2 q1 q2 g4 g5 n2 n3 hfit) (fun c hc => by cases hc)
theorem Ms {w : World} {S : Nat → Prop} {z : Value} {zs : List Value} {e n : Nat} (hzs : z.cells.toList = zs) (hz1 : zs.all Gt = true) (hze : zs.length = e) : Df w S (Builtin.zeroCells z.cells n) e 0 (List.replicate n (zs.map fun v => (T.of v).nrm)) ∧ (Builtin.zeroCells z.cells n).size = n * e := by
 have hsz : z.cells.size = e := by rw [← hze, ← hzs]; simp
 have hsize : (Builtin.zeroCells z.cells n).size = n * e := by unfold Builtin.zeroCells; simp [hsz]
 refine ⟨⟨by rw [hsize]; simp, ?_, ?_⟩, hsize⟩
 ·intro i row hi
  rw [List.getElem?_replicate] at hi
  split at hi
  ·cases hi; simp [hze]
  ·cases hi
 ·intro i row j t hi hj
  rw [List.getElem?_replicate] at hi
  split at hi
  ·rename_i hlt
   cases hi
   rw [List.getElem?_map] at hj
   cases hv : zs[j]? with
   | none => rw [hv] at hj; cases hj
   | some v =>
    rw [hv] at hj; cases hj
    have hj' : j < e := by rw [← hze]; exact AF hv
    have hle : i * e + e ≤ n * e := by rw [← Nat.succ_mul]; exact Nat.mul_le_mul_right e hlt
    have hc : Au (Builtin.zeroCells z.cells n) (0 + i * e + j) = v := by
     unfold Au Builtin.zeroCells
     rw [Nat.zero_add, hsz]
     have h1 : i * e + j < n * e := by omega
     rw [Array.getElem?_map, show (Array.range (n * e))[i * e + j]? = some (i * e + j) from by simp [h1]]
     simp only [Option.map_some, Option.getD_some]
     have h2 : (i * e + j) % e = j := by rw [Nat.add_comm, Nat.add_mul_mod_self_right, Nat.mod_eq_of_lt hj']
     rw [h2]
     have h3 : z.cells[j]? = some v := by rw [← Array.getElem?_toList, hzs]; exact hv
     show z.cells[j]! = v
     rw [Array.getElem!_eq_getD, Array.getD_eq_getD_getElem?, h3]; rfl
    rw [hc]
    exact (C1.of (List.all_eq_true.1 hz1 v (lM hv))).nrm
  ·cases hi
theorem Su {x : Operand} {t el b e lo len : Nat} {z : Value} {zs : List Value} {d : D} {rows rows' : List (List T)} (hop0 : P4 ops i = some (.call ⟨.builtin .clear, #[x], #[t]⟩))
  (hx : opd st.env x = some d) (hD : Kg d b e rows lo len) (hb : st.bx b = some (.vec e rows)) (ht : sliceB P t el = true) (hz : DP P el = some z) (hzs : z.cells.toList = zs) (hz1 : zs.all Gt = true) (hze : zs.length = e)
  (hr : Gq rows lo (List.replicate len (zs.map fun v => (T.of v).nrm)) = rows')
  (next : A6 P X ops dr Q r (i + 1) (Cc.upd ⟨[(x, d)], [(b, .vec e rows)], none, none, [(b, .vec e rows')], []⟩ st) ((i, ⟨[(x, d)], [(b, .vec e rows)], none, none, [(b, .vec e rows')], []⟩) :: log)) : A6 P X ops dr Q (r + 1) i st log := by
 obtain ⟨o, ho, hop, hd, hgn⟩ := Ou hop0
 have hg : SP ops o [] := .none hgn
 refine A6.step next ⟨⟨hx, trivial⟩, ⟨hb, trivial⟩, trivial⟩ (LR.value (rs := [(x, d)]) ho hg rfl hd.symm (fun s h => by rw [hd] at h; cases h) ?_)
 intro G st a w hs hpre
 have hx := hpre.r.1
 have hb := hpre.b.1
 subst hr
 obtain ⟨p, cap', h1, h2, h3, h4⟩ := hs.dstV hx hD hb
 obtain ⟨n2, n3⟩ := Ms (w := w) (S := G.S) (n := len) hzs hz1 hze
 have hl2 : (List.replicate len (zs.map fun v => (T.of v).nrm)).length = len := by simp
 have hrun : ∀ w', (len ≠ 0 → ∃ q, p = some q ∧ (storeCells q (Builtin.zeroCells z.cells len).toList).run P w = .ok () w') → (len = 0 → w' = w) → (execOp a.eval o).run P w = .ok (.value (.tuple #[])) w' := fun w' g1 g2 => by
  simp only [execOp, hop]
  refine Fm fun cs => ?_
  simp only [List.map_toArray, List.map_cons, List.map_nil, builtin, h1]
  refine Ak (a := .tuple #[]) (w1 := w') ?_ rfl
  unfold sliceB at ht
  split at ht
  ·rename_i e' hu
   have : e' = el := by simpa using ht
   subst this
   unfold Builtin.clear_
   refine Ak (AK hu w) ?_
   by_cases hz0 : len = 0
   ·rw [g2 hz0]
    subst hz0
    cases p <;> rfl
   ·obtain ⟨q, hq, hst⟩ := g1 hz0
    subst hq
    obtain ⟨len', rfl⟩ : ∃ m, len = m + 1 := ⟨len - 1, (Nat.succ_pred_eq_of_pos (Nat.pos_of_ne_zero hz0)).symm⟩
    refine Ak (ET hz w) ?_
    exact Ak hst rfl
  ·cases ht
 have fin : ∀ (d' : D), (none : Option D) = some d' → ∀ w', F9 P w' G (.tuple #[]) d' ∧ ∀ c, c ∈ d'.names → (A8 st.bx [(b, .vec e (Gq rows lo (List.replicate len (zs.map fun v => (T.of v).nrm))))] c).isSome = true := fun d' hd' => by cases hd'
 by_cases hz0 : len = 0
 ·have hsp : Gq rows lo (List.replicate len (zs.map fun v => (T.of v).nrm)) = rows := by rw [hz0]; unfold Gq; simp
  refine ⟨_, w, G, hrun w (fun h => (h hz0).elim) (fun _ => rfl), ?_, fun d' hd' => fin d' hd' _⟩
  have : (⟨st.env, A8 st.bx [(b, .vec e (Gq rows lo (List.replicate len (zs.map fun v => (T.of v).nrm))))]⟩ : St) = st := by
   refine St.ext (fun _ => rfl) fun c => ?_
   simp only [A8]
   split
   ·rename_i e1; rw [e1, hsp, hb]
   ·rfl
  rw [this]; exact hs
 ·have hlr : lo < rows.length := Nat.lt_of_lt_of_le (Nat.lt_add_of_pos_right (Nat.pos_of_ne_zero hz0)) h3
  obtain ⟨β, cap, arr, el', g1, g2, g3, g4, g5, g6, g7⟩ := h4 hlr
  subst g4
  have hat := hs.at_ok b _ β hb rfl (.inl g1)
  have hle : lo * e + len * e ≤ arr.size := by rw [g6, ← Nat.add_mul]; exact Nat.mul_le_mul_right e (by omega)
  have hst := Et (P := P) (β := β) (el := el') (Builtin.zeroCells z.cells len).toList w (lo * e) 0 arr g5 (by simp [n3]; omega) (Df.ones n2 (by rw [n3, hl2]))
  rw [Nat.add_zero] at hst
  refine ⟨_, _, G, hrun _ (fun _ => ⟨_, rfl, hst⟩) (fun h => (hz0 h).elim), ?_, fun d' hd' => fin d' hd' _⟩
  exact hs.setB (b := b) (k0 := .vec e rows) hb rfl rfl (.inl g1) (L8 hat.2.1 hat.2.2 g1 g2 g3 g6 g7 n2 (by rw [n3, hl2]) (by rw [hl2]; exact h3)) (fun c hc => by cases hc)
end run
theorem Q2 {st : St} (s b e : Nat) (rows : List (List T)) (hs0 : st.env s = some (.e (.one (.own b)))) (hb : st.bx b = some (.vec e rows)) : E8 P X st (St.put st (some s) (some (.e (.one (.view b e 0 rows.length))))) := by
 rintro a w ⟨G, h⟩
 obtain ⟨a0, cap, k1, k2, k3⟩ := KZ (h.blk b _ hb)
 obtain ⟨hR, _⟩ : Ed P w G (Au a.tmps s) (.own b) := h.env s _ hs0
 refine ⟨G, { h with env := ?_, live := ?_, blk := h.blk, at_ok := h.at_ok, at_inj := h.at_inj, liveB := h.liveB, nlt := h.nlt, lent := h.lent }⟩
 ·intro t d ht
  simp only [St.put] at ht
  split at ht
  ·rename_i e2; cases ht
   rw [e2]
   exact ⟨a0, rows.length, cap, a0, k1, by omega, by rw [hR, k1]; rfl, fun _ => by cases a0 <;> simp [KM]⟩
  ·exact h.env t d ht
 ·intro t d ht c hc
  simp only [St.put] at ht
  split at ht
  ·cases ht
   simp [D.names, E.names, C.names] at hc
   subst hc
   show (st.bx c).isSome = true
   rw [hb]; rfl
  ·exact h.live t d ht c hc
end Go.Lift
namespace Go.Lift
open Go.RowKit
variable {P : Program} {X : G7} {ops : Array Oper}
def MZ (a b : Int) : Int := if b < a then b else a
def SX (b : ByteArray) (i : Int) : Option Int := if 0 ≤ i then (b[i.toNat]?).map fun x => (x.toNat : Int) else none
theorem Rl {β : Type} {b : ByteArray} {i : Int} {f : Int → Option β} {r : β} (h : (SX b i).bind f = some r) : ∃ x : UInt8, 0 ≤ i ∧ b[i.toNat]? = some x ∧ f (x.toNat : Int) = some r := by
 obtain ⟨x, h1, h2⟩ := bind_some h
 unfold SX at h1
 split at h1
 ·rename_i h0
  cases hx : b[i.toNat]? with
  | none => rw [hx] at h1; cases h1
  | some y => rw [hx] at h1; cases h1; exact ⟨y, h0, rfl, h2⟩
 ·cases h1
section run
variable {dr : Bool} {Q : St → Prop} {r i : Nat} {st : St} {log : List (Nat × Cc)} {o : Oper} {gs : List (Operand × D)}
theorem QE {x y : Operand} {t t2 s : Nat} {k k2 : IntKind} {a0 b0 : Int} (hat : At st.env ops i X.n (.call ⟨.builtin .min, #[x, y], #[t, t2]⟩) s gs)
  (hx : opd st.env x = some (vD (.int k a0))) (hy : opd st.env y = some (vD (.int k2 b0)))
  (next : A6 P X ops dr Q r (i + 1) (Cc.upd ⟨gs ++ [(x, vD (.int k a0)), (y, vD (.int k2 b0))], [], some s, some (vD (.int k (MZ a0 b0))), [], []⟩ st) ((i, ⟨gs ++ [(x, vD (.int k a0)), (y, vD (.int k2 b0))], [], some s, some (vD (.int k (MZ a0 b0))), [], []⟩) :: log)) : A6 P X ops dr Q (r + 1) i st log := by
 obtain ⟨o, ho, hop, hd, hn, hg, hgp⟩ := hat.out
 refine A6.step next ⟨Al.2 ⟨hgp, hx, hy, trivial⟩, trivial, trivial⟩ (LR.value ho hg rfl hd.symm (C5 hd hn) ?_)
 intro G st a w hs hpre
 obtain ⟨hx, hy, _⟩ := (Al.1 hpre.r).2
 have h1 : a.eval x = .int k a0 := Ef (hs.opd hx : C1 w G.S (a.eval x) (.val _))
 have h2 : a.eval y = .int k2 b0 := Ef (hs.opd hy : C1 w G.S (a.eval y) (.val _))
 refine ⟨.int k (MZ a0 b0), w, G, ?_, hs, ?_⟩
 ·simp only [execOp, hop]
  refine Fm fun cs => ?_
  simp only [List.map_toArray, List.map_cons, List.map_nil, builtin, h1, h2]
  rfl
 ·rintro d ⟨⟩
  exact ⟨.val _ rfl, fun b hb => by cases hb⟩
theorem Qd {x : Operand} {s b k : Nat} (hat : At st.env ops i X.n (.nilCheck x) s gs) (hx : opd st.env x = some (.e (.one (.ptr b k))))
  (next : A6 P X ops dr Q r (i + 1) (Cc.upd ⟨gs ++ [(x, .e (.one (.ptr b k)))], [], some s, some (.e (.one (.ptr b k))), [], []⟩ st) ((i, ⟨gs ++ [(x, .e (.one (.ptr b k)))], [], some s, some (.e (.one (.ptr b k))), [], []⟩) :: log)) : A6 P X ops dr Q (r + 1) i st log := by
 obtain ⟨o, ho, hop, hd, hn, hg, hgp⟩ := hat.out
 refine A6.step next ⟨Al.2 ⟨hgp, hx, trivial⟩, trivial, trivial⟩ (LR.value ho hg rfl hd.symm (C5 hd hn) ?_)
 intro G st a w hs hpre
 obtain ⟨hx, _⟩ := (Al.1 hpre.r).2
 obtain ⟨β, hβ, hv⟩ : Ed P w G (a.eval x) (.ptr b k) := hs.opd hx
 refine ⟨.pointer (some ⟨β, k, none⟩), w, G, ?_, hs, ?_⟩
 ·simp only [execOp, hop, hv]; rfl
 ·rintro d ⟨⟩
  exact ⟨⟨β, hβ, rfl⟩, fun b' hb' => hs.opd_live hx b' hb'⟩
def Qx (P : Program) (t : TypeId) : Bool := match P.underlying t with | some .string => true | _ => false
theorem RE {x y : Operand} {t s : Nat} {b : ByteArray} {k : IntKind} {n : Int} {c : UInt8} (hat : At st.env ops i X.n (.index t x y) s gs)
  (hx : opd st.env x = some (vD (.string b))) (hy : opd st.env y = some (vD (.int k n))) (ht : Qx P t = true) (h0 : 0 ≤ n) (hc : b[n.toNat]? = some c)
  (next : A6 P X ops dr Q r (i + 1) (Cc.upd ⟨gs ++ [(x, vD (.string b)), (y, vD (.int k n))], [], some s, some (vD (.int .u8 (c.toNat : Int))), [], []⟩ st) ((i, ⟨gs ++ [(x, vD (.string b)), (y, vD (.int k n))], [], some s, some (vD (.int .u8 (c.toNat : Int))), [], []⟩) :: log)) : A6 P X ops dr Q (r + 1) i st log := by
 obtain ⟨o, ho, hop, hd, hn, hg, hgp⟩ := hat.out
 refine A6.step next ⟨Al.2 ⟨hgp, hx, hy, trivial⟩, trivial, trivial⟩ (LR.value ho hg rfl hd.symm (C5 hd hn) ?_)
 intro G st a w hs hpre
 obtain ⟨hx, hy, _⟩ := (Al.1 hpre.r).2
 have h1 : a.eval x = .string b := Ef (hs.opd hx : C1 w G.S (a.eval x) (.val _))
 have h2 : a.eval y = .int k n := Ef (hs.opd hy : C1 w G.S (a.eval y) (.val _))
 refine ⟨.int .u8 (c.toNat : Int), w, G, ?_, hs, ?_⟩
 ·simp only [execOp, hop, h1, h2]
  refine Ak (a := .int .u8 (c.toNat : Int)) (w1 := w) ?_ rfl
  unfold Qx at ht
  split at ht
  ·rename_i hu
   unfold Instr.index
   refine Ak (a := (k, n)) (w1 := w) rfl ?_
   refine Ak (AK hu w) ?_
   simp only [h0, if_true, hc]
   rfl
  ·cases ht
 ·rintro d ⟨⟩
  exact ⟨.val _ rfl, fun b hb => by cases hb⟩
end run
section maps
variable {K V : Type}
end maps
section run
variable {dr : Bool} {Q : St → Prop} {r i : Nat} {st : St} {log : List (Nat × Cc)} {o : Oper} {gs : List (Operand × D)}
end run
end Go.Lift
namespace Go.Lift
open Go.RowKit
variable {P : Program} {X : G7} {ops : Array Oper}
section run
variable {dr : Bool} {Q : St → Prop} {r i : Nat} {st : St} {log : List (Nat × Cc)} {o : Oper} {gs : List (Operand × D)}
def vl : Bg → Option (Nat × Nat)
 | .vec e rows => some (e, rows.length)
 | .dvec e _ rows => some (e, rows.length)
 | .pvec _ e _ rows => some (e, rows.length)
 | .hol e _ _ _ _ rows => some (e, rows.length)
 | _ => none
def XE : Ow → Bool
 | .s => true
 | _ => false
end run
def RO (e : Nat) (cols : List Ow) (rows : List (List T)) : Bg := if cols.all XE then .vec e rows else .dvec e cols rows
section run
variable {dr : Bool} {Q : St → Prop} {r i : Nat} {st : St} {log : List (Nat × Cc)} {o : Oper} {gs : List (Operand × D)}
end run
end Go.Lift
namespace Go.Lift
open Go.RowKit
variable {P : Program} {X : G7} {ops : Array Oper}
section run
variable {dr : Bool} {Q : St → Prop} {r i : Nat} {st : St} {log : List (Nat × Cc)} {o : Oper} {gs : List (Operand × D)}
structure Nm (w : World) (S : Nat → Prop) (e : Nat) (cols : List Ow) (rows : List (List T)) (Rf : Nat → Nat → Nat → Prop) (f : Nat → Value) : Prop where
 len : ∀ (i : Nat) (row : List T), rows[i]? = some row → row.length = e
 cell : ∀ (i : Nat) (row : List T) (j : Nat) (t : T), rows[i]? = some row → row[j]? = some t → P0 w S (cols.getD j .s) (Rf i j) (f (i * e + j)) t
 dis : ∀ i j i' j' γ, Rf i j γ → Rf i' j' γ → i = i' ∧ j = j'
theorem Nm.ones {w : World} {S : Nat → Prop} {e : Nat} {cols : List Ow} {rows : List (List T)} {Rf : Nat → Nat → Nat → Prop} {arr : Array Value} (h : Nm w S e cols rows Rf (Au arr)) (hs : arr.size = rows.length * e) : ∀ u, u ∈ arr.toList → Gt u = true := by
 intro u hu
 obtain ⟨k, hk⟩ := List.mem_iff_getElem?.1 hu
 have hk' : arr[k]? = some u := by simpa using hk
 have hlt : k < arr.size := by
  rcases Nat.lt_or_ge k arr.size with h' | h'
  ·exact h'
  ·rw [Array.getElem?_eq_none h'] at hk'; cases hk'
 rcases Nat.eq_zero_or_pos e with e0 | e0
 ·rw [e0, Nat.mul_zero] at hs; omega
 have h1 : k / e < rows.length := (Nat.div_lt_iff_lt_mul e0).2 (by omega)
 have h2 : k % e < e := Nat.mod_lt _ e0
 have hrow : rows[k / e]? = some rows[k / e] := by simp [h1]
 have hlen := h.len _ _ hrow
 have hcell : (rows[k / e])[k % e]? = some ((rows[k / e])[k % e]'(by omega)) := by simp [show k % e < rows[k / e].length from by omega]
 have := (h.cell _ _ _ _ hrow hcell).one
 rw [show k / e * e + k % e = k from by rw [Nat.mul_comm]; exact Nat.div_add_mod k e] at this
 simpa [Au, hk'] using this
theorem Nm.app {w w' : World} {S : Nat → Prop} {e : Nat} {cols : List Ow} {rows rows2 : List (List T)} {Rf Rf2 : Nat → Nat → Nat → Prop} {f f2 g : Nat → Value} (h1 : Nm w S e cols rows Rf f) (h2 : Nm w S e cols rows2 Rf2 f2)
  (hx : ∀ i j i' j' γ, Rf i j γ → Rf2 i' j' γ → False) (hg1 : ∀ j, j < rows.length * e → g j = f j) (hg2 : ∀ j, j < rows2.length * e → g (rows.length * e + j) = f2 j)
  (hw : ∀ γ, S γ ∨ (∃ i j, Rf i j γ ∨ Rf2 i j γ) → w'.heap[γ]? = w.heap[γ]?) : Nm w' S e cols (rows ++ rows2) (fun i j γ => if i < rows.length then Rf i j γ else Rf2 (i - rows.length) j γ) g := by
 have hlen : ∀ (i : Nat) (row : List T), (rows ++ rows2)[i]? = some row → row.length = e := fun i row hi => by
  rcases Nat.lt_or_ge i rows.length with h | h
  ·rw [List.getElem?_append_left h] at hi; exact h1.len i row hi
  ·rw [List.getElem?_append_right h] at hi; exact h2.len _ row hi
 refine ⟨hlen, fun i row j t hi hj => ?_, fun i j i' j' γ hγ hγ' => ?_⟩
 ·have hj' := AF hj
  have he := hlen i row hi
  rcases Nat.lt_or_ge i rows.length with h | h
  ·rw [List.getElem?_append_left h] at hi
   have hle : i * e + e ≤ rows.length * e := by rw [← Nat.succ_mul]; exact Nat.mul_le_mul_right e h
   rw [hg1 _ (by omega)]
   exact (h1.cell i row j t hi hj).mono (fun γ hγ => hw γ (hγ.imp id fun hr => ⟨i, j, .inl hr⟩)) (fun _ h => h) (fun γ hγ => by rw [if_pos h]; exact hγ)
  ·rw [List.getElem?_append_right h] at hi
   have hi2 := AF hi
   have hle : (i - rows.length) * e + e ≤ rows2.length * e := by rw [← Nat.succ_mul]; exact Nat.mul_le_mul_right e hi2
   have hsplit : i * e + j = rows.length * e + ((i - rows.length) * e + j) := by
    rw [← Nat.add_assoc, ← Nat.add_mul, show rows.length + (i - rows.length) = i from by omega]
   rw [hsplit, hg2 _ (by omega)]
   exact (h2.cell _ row j t hi hj).mono (fun γ hγ => hw γ (hγ.imp id fun hr => ⟨_, j, .inr hr⟩)) (fun _ h => h) (fun γ hγ => by rw [if_neg (by omega)]; exact hγ)
 ·split at hγ <;> split at hγ'
  ·exact h1.dis i j i' j' γ hγ hγ'
  ·exact (hx _ _ _ _ γ hγ hγ').elim
  ·exact (hx _ _ _ _ γ hγ' hγ).elim
  ·have := h2.dis _ j _ j' γ hγ hγ'
   exact ⟨by omega, this.2⟩
end run
end Go.Lift
namespace Go.Lift
open Go.RowKit
variable {P : Program} {X : G7} {ops : Array Oper}
theorem Hl {α : Type} (f : α → List T) (b e : Nat) (xs : List α) : Kg (.e (.one (.own b))) b e (xs.map f) 0 xs.length := by
 have := Kg.own b e (xs.map f)
 rwa [List.length_map] at this
theorem Ij {α : Type} (f : α → List T) (b e lo len : Nat) (xs : List α) (h : lo + len ≤ xs.length) : Kg (.e (.one (.view b e lo len))) b e (xs.map f) lo len := .view b e _ lo len (by simpa using h)
theorem K3 {α : Type} (f : α → List T) (b e lo len : Nat) (xs : List α) (h : lo + len ≤ xs.length) : MV (.e (.one (.view b e lo len))) [(b, .vec e (xs.map f))] e (((xs.drop lo).take len).map f) := by
 have := MV.view b e (xs.map f) lo len (by simpa using h)
 rwa [← List.map_drop, ← List.map_take] at this
theorem TW {α : Type} (f : α → List T) (e : Nat) (xs : List α) (h : ∀ x, (f x).length = e) : MV (one (.sl (xs.map f))) [] e (xs.map f) := .of (.sl _ _ (FI h xs))
section run
variable {dr : Bool} {Q : St → Prop} {r i : Nat} {st : St} {log : List (Nat × Cc)} {o : Oper} {gs : List (Operand × D)}
theorem Hy {α : Type} (f : α → List T) (xs : List α) {x : Operand} {t el s e l h b lo0 len lo1 len1 : Nat} {lo hi : Option Operand} {rl rh : List (Operand × D)} {d : D} (hat : At st.env ops i X.n (.slice t x lo hi none) s gs)
  (hx : opd st.env x = some d) (hD : Kg d b e (xs.map f) lo0 len) (hb : st.bx b = some (.vec e (xs.map f))) (ht : sliceB P t el = true) (he : Gs P el e = true) (hlo : Rs lo 0 l rl) (hhi : Rs hi len h rh) (h1 : EF st.env rl) (h2 : EF st.env rh) (hlh : l ≤ h) (hhl : lo0 + h ≤ xs.length) (e1 : lo0 + l = lo1) (e2 : h - l = len1)
  (next : A6 P X ops dr Q r (i + 1) (Cc.upd ⟨gs ++ ((x, d) :: (rl ++ rh)), [(b, .vec e (xs.map f))], some s, some (.e (.one (.view b e lo1 len1))), [], []⟩ st) ((i, ⟨gs ++ ((x, d) :: (rl ++ rh)), [(b, .vec e (xs.map f))], some s, some (.e (.one (.view b e lo1 len1))), [], []⟩) :: log)) : A6 P X ops dr Q (r + 1) i st log := by
 subst e1; subst e2
 exact RS hat hx hD hb ht he hlo hhi h1 h2 hlh (by simpa using hhl) next
theorem QS {α : Type} (f : α → List T) (xs ys : List α) {x y : Operand} {t t2 el s e b lo len : Nat} {d d2 : D} {rb2 : List (Nat × Bg)} (hat : At st.env ops i X.n (.call ⟨.builtin .copy, #[x, y], #[t, t2]⟩) s gs)
  (hx : opd st.env x = some d) (hD : Kg d b e (xs.map f) lo len) (hb : st.bx b = some (.vec e (xs.map f))) (hy : opd st.env y = some d2) (hS : MV d2 rb2 e (ys.map f)) (hb2 : FX st.bx rb2) (ht : sliceB P t el = true) (he : Gs P el e = true)
  (next : A6 P X ops dr Q r (i + 1) (Cc.upd ⟨gs ++ [(x, d), (y, d2)], (b, .vec e (xs.map f)) :: rb2, some s, some (vD (.int .i64 ((Nat.min ys.length len : Nat) : Int))), [(b, .vec e ((Gq xs lo (ys.take (Nat.min ys.length len))).map f))], []⟩ st) ((i, ⟨gs ++ [(x, d), (y, d2)], (b, .vec e (xs.map f)) :: rb2, some s, some (vD (.int .i64 ((Nat.min ys.length len : Nat) : Int))), [(b, .vec e ((Gq xs lo (ys.take (Nat.min ys.length len))).map f))], []⟩) :: log)) : A6 P X ops dr Q (r + 1) i st log := by
 have hl : (ys.map f).length = ys.length := List.length_map _
 refine UD hat hx hD hb hy hS hb2 ht he (rows' := (Gq xs lo (ys.take (Nat.min ys.length len))).map f) ?_ ?_
 ·rw [hl, ← List.map_take, Ov]
 ·rw [hl]; exact next
theorem Mw {α : Type} (f : α → List T) (xs ys : List α) {x y : Operand} {t t2 el el2 s e b lo len len1 : Nat} {d d2 : D} {rb2 : List (Nat × Bg)} (hat : At st.env ops i X.n (.call ⟨.builtin .append, #[x, y], #[t, t2]⟩) s gs)
  (hx : opd st.env x = some d) (hD : Kg d b e (xs.map f) lo len) (hb : st.bx b = some (.vec e (xs.map f))) (hy : opd st.env y = some d2) (hS : MV d2 rb2 e (ys.map f)) (hb2 : FX st.bx rb2)
  (ht : sliceB P t el = true) (ht2 : sliceB P t2 el2 = true) (he : Gs P el e = true) (hfit : lo + len + ys.length ≤ xs.length) (e1 : len + ys.length = len1)
  (next : A6 P X ops dr Q r (i + 1) (Cc.upd ⟨gs ++ [(x, d), (y, d2)], (b, .vec e (xs.map f)) :: rb2, some s, some (.e (.one (.view b e lo len1))), [(b, .vec e ((Gq xs (lo + len) ys).map f))], []⟩ st) ((i, ⟨gs ++ [(x, d), (y, d2)], (b, .vec e (xs.map f)) :: rb2, some s, some (.e (.one (.view b e lo len1))), [(b, .vec e ((Gq xs (lo + len) ys).map f))], []⟩) :: log)) : A6 P X ops dr Q (r + 1) i st log := by
 subst e1
 have hl : (ys.map f).length = ys.length := List.length_map _
 refine Q9 hat hx hD hb hy hS hb2 ht ht2 he (by rw [hl]; simpa using hfit) (rows' := (Gq xs (lo + len) ys).map f) (Ov _ _ _ _) ?_
 rw [hl]; exact next
theorem RP {α : Type} (f : α → List T) (xs : List α) (z0 : α) {x : Operand} {t el b e lo len : Nat} {z : Value} {zs : List Value} {d : D} (hop0 : P4 ops i = some (.call ⟨.builtin .clear, #[x], #[t]⟩))
  (hx : opd st.env x = some d) (hD : Kg d b e (xs.map f) lo len) (hb : st.bx b = some (.vec e (xs.map f))) (ht : sliceB P t el = true) (hz : DP P el = some z) (hzs : z.cells.toList = zs) (hz1 : zs.all Gt = true) (hze : zs.length = e) (hf : (zs.map fun v => (T.of v).nrm) = f z0)
  (next : A6 P X ops dr Q r (i + 1) (Cc.upd ⟨[(x, d)], [(b, .vec e (xs.map f))], none, none, [(b, .vec e ((Gq xs lo (List.replicate len z0)).map f))], []⟩ st) ((i, ⟨[(x, d)], [(b, .vec e (xs.map f))], none, none, [(b, .vec e ((Gq xs lo (List.replicate len z0)).map f))], []⟩) :: log)) : A6 P X ops dr Q (r + 1) i st log := by
 refine Su hop0 hx hD hb ht hz hzs hz1 hze (rows' := (Gq xs lo (List.replicate len z0)).map f) ?_ next
 rw [hf, ← Ov]; simp
theorem SV {x : Operand} {s t el b e lo len : Nat} (hat : At st.env ops i X.n (.call ⟨.builtin .len, #[x], #[t]⟩) s gs)
  (hx : opd st.env x = some (.e (.one (.view b e lo len)))) (ht : sliceB P t el = true)
  (next : A6 P X ops dr Q r (i + 1) (Cc.upd ⟨gs ++ [(x, .e (.one (.view b e lo len)))], [], some s, some (vD (.int .i64 (len : Int))), [], []⟩ st) ((i, ⟨gs ++ [(x, .e (.one (.view b e lo len)))], [], some s, some (vD (.int .i64 (len : Int))), [], []⟩) :: log)) : A6 P X ops dr Q (r + 1) i st log := Vk hat hx ht next
end run
theorem Tn {α : Type} {st : St} (f : α → List T) (xs : List α) (s b e : Nat) (hs0 : st.env s = some (.e (.one (.own b)))) (hb : st.bx b = some (.vec e (xs.map f))) : E8 P X st (St.put st (some s) (some (.e (.one (.view b e 0 xs.length))))) := by
 have := Q2 (P := P) (X := X) s b e (xs.map f) hs0 hb
 rwa [List.length_map] at this
def QP (f : Nat → Nat) (env : Nat → Option D) : List (Nat × D) → Prop
 | [] => True
 | (s, d) :: ps => env s = some (d.ren f) ∧ QP f env ps
def QV (f : Nat → Nat) (bx : Nat → Option Bg) : List (Nat × Bg) → Prop
 | [] => True
 | (b, k) :: ps => bx (f b) = some (k.ren f) ∧ QV f bx ps
def Ee : List (Nat × Bg) → List Nat
 | [] => []
 | (b, _) :: ps => b :: Ee ps
def K0 (f : Nat → Nat) : List Nat → Bool
 | [] => true
 | b :: bs => (if Bs b then f b == b else !Bs (f b)) && K0 f bs
def Wb (b : Nat) : List Nat → Bool
 | [] => false
 | c :: cs => c == b || Wb b cs
def Nk (ns : List Nat) : List (Nat × D) → Bool
 | [] => true
 | (_, d) :: ps => (d.names.all fun b => Wb b ns) && Nk ns ps
def NH (ns : List Nat) : List (Nat × Bg) → Bool
 | [] => true
 | (_, d) :: ps => (d.names.all fun b => Wb b ns) && NH ns ps
theorem PK {f : Nat → Nat} {env : Nat → Option D} : ∀ {el : List (Nat × D)}, QP f env el → S6 f env el
 | [], _ => trivial
 | (_, _) :: _, h => ⟨h.1, PK h.2⟩
theorem O1 {f : Nat → Nat} {bx : Nat → Option Bg} : ∀ {bl : List (Nat × Bg)}, QV f bx bl → SZ f bx bl
 | [], _ => trivial
 | (_, _) :: _, h => ⟨h.1, O1 h.2⟩
theorem Ns : ∀ bl : List (Nat × Bg), Ee bl = bl.map (·.1)
 | [] => rfl
 | (b, k) :: ps => by simp [Ee, Ns ps]
theorem Nb {f : Nat → Nat} : ∀ bl : List (Nat × Bg), K0 f (Ee bl) = bl.all fun p => if Bs p.1 then f p.1 == p.1 else !Bs (f p.1)
 | [] => rfl
 | (b, k) :: ps => by simp only [Ee, K0, List.all_cons, Nb ps]
theorem PV {b : Nat} : ∀ bl : List (Nat × Bg), Wb b (Ee bl) = bl.any fun q => q.1 == b
 | [] => rfl
 | (c, k) :: ps => by simp only [Ee, Wb, List.any_cons, PV ps]
theorem OU (bl : List (Nat × Bg)) : ∀ el : List (Nat × D), Nk (Ee bl) el = el.all fun p => p.2.names.all fun b => bl.any fun q => q.1 == b
 | [] => rfl
 | (s, d) :: ps => by simp only [Nk, List.all_cons, OU bl ps, PV]
theorem OO (bl : List (Nat × Bg)) : ∀ el : List (Nat × Bg), NH (Ee bl) el = el.all fun p => p.2.names.all fun b => bl.any fun q => q.1 == b
 | [] => rfl
 | (s, d) :: ps => by simp only [NH, List.all_cons, OO bl ps, PV]
theorem RN {st : St} (f : Nat → Nat) (el : List (Nat × D)) (bl : List (Nat × Bg)) (he : QP f st.env el) (hb : QV f st.bx bl) (hi : (HH ((Ee bl).map f) && K0 f (Ee bl)) = true) (hs : (Nk (Ee bl) el && NH (Ee bl) bl) = true) : E8 P X st (mk el bl) := by
 refine TG f el bl (PK he) (O1 hb) ?_ ?_
 ·rw [Nb, Ns] at hi; exact hi
 ·rw [OU, OO] at hs; exact hs
theorem Ro {dr : Bool} {Q : St → Prop} {r i : Nat} {st : St} {log : List (Nat × Cc)} {gs : List (Operand × D)} {x y : Operand} {t s : Nat} {b : ByteArray} {k : IntKind} {n v : Int} (hat : At st.env ops i X.n (.index t x y) s gs)
  (hx : opd st.env x = some (vD (.string b))) (hy : opd st.env y = some (vD (.int k n))) (ht : Qx P t = true) (hv : SX b n = some v)
  (next : A6 P X ops dr Q r (i + 1) (Cc.upd ⟨gs ++ [(x, vD (.string b)), (y, vD (.int k n))], [], some s, some (vD (.int .u8 v)), [], []⟩ st) ((i, ⟨gs ++ [(x, vD (.string b)), (y, vD (.int k n))], [], some s, some (vD (.int .u8 v)), [], []⟩) :: log)) : A6 P X ops dr Q (r + 1) i st log := by
 obtain ⟨c, h0, hc, e⟩ := Rl (f := some) (r := v) (by rw [hv]; rfl)
 cases e
 exact RE hat hx hy ht h0 hc next
end Go.Lift
namespace Go.Lift
open Go.RowKit
variable {P : Program} {X : G7} {ops : Array Oper}
def hd (env : Nat → Option D) (ops : Array Oper) (i n : Nat) : Option (Op × Nat × List (Operand × D)) := match WQ ops i n with
 | some (op, s) => some (op, s, [])
 | none => match W4 ops i n with
  | some (op, s, t, want) => (match env t, want with
   | some (.e (.one (.pure (.val (.bool true))))), true => some (op, s, [(.tmp t, bD true)])
   | some (.e (.one (.pure (.val (.bool false))))), false => some (op, s, [(.tmp t, bD false)])
   | _, _ => none)
  | none => none
theorem CJ {env : Nat → Option D} {n i s : Nat} {op : Op} {gs : List (Operand × D)} (h : hd env ops i n = some (op, s, gs)) : At env ops i n op s gs := by
 unfold hd at h
 split at h
 ·rename_i e; cases h; exact .p e
 ·split at h
  ·rename_i e
   split at h
   ·rename_i e2; cases h; exact .g e e2
   ·rename_i e2; cases h; exact .g e e2
   ·cases h
  ·cases h
theorem t2 {α β : Type} {a c : α} {b d : β} (h : (a, b) = (c, d)) : a = c ∧ b = d := Prod.mk.inj h
abbrev Nx (P : Program) (X : G7) (ops : Array Oper) (dr : Bool) (Q : St → Prop) (r i : Nat) (st : St) (log : List (Nat × Cc)) (l : Cc) : Prop := A6 P X ops dr Q r (i + 1) (Cc.upd l st) ((i, l) :: log)
theorem sj {α : Type} {a b : α} (h : some a = some b) : a = b := Option.some.inj h
def RL (env : Nat → Option D) : List Operand → Option (List D)
 | [] => some []
 | x :: xs => match opd env x, RL env xs with
  | some d, some ds => some (d :: ds)
  | _, _ => none
theorem N3 {env : Nat → Option D} : ∀ {xs : List Operand} {ds : List D}, RL env xs = some ds → xs.length = ds.length ∧ EF env (F8 xs ds)
 | [], ds, h => by cases h; exact ⟨rfl, trivial⟩
 | x :: xs, ds, h => by
  simp only [RL] at h
  split at h
  ·rename_i e1 e2
   cases h
   have := N3 e2
   exact ⟨by simp [this.1], e1, this.2⟩
  ·cases h
def Wu (bx : Nat → Option Bg) : List Nat → Option (List (Nat × Bg))
 | [] => some []
 | b :: bs => match bx b, Wu bx bs with
  | some k, some ks => some ((b, k) :: ks)
  | _, _ => none
theorem SD {bx : Nat → Option Bg} : ∀ {l : List Nat} {bs : List (Nat × Bg)}, Wu bx l = some bs → FX bx bs
 | [], bs, h => by cases h; trivial
 | b :: l, bs, h => by
  simp only [Wu] at h
  split at h
  ·rename_i e1 e2
   cases h
   exact ⟨e1, SD e2⟩
  ·cases h
def Vl (env : Nat → Option D) : List (Nat × Operand) → Option (List (Nat × Operand × E))
 | [] => some []
 | p :: ps => match opd env p.2, Vl env ps with
  | some (.e y), some qs => some ((p.1, p.2, y) :: qs)
  | _, _ => none
theorem QT {env : Nat → Option D} : ∀ {l : List (Nat × Operand)} {ps : List (Nat × Operand × E)}, Vl env l = some ps → l = (ps.map fun p => (p.1, p.2.1)) ∧ EF env (Hs ps)
 | [], ps, h => by cases h; exact ⟨rfl, trivial⟩
 | p :: l, ps, h => by
  simp only [Vl] at h
  split at h
  ·rename_i e1 e2
   cases h
   have := QT e2
   exact ⟨by rw [List.map_cons, ← this.1], e1, this.2⟩
  ·cases h
theorem RZ {env : Nat → Option D} {parts : Array (Nat × Operand)} {ps : List (Nat × Operand × E)} (h : Vl env parts.toList = some ps) : parts = (ps.map fun p => (p.1, p.2.1)).toArray ∧ EF env (Hs ps) := by
 have := QT h
 exact ⟨by rw [← this.1], this.2⟩
def Tm (k : Nat) : List (Nat × Operand × E) → Bool
 | [] => true
 | p :: ps => Nat.beq p.1 k && Tm (k + 1) ps
theorem QJ : ∀ {k : Nat} {ps : List (Nat × Operand × E)}, Tm k ps = true → ps.map (·.1) = List.range' k ps.length
 | _, [], _ => rfl
 | k, p :: ps, h => by
  simp only [Tm, Bool.and_eq_true] at h
  rw [List.map_cons, List.length_cons, List.range'_succ, QJ h.2, Nat.eq_of_beq_eq_true h.1]
def W0 : Option Bg → Bool
 | none => true
 | some _ => false
theorem NT {bx : Nat → Option Bg} : ∀ {ns : List Nat}, (ns.all fun n => W0 (bx n)) = true → KS bx ns
 | [], _ => trivial
 | n :: ns, h => by
  simp only [List.all_cons, Bool.and_eq_true] at h
  refine ⟨?_, NT h.2⟩
  have := h.1
  cases hb : bx n with
  | none => rfl
  | some k => rw [hb] at this; cases this
theorem Nr {ns : List Nat} (h : (HH ns && (ns.all fun n => !Bs n)) = true) : JZ ns := by
 rw [Bool.and_eq_true] at h
 exact ⟨HX h.1, fun c hc => by simpa using List.all_eq_true.1 h.2 c hc⟩
def VG (env : Nat → Option D) : List (Nat × D) → List (Option D)
 | [] => []
 | (s, _) :: ps => env s :: VG env ps
def V0 (f : Nat → Nat) : List (Nat × D) → List (Option D)
 | [] => []
 | (_, d) :: ps => some (d.ren f) :: V0 f ps
def V3 (f : Nat → Nat) (bx : Nat → Option Bg) : List (Nat × Bg) → List (Option Bg)
 | [] => []
 | (b, _) :: ps => bx (f b) :: V3 f bx ps
def Wk (f : Nat → Nat) : List (Nat × Bg) → List (Option Bg)
 | [] => []
 | (_, k) :: ps => some (k.ren f) :: Wk f ps
theorem Si {f : Nat → Nat} {env : Nat → Option D} : ∀ {el : List (Nat × D)}, VG env el = V0 f el → QP f env el
 | [], _ => trivial
 | (s, d) :: el, h => by
  simp only [VG, V0] at h
  obtain ⟨h1, h2⟩ := List.cons.inj h
  exact ⟨h1, Si h2⟩
theorem Ss {f : Nat → Nat} {bx : Nat → Option Bg} : ∀ {el : List (Nat × Bg)}, V3 f bx el = Wk f el → QV f bx el
 | [], _ => trivial
 | (s, d) :: el, h => by
  simp only [V3, Wk] at h
  obtain ⟨h1, h2⟩ := List.cons.inj h
  exact ⟨h1, Ss h2⟩
theorem sm {st : St} (l : List (Nat × Nat)) (el : List (Nat × D)) (bl : List (Nat × Bg)) (h : (VG st.env el, V3 (rn l) st.bx bl) = (V0 (rn l) el, Wk (rn l) bl)) (hi : ((HH ((Ee bl).map (rn l)) && K0 (rn l) (Ee bl)) && (Nk (Ee bl) el && NH (Ee bl) bl)) = true) : E8 P X st (mk el bl) :=
 RN (rn l) el bl (Si (t2 h).1) (Ss (t2 h).2) (Bool.and_eq_true_iff.1 hi).1 (Bool.and_eq_true_iff.1 hi).2
section run
variable {dr : Bool} {Q : St → Prop} {r i : Nat} {st : St} {log : List (Nat × Cc)} {gs : List (Operand × D)}
theorem qm {x : Operand} {d : D} {s : Nat} (h : (hd st.env ops i X.n, opd st.env x) = (some (.move x, s, gs), some d)) (next : Nx P X ops dr Q r i st log ⟨gs ++ [(x, d)], [], some s, some d, [], []⟩) : A6 P X ops dr Q (r + 1) i st log :=
 Uz (CJ (t2 h).1) (t2 h).2 next
theorem qa {x : Operand} {d : D} {s : Nat} (h : (hd st.env ops i X.n, opd st.env x) = (some (.assign x, s, gs), some d)) (next : Nx P X ops dr Q r i st log ⟨gs ++ [(x, d)], [], some s, some d, [], []⟩) : A6 P X ops dr Q (r + 1) i st log :=
 Sl (CJ (t2 h).1) (t2 h).2 next
theorem qn {j t s : Nat} {want : Bool} (h : (UP ops i X.n, st.env t) = (some (j, s, t, want), some (bD (!want)))) (next : Nx P X ops dr Q r i st log ⟨[(.tmp t, bD (!want))], [], some s, some uD, [], []⟩) : A6 P X ops dr Q (r + 1) i st log :=
 UX (t2 h).1 (t2 h).2 next
theorem qu {j t s : Nat} {want : Bool} (h : (UP ops i X.n, st.env t) = (some (j, s, t, want), some uD)) (next : Nx P X ops dr Q r i st log ⟨[(.tmp t, uD)], [], some s, some uD, [], []⟩) : A6 P X ops dr Q (r + 1) i st log :=
 UJ (t2 h).1 (t2 h).2 next
theorem qp {c x y : Operand} {b : Bool} {d : D} {z : Operand} {s : Nat} (h : (hd st.env ops i X.n, opd st.env c, (if b then x else y), opd st.env z) = (some (.pick c x y, s, gs), some (bD b), z, some d)) (next : Nx P X ops dr Q r i st log ⟨gs ++ [(c, bD b), (z, d)], [], some s, some d, [], []⟩) : A6 P X ops dr Q (r + 1) i st log :=
 U8 (CJ (t2 h).1) (t2 (t2 h).2).1 (t2 (t2 (t2 h).2).2).1 (t2 (t2 (t2 h).2).2).2 next
theorem qf {x : Operand} {b k f off s : Nat} {t : TypeId} (hf : CH P t f off = true) (h : (hd st.env ops i X.n, opd st.env x) = (some (.fieldAddr t x f, s, gs), some (.e (.one (.ptr b k))))) (next : Nx P X ops dr Q r i st log ⟨gs ++ [(x, .e (.one (.ptr b k)))], [], some s, some (.e (.one (.ptr b (k + off)))), [], []⟩) : A6 P X ops dr Q (r + 1) i st log :=
 OW (CJ (t2 h).1) (t2 h).2 hf next
theorem qg {x : Operand} {ts us : List T} {f off s : Nat} {t : TypeId} (hf : CH P t f off = true) (h : (hd st.env ops i X.n, opd st.env x, Nat.ble (off) (ts.length), ts.drop off) = (some (.fieldAddr t x f, s, gs), some (.e (.one (.rop ts))), true, us)) (next : Nx P X ops dr Q r i st log ⟨gs ++ [(x, .e (.one (.rop ts)))], [], some s, some (.e (.one (.rop us))), [], []⟩) : A6 P X ops dr Q (r + 1) i st log :=
 NU (CJ (t2 h).1) (t2 (t2 h).2).1 hf (Nat.le_of_ble_eq_true (t2 (t2 (t2 h).2).2).1) (t2 (t2 (t2 h).2).2).2 next
theorem ql {x : Operand} {b k s : Nat} {cells : List C} {c : C} {t : TypeId} (ht : D7 P t false = true) (h : (hd st.env ops i X.n, opd st.env x, st.bx b, cells[k]?) = (some (.load t x, s, gs), some (.e (.one (.ptr b k))), some (.box cells), some c)) (next : Nx P X ops dr Q r i st log ⟨gs ++ [(x, .e (.one (.ptr b k)))], [(b, .box cells)], some s, some (.e (.one c)), [], []⟩) : A6 P X ops dr Q (r + 1) i st log :=
 S5 (CJ (t2 h).1) (t2 (t2 h).2).1 ht (t2 (t2 (t2 h).2).2).1 (t2 (t2 (t2 h).2).2).2 next
theorem qL {x : Operand} {b k n s : Nat} {cells cs : List C} {t : TypeId} (ht : D7 P t true = true) (hz : Gs P t n = true) (h : (hd st.env ops i X.n, opd st.env x, st.bx b, (cells.drop k).take n, cs.length) = (some (.load t x, s, gs), some (.e (.one (.ptr b k))), some (.box cells), cs, n)) (next : Nx P X ops dr Q r i st log ⟨gs ++ [(x, .e (.one (.ptr b k)))], [(b, .box cells)], some s, some (.e (.agg cs)), [], []⟩) : A6 P X ops dr Q (r + 1) i st log :=
 T5 (CJ (t2 h).1) (t2 (t2 h).2).1 ht hz (t2 (t2 (t2 h).2).2).1 (t2 (t2 (t2 (t2 h).2).2).2).1 (t2 (t2 (t2 (t2 h).2).2).2).2 next
theorem qk {x : Operand} {s : Nat} {ts : List T} {u : T} {t : TypeId} (ht : D7 P t false = true) (h : (hd st.env ops i X.n, opd st.env x, ts[0]?) = (some (.load t x, s, gs), some (.e (.one (.rop ts))), some u)) (next : Nx P X ops dr Q r i st log ⟨gs ++ [(x, .e (.one (.rop ts)))], [], some s, some (one u), [], []⟩) : A6 P X ops dr Q (r + 1) i st log :=
 SC (CJ (t2 h).1) (t2 (t2 h).2).1 ht (t2 (t2 h).2).2 next
theorem qK {x : Operand} {s n : Nat} {ts us : List T} {t : TypeId} (ht : D7 P t true = true) (hz : Gs P t n = true) (h : (hd st.env ops i X.n, opd st.env x, ts.take n, us.length) = (some (.load t x, s, gs), some (.e (.one (.rop ts))), us, n)) (next : Nx P X ops dr Q r i st log ⟨gs ++ [(x, .e (.one (.rop ts)))], [], some s, some (.e (.agg (us.map C.pure))), [], []⟩) : A6 P X ops dr Q (r + 1) i st log :=
 R5 (CJ (t2 h).1) (t2 (t2 h).2).1 ht hz (t2 (t2 (t2 h).2).2).1 (t2 (t2 (t2 h).2).2).2 next
theorem qx {x : Operand} {xs : List E} {y : E} {k s : Nat} (h : (hd st.env ops i X.n, opd st.env x, xs[k]?) = (some (.extract x k, s, gs), some (.tup xs), some y)) (next : Nx P X ops dr Q r i st log ⟨gs ++ [(x, .tup xs)], [], some s, some (.e y), [], []⟩) : A6 P X ops dr Q (r + 1) i st log :=
 QZ (CJ (t2 h).1) (t2 (t2 h).2).1 (t2 (t2 h).2).2 next
theorem qb {x : Operand} {y : E} {s : Nat} {el : TypeId} (h : (hd st.env ops i X.n, opd st.env x, st.bx s) = (some (.box el x, s, gs), some (.e y), none)) (next : Nx P X ops dr Q r i st log ⟨gs ++ [(x, .e y)], [], some s, some (.e (.one (.ptr s 0))), [(s, .box y.cells)], [s]⟩) : A6 P X ops dr Q (r + 1) i st log :=
 VI (CJ (t2 h).1) (t2 (t2 h).2).1 (t2 (t2 h).2).2 next
theorem qz {z : Value} {zs : List Value} {s : Nat} {el : TypeId} (hz : DP P el = some z) (h : (hd st.env ops i X.n, z.cells.toList, zs.all Gt, st.bx s) = (some (.alloc el, s, gs), zs, true, none)) (next : Nx P X ops dr Q r i st log ⟨gs ++ [], [], some s, some (.e (.one (.ptr s 0))), [(s, .box (zs.map fun v => C.pure (T.of v)))], [s]⟩) : A6 P X ops dr Q (r + 1) i st log :=
 Tl (CJ (t2 h).1) hz (t2 (t2 h).2).1 (t2 (t2 (t2 h).2).2).1 (t2 (t2 (t2 h).2).2).2 next
theorem qs {x y : Operand} {b k n : Nat} {cells cells' : List C} {v : E} {t : TypeId} (hz : Gs P t n = true) (h : (P4 ops i, opd st.env x, opd st.env y, st.bx b, v.cells.length, Nat.ble (k + n) (cells.length), Ih cells k v.cells) = (some (.store t x y), some (.e (.one (.ptr b k))), some (.e v), some (.box cells), n, true, cells')) (next : Nx P X ops dr Q r i st log ⟨[(x, .e (.one (.ptr b k))), (y, .e v)], [(b, .box cells)], none, none, [(b, .box cells')], []⟩) : A6 P X ops dr Q (r + 1) i st log :=
 Ta (t2 h).1 (t2 (t2 h).2).1 (t2 (t2 (t2 h).2).2).1 (t2 (t2 (t2 (t2 h).2).2).2).1 hz (t2 (t2 (t2 (t2 (t2 h).2).2).2).2).1 (Nat.le_of_ble_eq_true (t2 (t2 (t2 (t2 (t2 (t2 h).2).2).2).2).2).1) (t2 (t2 (t2 (t2 (t2 (t2 h).2).2).2).2).2).2 next
theorem qi {x y : Operand} {s e : Nat} {rows : List (List T)} {row : List T} {t el : TypeId} {k : IntKind} {n : Int} (ht : sliceB P t el = true) (hz : Gs P el e = true) (h0 : 0 ≤ n) (hrow : rows[n.toNat]? = some row) (h : (hd st.env ops i X.n, opd st.env x, opd st.env y, row.length) = (some (.indexAddr t x y, s, gs), some (one (.sl rows)), some (vD (.int k n)), e)) (next : Nx P X ops dr Q r i st log ⟨gs ++ [(x, one (.sl rows)), (y, vD (.int k n))], [], some s, some (.e (.one (.rop row))), [], []⟩) : A6 P X ops dr Q (r + 1) i st log :=
 Th (CJ (t2 h).1) (t2 (t2 h).2).1 (t2 (t2 (t2 h).2).2).1 ht hz h0 hrow (t2 (t2 (t2 h).2).2).2 next
theorem qI {x y : Operand} {s e b : Nat} {rows : List (List T)} {row : List T} {t el : TypeId} {k : IntKind} {n : Int} (ht : sliceB P t el = true) (hz : Gs P el e = true) (h0 : 0 ≤ n) (hrow : rows[n.toNat]? = some row) (h : (hd st.env ops i X.n, opd st.env x, opd st.env y, st.bx b) = (some (.indexAddr t x y, s, gs), some (.e (.one (.own b))), some (vD (.int k n)), some (.vec e rows))) (next : Nx P X ops dr Q r i st log ⟨gs ++ [(x, .e (.one (.own b))), (y, vD (.int k n))], [(b, .vec e rows)], some s, some (.e (.one (.eptr b e n.toNat 0))), [], []⟩) : A6 P X ops dr Q (r + 1) i st log :=
 Pv (CJ (t2 h).1) (t2 (t2 h).2).1 (t2 (t2 (t2 h).2).2).1 (t2 (t2 (t2 h).2).2).2 ht hz h0 hrow next
theorem qj {x : Operand} {b e ix k s : Nat} {rows : List (List T)} {row : List T} {u : T} {t : TypeId} (ht : D7 P t false = true) (hrow : rows[ix]? = some row) (h : (hd st.env ops i X.n, opd st.env x, st.bx b, row[k]?) = (some (.load t x, s, gs), some (.e (.one (.eptr b e ix k))), some (.vec e rows), some u)) (next : Nx P X ops dr Q r i st log ⟨gs ++ [(x, .e (.one (.eptr b e ix k)))], [(b, .vec e rows)], some s, some (one u), [], []⟩) : A6 P X ops dr Q (r + 1) i st log :=
 Pd (CJ (t2 h).1) (t2 (t2 h).2).1 ht (t2 (t2 (t2 h).2).2).1 hrow (t2 (t2 (t2 h).2).2).2 next
theorem qJ {x : Operand} {b e ix s : Nat} {rows : List (List T)} {row : List T} {t : TypeId} (ht : D7 P t true = true) (hz : Gs P t e = true) (hrow : rows[ix]? = some row) (h : (hd st.env ops i X.n, opd st.env x, st.bx b) = (some (.load t x, s, gs), some (.e (.one (.eptr b e ix 0))), some (.vec e rows))) (next : Nx P X ops dr Q r i st log ⟨gs ++ [(x, .e (.one (.eptr b e ix 0)))], [(b, .vec e rows)], some s, some (.e (.agg (row.map C.pure))), [], []⟩) : A6 P X ops dr Q (r + 1) i st log :=
 Sg (CJ (t2 h).1) (t2 (t2 h).2).1 ht hz (t2 (t2 h).2).2 hrow next
theorem Tv {x : Operand} {s b k : Nat} (h : (hd st.env ops i X.n, opd st.env x) = (some (.nilCheck x, s, gs), some (.e (.one (.ptr b k))))) (next : Nx P X ops dr Q r i st log ⟨gs ++ [(x, .e (.one (.ptr b k)))], [], some s, some (.e (.one (.ptr b k))), [], []⟩) : A6 P X ops dr Q (r + 1) i st log :=
 Qd (CJ (t2 h).1) (t2 h).2 next
theorem Bq {k : IntKind} {xt yt : TypeId} {x y : Operand} {a b : Int} {s : Nat} (h : (hd st.env ops i X.n, opd st.env x, opd st.env y) = (some (.binOp .add xt x y yt, s, gs), some (vD (.int k a)), some (vD (.int k b)))) (next : Nx P X ops dr Q r i st log ⟨gs ++ [(x, vD (.int k a)), (y, vD (.int k b))], [], some s, some (vD (.int k (k.wrap (a + b)))), [], []⟩) : A6 P X ops dr Q (r + 1) i st log :=
 Gp (CJ (t2 h).1) (t2 (t2 h).2).1 (t2 (t2 h).2).2 (Tt _ _ _ _ _ _) rfl next
theorem PI {k : IntKind} {xt yt : TypeId} {x y : Operand} {a b : Int} {s : Nat} (h : (hd st.env ops i X.n, opd st.env x, opd st.env y) = (some (.binOp .sub xt x y yt, s, gs), some (vD (.int k a)), some (vD (.int k b)))) (next : Nx P X ops dr Q r i st log ⟨gs ++ [(x, vD (.int k a)), (y, vD (.int k b))], [], some s, some (vD (.int k (k.wrap (a - b)))), [], []⟩) : A6 P X ops dr Q (r + 1) i st log :=
 Gp (CJ (t2 h).1) (t2 (t2 h).2).1 (t2 (t2 h).2).2 (TA _ _ _ _ _ _) rfl next
theorem Ki {k : IntKind} {xt yt : TypeId} {x y : Operand} {a b : Int} {s : Nat} (h : (hd st.env ops i X.n, opd st.env x, opd st.env y) = (some (.binOp .mul xt x y yt, s, gs), some (vD (.int k a)), some (vD (.int k b)))) (next : Nx P X ops dr Q r i st log ⟨gs ++ [(x, vD (.int k a)), (y, vD (.int k b))], [], some s, some (vD (.int k (k.wrap (a * b)))), [], []⟩) : A6 P X ops dr Q (r + 1) i st log :=
 Gp (CJ (t2 h).1) (t2 (t2 h).2).1 (t2 (t2 h).2).2 (T4 _ _ _ _ _ _) rfl next
theorem Bv {k : IntKind} {xt yt : TypeId} {x y : Operand} {a b : Int} {s : Nat} (h : (hd st.env ops i X.n, opd st.env x, opd st.env y) = (some (.binOp .eql xt x y yt, s, gs), some (vD (.int k a)), some (vD (.int k b)))) (next : Nx P X ops dr Q r i st log ⟨gs ++ [(x, vD (.int k a)), (y, vD (.int k b))], [], some s, some (vD (.bool (a == b))), [], []⟩) : A6 P X ops dr Q (r + 1) i st log :=
 Gp (CJ (t2 h).1) (t2 (t2 h).2).1 (t2 (t2 h).2).2 (Tk _ _ _ _ _ _) rfl next
theorem By {k : IntKind} {xt yt : TypeId} {x y : Operand} {a b : Int} {s : Nat} (h : (hd st.env ops i X.n, opd st.env x, opd st.env y) = (some (.binOp .neq xt x y yt, s, gs), some (vD (.int k a)), some (vD (.int k b)))) (next : Nx P X ops dr Q r i st log ⟨gs ++ [(x, vD (.int k a)), (y, vD (.int k b))], [], some s, some (vD (.bool (a != b))), [], []⟩) : A6 P X ops dr Q (r + 1) i st log :=
 Gp (CJ (t2 h).1) (t2 (t2 h).2).1 (t2 (t2 h).2).2 (TD _ _ _ _ _ _) rfl next
theorem A1 {k : IntKind} {xt yt : TypeId} {x y : Operand} {a b : Int} {s : Nat} (h : (hd st.env ops i X.n, opd st.env x, opd st.env y) = (some (.binOp .lss xt x y yt, s, gs), some (vD (.int k a)), some (vD (.int k b)))) (next : Nx P X ops dr Q r i st log ⟨gs ++ [(x, vD (.int k a)), (y, vD (.int k b))], [], some s, some (vD (.bool (decide (a < b)))), [], []⟩) : A6 P X ops dr Q (r + 1) i st log :=
 Gp (CJ (t2 h).1) (t2 (t2 h).2).1 (t2 (t2 h).2).2 (T3 _ _ _ _ _ _) rfl next
theorem Wt {k : IntKind} {xt yt : TypeId} {x y : Operand} {a b : Int} {s : Nat} (h : (hd st.env ops i X.n, opd st.env x, opd st.env y) = (some (.binOp .leq xt x y yt, s, gs), some (vD (.int k a)), some (vD (.int k b)))) (next : Nx P X ops dr Q r i st log ⟨gs ++ [(x, vD (.int k a)), (y, vD (.int k b))], [], some s, some (vD (.bool (decide (a ≤ b)))), [], []⟩) : A6 P X ops dr Q (r + 1) i st log :=
 Gp (CJ (t2 h).1) (t2 (t2 h).2).1 (t2 (t2 h).2).2 (Tc _ _ _ _ _ _) rfl next
theorem E0 {k : IntKind} {xt yt : TypeId} {x y : Operand} {a b : Int} {s : Nat} (h : (hd st.env ops i X.n, opd st.env x, opd st.env y) = (some (.binOp .gtr xt x y yt, s, gs), some (vD (.int k a)), some (vD (.int k b)))) (next : Nx P X ops dr Q r i st log ⟨gs ++ [(x, vD (.int k a)), (y, vD (.int k b))], [], some s, some (vD (.bool (decide (b < a)))), [], []⟩) : A6 P X ops dr Q (r + 1) i st log :=
 Gp (CJ (t2 h).1) (t2 (t2 h).2).1 (t2 (t2 h).2).2 (Tb _ _ _ _ _ _) rfl next
theorem D1 {k : IntKind} {xt yt : TypeId} {x y : Operand} {a b : Int} {s : Nat} (h : (hd st.env ops i X.n, opd st.env x, opd st.env y) = (some (.binOp .geq xt x y yt, s, gs), some (vD (.int k a)), some (vD (.int k b)))) (next : Nx P X ops dr Q r i st log ⟨gs ++ [(x, vD (.int k a)), (y, vD (.int k b))], [], some s, some (vD (.bool (decide (b ≤ a)))), [], []⟩) : A6 P X ops dr Q (r + 1) i st log :=
 Gp (CJ (t2 h).1) (t2 (t2 h).2).1 (t2 (t2 h).2).2 (TC _ _ _ _ _ _) rfl next
theorem Lq {k : IntKind} {xt yt : TypeId} {x y : Operand} {a b : Int} {s : Nat} (h : (hd st.env ops i X.n, opd st.env x, opd st.env y) = (some (.binOp .and xt x y yt, s, gs), some (vD (.int k a)), some (vD (.int k b)))) (next : Nx P X ops dr Q r i st log ⟨gs ++ [(x, vD (.int k a)), (y, vD (.int k b))], [], some s, some (vD (.int k (Ft k a b))), [], []⟩) : A6 P X ops dr Q (r + 1) i st log :=
 Gp (CJ (t2 h).1) (t2 (t2 h).2).1 (t2 (t2 h).2).2 (Tr _ _ _ _ _ _) rfl next
theorem RV {k : IntKind} {xt yt : TypeId} {x y : Operand} {a b : Int} {s : Nat} (h : (hd st.env ops i X.n, opd st.env x, opd st.env y) = (some (.binOp .or xt x y yt, s, gs), some (vD (.int k a)), some (vD (.int k b)))) (next : Nx P X ops dr Q r i st log ⟨gs ++ [(x, vD (.int k a)), (y, vD (.int k b))], [], some s, some (vD (.int k (ME k a b))), [], []⟩) : A6 P X ops dr Q (r + 1) i st log :=
 Gp (CJ (t2 h).1) (t2 (t2 h).2).1 (t2 (t2 h).2).2 (UT _ _ _ _ _ _) rfl next
theorem HD {k : IntKind} {xt yt : TypeId} {x y : Operand} {a b : Int} {s : Nat} (h : (hd st.env ops i X.n, opd st.env x, opd st.env y) = (some (.binOp .andNot xt x y yt, s, gs), some (vD (.int k a)), some (vD (.int k b)))) (next : Nx P X ops dr Q r i st log ⟨gs ++ [(x, vD (.int k a)), (y, vD (.int k b))], [], some s, some (vD (.int k (Cz k a b))), [], []⟩) : A6 P X ops dr Q (r + 1) i st log :=
 Gp (CJ (t2 h).1) (t2 (t2 h).2).1 (t2 (t2 h).2).2 (P7 _ _ _ _ _ _) rfl next
theorem HU {k k' : IntKind} {xt yt : TypeId} {x y : Operand} {a b : Int} {s : Nat} (h : (hd st.env ops i X.n, opd st.env x, opd st.env y) = (some (.binOp .shl xt x y yt, s, gs), some (vD (.int k a)), some (vD (.int k' b)))) (hc : 0 ≤ b) (next : Nx P X ops dr Q r i st log ⟨gs ++ [(x, vD (.int k a)), (y, vD (.int k' b))], [], some s, some (vD (.int k (C0 k a b))), [], []⟩) : A6 P X ops dr Q (r + 1) i st log :=
 Gp (CJ (t2 h).1) (t2 (t2 h).2).1 (t2 (t2 h).2).2 (Tz _ _ _ _ _ _ _ hc) rfl next
theorem If {k k' : IntKind} {xt yt : TypeId} {x y : Operand} {a b : Int} {s : Nat} (h : (hd st.env ops i X.n, opd st.env x, opd st.env y) = (some (.binOp .shr xt x y yt, s, gs), some (vD (.int k a)), some (vD (.int k' b)))) (hc : 0 ≤ b) (next : Nx P X ops dr Q r i st log ⟨gs ++ [(x, vD (.int k a)), (y, vD (.int k' b))], [], some s, some (vD (.int k (EA k a b))), [], []⟩) : A6 P X ops dr Q (r + 1) i st log :=
 Gp (CJ (t2 h).1) (t2 (t2 h).2).1 (t2 (t2 h).2).2 (TF _ _ _ _ _ _ _ hc) rfl next
theorem JC {k : IntKind} {xt yt : TypeId} {x y : Operand} {a b : Int} {s : Nat} (h : (hd st.env ops i X.n, opd st.env x, opd st.env y) = (some (.binOp .rem xt x y yt, s, gs), some (vD (.int k a)), some (vD (.int k b)))) (hc : b ≠ 0) (next : Nx P X ops dr Q r i st log ⟨gs ++ [(x, vD (.int k a)), (y, vD (.int k b))], [], some s, some (vD (.int k (a.tmod b))), [], []⟩) : A6 P X ops dr Q (r + 1) i st log :=
 Gp (CJ (t2 h).1) (t2 (t2 h).2).1 (t2 (t2 h).2).2 (SS _ _ _ _ _ _ hc) rfl next
theorem Cd {xt : TypeId} {x : Operand} {b : Bool} {s : Nat} (h : (hd st.env ops i X.n, opd st.env x) = (some (.unOp .not xt x, s, gs), some (bD b))) (next : Nx P X ops dr Q r i st log ⟨gs ++ [(x, bD b)], [], some s, some (vD (.bool (!b))), [], []⟩) : A6 P X ops dr Q (r + 1) i st log :=
 WF (CJ (t2 h).1) (t2 h).2 (U3 _) rfl next
theorem IS {xt yt : TypeId} {k k' : IntKind} {x : Operand} {a : Int} {s : Nat} (hs : (P.underlying xt).isSome = true) (ht : N2 P yt k = true) (h : (hd st.env ops i X.n, opd st.env x) = (some (.convert xt yt x, s, gs), some (vD (.int k' a)))) (next : Nx P X ops dr Q r i st log ⟨gs ++ [(x, vD (.int k' a))], [], some s, some (vD (.int k (k.wrap a))), [], []⟩) : A6 P X ops dr Q (r + 1) i st log :=
 UH (CJ (t2 h).1) (t2 h).2 (R6 hs ht _ _) rfl next
theorem AG {α : Type} {f : α → List T} {xs : List α} {x : Operand} {s : Nat} {t el : TypeId} (ht : sliceB P t el = true) (h : (hd st.env ops i X.n, opd st.env x) = (some (.call ⟨.builtin .len, #[x], #[t]⟩, s, gs), some (one (.sl (xs.map f))))) (next : Nx P X ops dr Q r i st log ⟨gs ++ [(x, one (.sl (xs.map f)))], [], some s, some (vD (.int .i64 (xs.length : Int))), [], []⟩) : A6 P X ops dr Q (r + 1) i st log :=
 Un (CJ (t2 h).1) (t2 h).2 (.sl _) trivial (List.length_map _) ht next
theorem E9 {α : Type} {f : α → List T} {xs : List α} {x : Operand} {s b e : Nat} {t el : TypeId} (ht : sliceB P t el = true) (h : (hd st.env ops i X.n, opd st.env x, st.bx b) = (some (.call ⟨.builtin .len, #[x], #[t]⟩, s, gs), some (.e (.one (.own b))), some (.vec e (xs.map f)))) (next : Nx P X ops dr Q r i st log ⟨gs ++ [(x, .e (.one (.own b)))], [(b, .vec e (xs.map f))], some s, some (vD (.int .i64 (xs.length : Int))), [], []⟩) : A6 P X ops dr Q (r + 1) i st log :=
 Un (CJ (t2 h).1) (t2 (t2 h).2).1 (.own _ _ _) ⟨(t2 (t2 h).2).2, trivial⟩ (List.length_map _) ht next
theorem AR {t : TypeId} {s : Nat} {z : Value} {zs : List Value} {pl : List (Nat × Nat)} {cells : List C} {parts : Array (Nat × Operand)} {ps : List (Nat × Operand × E)} (hz : DP P t = some z) (hpl : HW P t = some pl) (h : (hd st.env ops i X.n, Vl st.env parts.toList, z.cells.toList, zs.all Gt, KA (pl[·]?) (zs.map fun v => C.pure (T.of v)) (ps.map fun p => (p.1, p.2.2))) = (some (.build t parts, s, gs), some ps, zs, true, some cells)) (next : Nx P X ops dr Q r i st log ⟨gs ++ Hs ps, [], some s, some (.e (.agg cells)), [], []⟩) : A6 P X ops dr Q (r + 1) i st log :=
 have q := RZ (t2 (t2 h).2).1
 TY ps (CJ (t2 h).1) (by rw [← q.1]) q.2 hz (t2 (t2 (t2 h).2).2).1 (t2 (t2 (t2 (t2 h).2).2).2).1 hpl (t2 (t2 (t2 (t2 h).2).2).2).2 next
theorem El {t el : TypeId} {s n e : Nat} {z : Value} {rows : List (List T)} {parts : Array (Nat × Operand)} {ps : List (Nat × Operand × E)} (ht : sliceB P t el = true) (he : Gs P el e = true) (hz : DP P el = some z) (h : (hd st.env ops i X.n, Vl st.env parts.toList, st.bx s, Tm 0 ps, ps.length, Nat.ble (n * e) 16777216, (ps.map fun p => (p.1, p.2.2)).mapM (fun p => p.2.ts), rows.all (fun row => row.length == e)) = (some (.buildSlice t n parts, s, gs), some ps, none, true, n, true, some rows, true)) (next : Nx P X ops dr Q r i st log ⟨gs ++ Hs ps, [], some s, some (.e (.one (.own s))), [(s, .vec e rows)], [s]⟩) : A6 P X ops dr Q (r + 1) i st log :=
 have q := RZ (t2 (t2 h).2).1
 have g := (t2 (t2 (t2 h).2).2).2
 NR ps (CJ (t2 h).1) (by rw [← q.1]) q.2 (t2 (t2 (t2 h).2).2).1 ht he hz (QJ (t2 g).1) (t2 (t2 g).2).1 (Nat.le_of_ble_eq_true (t2 (t2 (t2 g).2).2).1) (t2 (t2 (t2 (t2 g).2).2).2).1 (t2 (t2 (t2 (t2 g).2).2).2).2 next
theorem Av {f s : Nat} {xs : List Operand} {ds0 ds : List D} {rv : List (Nat × List (List T))} {res : D} {ts : Array TypeId} (ns : List Nat) (hc : As P f ds rv res) (hf : AD P f = true) (h : (hd st.env ops i X.n, RL st.env xs, ds0.map D.nrm, ds.all Rq, ns.length, HH ns && (ns.all fun n => !Bs n), ns.all (fun n => W0 (st.bx n)), res.names.all (fun b => decide (b < rv.length))) = (some (.call ⟨.value (.func f), xs.toArray, ts⟩, s, gs), some ds0, ds, true, rv.length, true, true, true)) (next : Nx P X ops dr Q r i st log ⟨gs ++ F8 xs ds0, [], some s, some (res.ren (nm ns)), IR ns rv, ns⟩) : A6 P X ops dr Q (r + 1) i st log :=
 have q := N3 (t2 (t2 h).2).1
 have g := (t2 (t2 (t2 h).2).2).2
 US ns hc (CJ (t2 h).1) hf q.1 q.2 (t2 (t2 (t2 h).2).2).1 (t2 g).1 (t2 (t2 g).2).1 (Nr (t2 (t2 (t2 g).2).2).1) (NT (t2 (t2 (t2 (t2 g).2).2).2).1) (t2 (t2 (t2 (t2 g).2).2).2).2 next
theorem Ip {f s : Nat} {xs : List Operand} {ds0 ds : List D} {rv : List (Nat × List (List T))} {res : D} {ts : Array TypeId} {bs : List (Nat × Bg)} (ns lb : List Nat) (hc : As P f ds rv res) (hf : AD P f = true) (hfv : PF rv) (h : (hd st.env ops i X.n, RL st.env xs, Wu st.bx lb, ds0.map (fun d => (d.lend bs).nrm), ds.all Rq, ns.length, HH ns && (ns.all fun n => !Bs n), ns.all (fun n => W0 (st.bx n)), res.flat, res.names.all (fun b => decide (b < rv.length))) = (some (.call ⟨.value (.func f), xs.toArray, ts⟩, s, gs), some ds0, some bs, ds, true, rv.length, true, true, true, true)) (next : Nx P X ops dr Q r i st log ⟨gs ++ F8 xs ds0, bs, some s, some (res.ren (nm ns)), IR ns rv, ns⟩) : A6 P X ops dr Q (r + 1) i st log :=
 have q := N3 (t2 (t2 h).2).1
 have g := (t2 (t2 (t2 h).2).2).2
 have g2 := (t2 (t2 (t2 g).2).2).2
 S3 ns bs hc (CJ (t2 h).1) hf q.1 q.2 (SD (t2 (t2 (t2 h).2).2).1) (t2 g).1 (t2 (t2 g).2).1 (t2 (t2 (t2 g).2).2).1 (Nr (t2 g2).1) (NT (t2 (t2 g2).2).1) (t2 (t2 (t2 g2).2).2).1 hfv (t2 (t2 (t2 g2).2).2).2 next
theorem Ek {α : Type} {f : α → List T} {xs : List α} {ys : List α} {x y : Operand} {t t2' el el2 s e bytes b b2 : Nat} {z : Value} (ht : sliceB P t el = true) (ht2 : sliceB P t2' el2 = true) (he : Gs P el e = true) (hby : EK P el bytes = true) (hz : DP P el = some z) (hlim : xs.length + ys.length ≤ Dx) (h : (hd st.env ops i X.n, opd st.env x, st.bx b, opd st.env y, st.bx b2, st.bx s, z.cells.size, Nat.ble bytes 4096, [b].all (fun b => !Bs b)) = (some (.call ⟨.builtin .append, #[x, y], #[t, t2']⟩, s, gs), some (.e (.one (.own b))), some (.vec e (xs.map f)), some (.e (.one (.own b2))), some (.vec e (ys.map f)), none, e, true, true)) (next : Nx P X ops dr Q r i st log ⟨gs ++ [(x, .e (.one (.own b))), (y, .e (.one (.own b2)))], [(b, .vec e (xs.map f))] ++ [(b2, .vec e (ys.map f))], some s, some (.e (.one (.own s))), (s, .vec e ((xs ++ ys).map f)) :: GS [b], [s]⟩) : A6 P X ops dr Q (r + 1) i st log :=
 Pb (CJ (t2 h).1) (t2 (t2 h).2).1 (.own _ _ _) ⟨(t2 (t2 (t2 h).2).2).1, trivial⟩ (t2 (t2 (t2 (t2 h).2).2).2).1 (.own _ _ _) ⟨(t2 (t2 (t2 (t2 (t2 h).2).2).2).2).1, trivial⟩ (t2 (t2 (t2 (t2 (t2 (t2 h).2).2).2).2).2).1 ht ht2 he hby (Nat.le_of_ble_eq_true (t2 (t2 (t2 (t2 (t2 (t2 (t2 (t2 h).2).2).2).2).2).2).2).1) hz (t2 (t2 (t2 (t2 (t2 (t2 (t2 h).2).2).2).2).2).2).1 (by simpa using hlim) (by simp) (t2 (t2 (t2 (t2 (t2 (t2 (t2 (t2 h).2).2).2).2).2).2).2).2 next
theorem H8 {α : Type} {f : α → List T} {xs : List α} {ys : List α} {x y : Operand} {t t2' el el2 s e bytes b : Nat} {z : Value} (ht : sliceB P t el = true) (ht2 : sliceB P t2' el2 = true) (he : Gs P el e = true) (hby : EK P el bytes = true) (hz : DP P el = some z) (hf : ∀ x, (f x).length = e) (hlim : xs.length + ys.length ≤ Dx) (h : (hd st.env ops i X.n, opd st.env x, st.bx b, opd st.env y, st.bx s, z.cells.size, Nat.ble bytes 4096, [b].all (fun b => !Bs b)) = (some (.call ⟨.builtin .append, #[x, y], #[t, t2']⟩, s, gs), some (.e (.one (.own b))), some (.vec e (xs.map f)), some (one (.sl (ys.map f))), none, e, true, true)) (next : Nx P X ops dr Q r i st log ⟨gs ++ [(x, .e (.one (.own b))), (y, one (.sl (ys.map f)))], [(b, .vec e (xs.map f))] ++ [], some s, some (.e (.one (.own s))), (s, .vec e ((xs ++ ys).map f)) :: GS [b], [s]⟩) : A6 P X ops dr Q (r + 1) i st log :=
 Pb (CJ (t2 h).1) (t2 (t2 h).2).1 (.own _ _ _) ⟨(t2 (t2 (t2 h).2).2).1, trivial⟩ (t2 (t2 (t2 (t2 h).2).2).2).1 (.sl _ _ (FI hf _)) trivial (t2 (t2 (t2 (t2 (t2 h).2).2).2).2).1 ht ht2 he hby (Nat.le_of_ble_eq_true (t2 (t2 (t2 (t2 (t2 (t2 (t2 h).2).2).2).2).2).2).1) hz (t2 (t2 (t2 (t2 (t2 (t2 h).2).2).2).2).2).1 (by simpa using hlim) (by simp) (t2 (t2 (t2 (t2 (t2 (t2 (t2 h).2).2).2).2).2).2).2 next
end run
end Go.Lift
namespace Go.Lift
open Go.RowKit
variable {P : Program}
def Vu (P : Program) : List D → List D → Prop
 | [], [] => True
 | a :: ar, b :: bs => (∀ (w : World) (G : Gh) (v : Value), F9 P w G v a → F9 P w G v b) ∧ Vu P ar bs
 | _, _ => False
theorem Vu.get : ∀ {ar bs : List D}, Vu P ar bs → ar.length = bs.length ∧ ∀ (j : Nat) (b : D), bs[j]? = some b → ∃ a, ar[j]? = some a ∧ ∀ (w : World) (G : Gh) (v : Value), F9 P w G v a → F9 P w G v b
 | [], [], _ => ⟨rfl, fun j b h => by simp at h⟩
 | a :: ar, b :: bs, h => by
  obtain ⟨h1, h2⟩ := Vu.get h.2
  refine ⟨by simp [h1], fun j c hj => ?_⟩
  cases j with
  | zero => simp at hj; subst hj; exact ⟨a, rfl, h.1⟩
  | succ j => obtain ⟨a', g1, g2⟩ := h2 j c (by simpa using hj); exact ⟨a', by simpa using g1, g2⟩
theorem C8.weak {f : FuncId} {ds ds' : List D} {lent : List (Bg × Bg)} {rv : List Bg} {res : D} (h : C8 P f ds lent rv res) (hp : Vu P ds' ds) : C8 P f ds' lent rv res := by
 intro w G vs h1 hgk h2 h3 h4 hlen hargs
 obtain ⟨g1, g2⟩ := hp.get
 refine h w G vs h1 hgk h2 h3 h4 (by rw [hlen, g1]) fun j d hj => ?_
 obtain ⟨a, e1, e2⟩ := g2 j d hj
 exact e2 w G _ (hargs j a e1)
end Go.Lift
namespace Go.Lift
open Go.RowKit
variable {P : Program} {X : G7} {ops : Array Oper}
section run
variable {dr : Bool} {Q : St → Prop} {r i : Nat} {st : St} {log : List (Nat × Cc)} {gs : List (Operand × D)}
end run
end Go.Lift
namespace Go.Lift
abbrev iC (x : Int) : C := .pure (.val (.int .i64 x))
abbrev sC (l : List (List T)) : C := .pure (.sl l)
abbrev iD (x : Int) : D := .e (.one (.pure (.val (.int .i64 x))))
abbrev pD (t : T) : D := .e (.one (.pure t))
abbrev oD (c : C) : D := .e (.one c)
theorem tv : True := trivial
end Go.Lift
namespace Go.Lift
open Go.RowKit
variable {P : Program} {X : G7} {ops : Array Oper}
section run
variable {dr : Bool} {Q : St → Prop} {r i : Nat} {st : St} {log : List (Nat × Cc)} {o : Oper} {gs : List (Operand × D)}
end run
end Go.Lift
namespace Go.Lift
open Go.RowKit
variable {P : Program} {X : G7} {ops : Array Oper}
def nt (b : Nat) (ns : List Nat) (c : Nat) : Nat := if c = 90900 then b else ns.getD c 0
section run
variable {dr : Bool} {Q : St → Prop} {r i : Nat} {st : St} {log : List (Nat × Cc)} {o : Oper} {gs : List (Operand × D)}
end run
end Go.Lift
namespace Go.Lift
open Go.RowKit
variable {P : Program} {X : G7} {ops : Array Oper}
end Go.Lift
namespace Go.Lift
open List renaming mem_of_getElem? → lM
open List renaming getD_eq_getElem?_getD → lD
open Go.RowKit
variable {P : Program} {X : G7} {ops : Array Oper}
def Gx.toC : Gx → C
 | .tr t => .pure t
 | .rop ts => .rop ts
 | .ptr b k => .ptr b k
 | .own b => .own b
 | .mref b => .mref b
def Gx.toD (c : Gx) : D := .e (.one c.toC)
theorem Gx.rd_toD {w : World} {G : Gh} {v : Value} {c : Gx} (h : IL w G v c) : F9 P w G v c.toD := by
 cases c <;> exact h
theorem Gx.names_toC (c : Gx) : c.toC.names = c.names := by cases c <;> rfl
theorem Gx.of_toC {w : World} {G : Gh} {v : Value} {c : Gx} (h : Ed P w G v c.toC) : IL w G v c := by
 cases c <;> exact h
section run
variable {dr : Bool} {Q : St → Prop} {r i : Nat} {st : St} {log : List (Nat × Cc)} {o : Oper} {gs : List (Operand × D)}
theorem O2 {f : FuncId} {s : Nat} {xs : List Operand} (caps : List Gx) (hat : At st.env ops i X.n (.makeFunc (.func f) #[] xs.toArray) s gs)
  (hl : xs.length = caps.length) (hx : EF st.env (F8 xs (caps.map Gx.toD)))
  (next : A6 P X ops dr Q r (i + 1) (Cc.upd ⟨gs ++ F8 xs (caps.map Gx.toD), [], some s, some (.e (.one (.cls f caps))), [], []⟩ st) ((i, ⟨gs ++ F8 xs (caps.map Gx.toD), [], some s, some (.e (.one (.cls f caps))), [], []⟩) :: log)) : A6 P X ops dr Q (r + 1) i st log := by
 obtain ⟨o, ho, hop, hd, hn, hg, hgp⟩ := hat.out
 refine A6.step next ⟨Al.2 ⟨hgp, hx⟩, trivial, trivial⟩ (LR.value ho hg rfl hd.symm (C5 hd hn) ?_)
 intro G st a w hs hpre
 have hx := (Al.1 hpre.r).2
 have hget : ∀ (j : Nat) (c : Gx), caps[j]? = some c → ∃ y, xs[j]? = some y ∧ opd st.env y = some c.toD := fun j c hj => by
  have hlt := AF hj
  have hxj : xs[j]? = some (xs[j]'(by omega)) := by simp [show j < xs.length from by omega]
  exact ⟨_, hxj, GU (by simpa using hl) hx j _ c.toD hxj (by rw [List.getElem?_map, hj]; rfl)⟩
 refine ⟨.func (.func f) #[] (xs.toArray.map a.eval), w, G, ?_, hs, ?_⟩
 ·simp only [execOp, hop]
  exact Ak (a := .func (.func f) #[] (xs.toArray.map a.eval)) (w1 := w) (by simp [Instr.makeFunc]) rfl
 ·rintro d ⟨⟩
  refine ⟨⟨_, rfl, by simp [hl], fun j c hj => ?_⟩, fun b hb => ?_⟩
  ·obtain ⟨y, h1, h2⟩ := hget j c hj
   have hcell : Au (xs.toArray.map a.eval) j = a.eval y := by
    unfold Au
    simp [h1]
   rw [hcell]
   exact Gx.of_toC (P := P) (hs.opd h2)
  ·obtain ⟨c, hc, hb⟩ := EI.1 (show b ∈ DQ caps from hb)
   obtain ⟨j, hj⟩ := List.mem_iff_getElem?.1 hc
   obtain ⟨y, _, h2⟩ := hget j c hj
   refine hs.opd_live h2 b ?_
   show b ∈ c.toC.names
   rw [Gx.names_toC]; exact hb
theorem TS {f s : Nat} {x : Operand} {caps : List Gx} {xs : List Operand} {ds0 ds : List D} {lent : List (Bg × Bg)} {rv : List Bg} {res : D} {ts : Array TypeId} (ls ns : List Nat) (ch : List Bool) (hc : C8 P f ds lent rv res) (hat : At st.env ops i X.n (.call ⟨.value x, xs.toArray, ts⟩) s gs)
  (hxx : opd st.env x = some (.e (.one (.cls f caps)))) (hf : AD P f = true) (hl : xs.length = ds0.length) (hx : EF st.env (F8 xs ds0)) (hds : ds0.map D.nrm ++ caps.map (fun c => (c.toD).nrm) = ds.map (D.ren (nu ls ns)))
  (hll : ls.length = lent.length) (hln : ls.Nodup) (hlb : FX st.bx (Im (nu ls ns) ls lent)) (hns : ns.length = rv.length) (hndl : JZ ns) (hnew : KS st.bx ns) (hch : Pm lent ch)
  (hlim : (Nat.ble lent.length 1000 && Nat.ble rv.length 1000) = true) (hre : (lent.all fun x => x.1.real && x.2.real) = true)
  (hnm : (EZ lent.length rv.length res.names && (lent.all fun x => EZ lent.length rv.length x.2.names) && rv.all fun x => EZ lent.length rv.length x.names) = true)
  (next : A6 P X ops dr Q r (i + 1) (Cc.upd ⟨gs ++ ((x, .e (.one (.cls f caps))) :: F8 xs ds0), Im (nu ls ns) ls lent, some s, some (res.ren (nu ls ns)), FM (nu ls ns) ls lent ch (newB (nu ls ns) ns rv), ns⟩ st) ((i, ⟨gs ++ ((x, .e (.one (.cls f caps))) :: F8 xs ds0), Im (nu ls ns) ls lent, some s, some (res.ren (nu ls ns)), FM (nu ls ns) ls lent ch (newB (nu ls ns) ns rv), ns⟩) :: log)) : A6 P X ops dr Q (r + 1) i st log := by
 obtain ⟨o, ho, hop, hd, hn, hg, hgp⟩ := hat.out
 have hnd := hndl.1
 rw [Bool.and_eq_true] at hlim
 have hlim1 := Nat.le_of_ble_eq_true hlim.1
 have hlim2 := Nat.le_of_ble_eq_true hlim.2
 rw [Bool.and_eq_true, Bool.and_eq_true] at hnm
 obtain ⟨⟨hnmR, hnmL⟩, hnmV⟩ := hnm
 have hre' : ∀ x, x ∈ lent → x.1.real = true ∧ x.2.real = true := fun x hx => by
  have := List.all_eq_true.1 hre x hx
  rw [Bool.and_eq_true] at this
  exact this
 refine A6.step next ⟨Al.2 ⟨hgp, hxx, hx⟩, hlb, hnew⟩ ?_
 intro st a w K Q' hs hpre hK
 obtain ⟨G, hs⟩ := hs
 have hxx := (Al.1 hpre.r).2.1
 have hx := (Al.1 hpre.r).2.2
 obtain ⟨cv, hcv, hcs, hcr⟩ : Ed P w G (a.eval x) (.cls f caps) := hs.opd hxx
 have hw := hs.wanted hg (Al.1 hpre.r).1
 have hnew := hpre.n
 have hlb := hpre.b
 have hnew' : ∀ c, c ∈ ns → st.bx c = none := by
  have : ∀ {l : List Nat}, KS st.bx l → ∀ c, c ∈ l → st.bx c = none := by
   intro l
   induction l with
   | nil => intro _ c hc; cases hc
   | cons b l ih =>
    intro h c hc
    rcases List.mem_cons.1 hc with e | e
    ·subst e; exact h.1
    ·exact ih h.2 c e
  exact this hnew
 have hget := fun k x hk => KL (f := nu ls ns) hll hlb k x hk
 have hlk : ∀ k, k < lent.length → st.bx (nm ls k) = some (lent[k]!.1.ren (nu ls ns)) ∧ (lent[k]!.1.ren (nu ls ns)).real = true := fun k hk => by
  have hx0 : lent[k]? = some lent[k]! := by simp [hk]
  exact ⟨hget k _ hx0, by rw [HB]; exact (hre' _ (lM hx0)).1⟩
 have hlsns : ∀ c, c ∈ ls → c ∉ ns := fun c hc hm => by
  obtain ⟨k, hk, e⟩ := I0 hc
  have := (hlk k (by omega)).1
  rw [e, hnew' c hm] at this; cases this
 unfold wpOp
 rw [ho]
 simp only [hw, if_true]
 refine .inl ?_
 unfold Oper.wp
 have hrun : (execOp a.eval o).run P w = .ok (.enter f (xs.toArray.map a.eval ++ cv)) w := by
  simp only [execOp, hop]
  simp only [resolve, hcv, Deferred.ofValue]
  refine Ak (a := { target := .fn (.func f) cv, args := #[] ++ xs.toArray.map a.eval }) (w1 := w) rfl ?_
  simp only [invoke]
  rw [II hf]; simp
 rw [hrun]
 show Calls P f (xs.toArray.map a.eval ++ cv) w _
 let Gc : Gh := { S := G.S, loc := fun b => G.loc (nu ls ns b), hd := fun b => G.hd (nu ls ns b), more := fun b => G.more (nu ls ns b) }
 have hGc : ∀ k β, k < lent.length → (Gc.has (90000 + k) β ↔ G.has (nm ls k) β) := fun k β hk => by
  unfold Gh.has; simp only [Gc]; rw [Di (by omega)]
 refine (hc w Gc (xs.toArray.map a.eval ++ cv) hs.S_lt hs.gok ?_ ?_ ?_ ?_ ?_).mono ?_
 ·intro k x hk
  refine Hr (f := nu ls ns) ?_
  rw [Di (by have := AF hk; omega)]
  exact hs.blk _ _ (hget k x hk)
 ·intro k β hk hβ
  have h1 := hlk k hk
  exact (hs.at_ok _ _ β h1.1 h1.2 ((hGc k β hk).1 hβ)).2
 ·intro k l β hk hl' hβ hβ'
  have h1 := hlk k hk
  have h2 := hlk l hl'
  have := hs.at_inj _ _ _ _ β h1.1 h2.1 h1.2 h2.2 ((hGc k β hk).1 hβ) ((hGc l β hl').1 hβ')
  exact KP hln (by omega) (by omega) this
 ·have h1 := congrArg List.length hds
  simp at h1
  simp; omega
 ·intro j d hj
  have hj2 : (ds.map (D.ren (nu ls ns)))[j]? = some (d.ren (nu ls ns)) := by rw [List.getElem?_map, hj]; rfl
  rw [← hds] at hj2
  refine HF (f := nu ls ns) ?_
  by_cases hja : j < ds0.length
  ·rw [List.getElem?_append_left (by simpa using hja), List.getElem?_map] at hj2
   obtain ⟨d0, hj0, hd0⟩ : ∃ d0, ds0[j]? = some d0 ∧ d0.nrm = d.ren (nu ls ns) := by
    cases hx0 : ds0[j]? with
    | none => rw [hx0] at hj2; cases hj2
    | some d0 => rw [hx0] at hj2; exact ⟨d0, rfl, by simpa using hj2⟩
   have hxj : xs[j]? = some (xs[j]'(by omega)) := by simp [show j < xs.length from by omega]
   have hop' := GU hl hx j _ d0 hxj hj0
   have hcell : Au (xs.toArray.map a.eval ++ cv) j = a.eval (xs[j]'(by omega)) := by
    rw [Cx (by simp; omega)]
    simp [Au, show j < xs.length from by omega]
   rw [hcell, ← hd0]
   exact (hs.opd hop').nrm
  ·rw [List.getElem?_append_right (by simp; omega), List.length_map, List.getElem?_map] at hj2
   obtain ⟨c0, hj0, hd0⟩ : ∃ c0, caps[j - ds0.length]? = some c0 ∧ c0.toD.nrm = d.ren (nu ls ns) := by
    cases hx0 : caps[j - ds0.length]? with
    | none => rw [hx0] at hj2; cases hj2
    | some c0 => rw [hx0] at hj2; exact ⟨c0, rfl, by simpa using hj2⟩
   have hcell : Au (xs.toArray.map a.eval ++ cv) j = Au cv (j - ds0.length) := by
    rw [Fx (by simp; omega)]
    simp [hl]
   rw [hcell, ← hd0]
   exact (Gx.rd_toD (hcr _ _ hj0)).nrm
 ·rintro e w' ⟨v, G', rfl, hbel, hS1, hS2, hres', hpost, hvec, hsame, hlS, hvat, hvinj⟩
  show K (a.put o.dst v) w'
  rw [hd]
  let G2 : Gh := { S := G'.S, loc := fun c => if c ∈ ns then G'.loc (ns.idxOf c) else G.loc c, hd := fun c => if c ∈ ns then G'.hd (ns.idxOf c) else G.hd c, more := fun c => if c ∈ ns then G'.more (ns.idxOf c) else G.more c }
  have hidx : ∀ k, k < ns.length → ns.idxOf (nm ns k) = k := by
   intro k hk
   have hm := Dg hk
   have h1 : ns.idxOf (nm ns k) < ns.length := List.idxOf_lt_length_of_mem hm
   refine KP hnd h1 hk ?_
   have h2 := List.getElem_idxOf h1
   show ns.getD (ns.idxOf (nm ns k)) 0 = nm ns k
   rw [lD, List.getElem?_eq_getElem h1, Option.getD_some, h2]
  have hvia : G'.via G2 (nu ls ns) (fun b => Ey lent.length rv.length b = true) := by
   have key : ∀ b, Ey lent.length rv.length b = true → (∃ k, k < lent.length ∧ b = 90000 + k) ∨ (b < rv.length ∧ Bs b = false) := by
    intro b hb
    unfold Ey at hb
    split at hb
    ·rename_i h
     obtain ⟨k, _, rfl⟩ := GK h
     rw [Nat.blt_eq] at hb
     exact .inl ⟨k, by omega, rfl⟩
    ·rename_i h
     rw [Nat.blt_eq] at hb
     exact .inr ⟨hb, by simpa using h⟩
   refine ⟨fun β h => h, fun b hb => ?_, fun b hb => ?_, fun b hb => ?_⟩
   ·rcases key b hb with ⟨k, hk, rfl⟩ | ⟨hb1, hb2⟩
    ·rw [Di (by omega)]
     have hni : nm ls k ∉ ns := hlsns _ (Dg (by omega))
     simp only [G2]; rw [if_neg hni, (hsame k hk).1]; simp only [Gc]; rw [Di (by omega)]
    ·rw [GX (by omega)]
     simp only [G2]; rw [if_pos (Dg (by omega)), hidx b (by omega)]
   ·rcases key b hb with ⟨k, hk, rfl⟩ | ⟨hb1, hb2⟩
    ·rw [Di (by omega)]
     have hni : nm ls k ∉ ns := hlsns _ (Dg (by omega))
     simp only [G2]; rw [if_neg hni, (hsame k hk).2.1]; simp only [Gc]; rw [Di (by omega)]
    ·rw [GX (by omega)]
     simp only [G2]; rw [if_pos (Dg (by omega)), hidx b (by omega)]
   ·rcases key b hb with ⟨k, hk, rfl⟩ | ⟨hb1, hb2⟩
    ·rw [Di (by omega)]
     have hni : nm ls k ∉ ns := hlsns _ (Dg (by omega))
     simp only [G2]; rw [if_neg hni, (hsame k hk).2.2]; simp only [Gc]; rw [Di (by omega)]
    ·rw [GX (by omega)]
     simp only [G2]; rw [if_pos (Dg (by omega)), hidx b (by omega)]
  have hext : G.ext G2 (fun b => (st.bx b).isSome = true) := by
   have : ∀ b, (st.bx b).isSome = true → b ∉ ns := fun b hb hm => by rw [hnew' b hm] at hb; cases hb
   exact ⟨fun β h => hS1 β h, fun b hb => by simp only [G2]; rw [if_neg (this b hb)], fun b hb => by simp only [G2]; rw [if_neg (this b hb)], fun b hb => by simp only [G2]; rw [if_neg (this b hb)]⟩
  have hnotL : ∀ β, OP Gc lent.length β → ∃ k, k < lent.length ∧ G.has (nm ls k) β := fun β ⟨k, hk, hb⟩ => ⟨k, hk, (hGc k β hk).1 hb⟩
  have hwS : ∀ β, G.S β → w'.heap[β]? = w.heap[β]? := fun β hβ => hbel.block β (hs.S_lt β hβ) fun h => by
   obtain ⟨k, hk, hg⟩ := hnotL β h
   exact (hs.at_ok _ _ β (hlk k hk).1 (hlk k hk).2 hg).2.2 hβ
  have hsz := hbel.size
  have hle := hs.below.size
  have hng := fun c => Ks (f := nu ls ns) (bx := st.bx) (ns := ns) (rv := rv) (c := c) hns hnd
  have hbg := K2 (f := nu ls ns) (bx := st.bx) (r := newB (nu ls ns) ns rv) (ls := ls) (lent := lent) (ch := ch) hll hln hch (fun c hc => (hng c).1 (hlsns c hc)) hlb
  have hblk : ∀ c k, A8 st.bx (FM (nu ls ns) ls lent ch (newB (nu ls ns) ns rv)) c = some k →
    (c ∉ ns ∧ c ∉ ls ∧ st.bx c = some k) ∨ (∃ m x, m < ns.length ∧ nm ns m = c ∧ rv[m]? = some x ∧ k = x.ren (nu ls ns)) ∨ (∃ m x, m < ls.length ∧ nm ls m = c ∧ lent[m]? = some x ∧ k = x.2.ren (nu ls ns)) := by
   intro c k hc
   by_cases hm : c ∈ ls
   ·obtain ⟨m, hm1, hm2⟩ := I0 hm
    have hlx : lent[m]? = some (lent[m]'(by omega)) := by simp [show m < lent.length from by omega]
    have := hbg.2 m _ hlx
    rw [hm2, hc] at this
    exact .inr (.inr ⟨m, _, hm1, hm2, hlx, by simpa using this⟩)
   ·rw [hbg.1 c hm] at hc
    by_cases hm2 : c ∈ ns
    ·obtain ⟨m, hm1, hm3⟩ := I0 hm2
     have hrx : rv[m]? = some (rv[m]'(by omega)) := by simp [show m < rv.length from by omega]
     have := (hng c).2 m _ hrx
     rw [hm3, hc] at this
     exact .inr (.inl ⟨m, _, hm1, hm3, hrx, by simpa using this⟩)
    ·rw [(hng c).1 hm2] at hc; exact .inl ⟨hm2, hm, hc⟩
  have hdom : ∀ b, Ey lent.length rv.length b = true → (A8 st.bx (FM (nu ls ns) ls lent ch (newB (nu ls ns) ns rv)) (nu ls ns b)).isSome = true := by
   intro b hb
   unfold Ey at hb
   split at hb
   ·rename_i h
    obtain ⟨k, _, rfl⟩ := GK h
    rw [Nat.blt_eq] at hb
    have hk : k < lent.length := by omega
    rw [Di (by omega), hbg.2 k _ (show lent[k]? = some lent[k] by simp [hk])]; rfl
   ·rename_i h
    rw [Nat.blt_eq] at hb
    have hni : nm ns b ∉ ls := fun hm => hlsns _ hm (Dg (by omega))
    rw [GX (by omega), hbg.1 _ hni, (hng (nm ns b)).2 b _ (show rv[b]? = some rv[b] by simp [hb])]; rfl
  have hren : ∀ l : List Nat, EZ lent.length rv.length l = true → ∀ b, b ∈ l → Ey lent.length rv.length b = true := fun l h b hb => List.all_eq_true.1 h b hb
  have hrenB : ∀ (k : Bg) b, b ∈ (k.ren (nu ls ns)).names → ∃ b0, b0 ∈ k.names ∧ b = nu ls ns b0 := by
   intro k b hb
   cases k with
   | box cs =>
    obtain ⟨c, hc, hb⟩ := AU.1 hb
    obtain ⟨c0, h0, rfl⟩ := List.mem_map.1 hc
    obtain ⟨b0, h1, h2⟩ := H1 hb
    exact ⟨b0, AU.2 ⟨c0, h0, h1⟩, h2⟩
   | vec e rows => cases hb
   | mp es => cases hb
   | dvec e cols rs => cases hb
   | pvec n e cols rs => cases hb
   | hol e cols i0 k0 c rs => exact ⟨c, by simp [Bg.names], by simpa [Bg.ren, Bg.names] using hb⟩
   | gone => cases hb
  have hhasN : ∀ m β, m < ns.length → (G2.has (nm ns m) β ↔ G'.has m β) := fun m β hm => by
   have hmd : Ey lent.length rv.length m = true := by
    unfold Ey; rw [GP (show m < 90000 by omega) (Nat.le_refl _), if_neg (by simp), Nat.blt_eq]; omega
   have := hvia.has (β := β) hmd
   rwa [GX (by omega)] at this
  have key : CZ P X G2 ⟨st.env, A8 st.bx (FM (nu ls ns) ls lent ch (newB (nu ls ns) ns rv))⟩ a w' := by
   refine hs.frame (fun c hc => JR hc) hext hwS ?_ ?_ ?_ ?_ ?_ ?_ (fun b hb => by
    have : b ∉ ns := fun hm => by rw [hndl.2 b hm] at hb; cases hb
    simp only [G2]; rw [if_neg this, if_neg this, if_neg this]; exact ⟨rfl, rfl, rfl⟩)
   ·intro c k hc
    rcases hblk c k hc with ⟨_, h0, h1⟩ | ⟨m, x, h1, h2, h3, h4⟩ | ⟨m, x, h1, h2, h3, h4⟩
    ·refine .inl ⟨h1, fun β hr hβ => hbel.block β (hs.at_ok c k β h1 hr hβ).2.1 fun hL => ?_⟩
     obtain ⟨j, hj, hg⟩ := hnotL β hL
     exact h0 ((hs.at_inj _ _ _ _ β h1 (hlk j hj).1 hr (hlk j hj).2 hβ hg) ▸ Dg (by omega))
    ·subst h4
     have hmd : Ey lent.length rv.length m = true := by
      unfold Ey; rw [GP (show m < 90000 by omega) (Nat.le_refl _), if_neg (by simp), Nat.blt_eq]; omega
     have hxn := hren _ (List.all_eq_true.1 hnmV x (lM h3))
     refine .inr ⟨?_, fun c' hc' => ?_⟩
     ·have := (hvec m x h3).ren hvia hmd hxn
      rwa [GX (by omega), h2] at this
     ·obtain ⟨b0, hb0, rfl⟩ := hrenB x c' hc'
      exact hdom b0 (hxn b0 hb0)
    ·subst h4
     have hmd : Ey lent.length rv.length (90000 + m) = true := by
      unfold Ey; rw [Gz (by omega), if_pos rfl, Nat.blt_eq]; omega
     have hxn := hren _ (List.all_eq_true.1 hnmL x (lM h3))
     refine .inr ⟨?_, fun c' hc' => ?_⟩
     ·have := (hpost m x h3).ren hvia hmd hxn
      rwa [Di (by omega), h2] at this
     ·obtain ⟨b0, hb0, rfl⟩ := hrenB x.2 c' hc'
      exact hdom b0 (hxn b0 hb0)
   ·intro c k β hc hr hβ
    rcases hblk c k hc with ⟨h0, _, h1⟩ | ⟨m, x, h1, h2, h3, h4⟩ | ⟨m, x, h1, h2, h3, h4⟩
    ·have hβ := (hext.has (by rw [h1]; rfl)).1 hβ
     have := hs.at_ok c k β h1 hr hβ
     refine ⟨this.1, by omega, fun h => ?_⟩
     rcases hS2 β h with h | h
     ·exact this.2.2 h
     ·omega
    ·rw [← h2, hhasN m β h1] at hβ
     have := hvat m β (by omega) hβ
     exact ⟨.new (by omega), this.2.1, this.2.2⟩
    ·subst h2
     have h5 := hlk m (by omega)
     have hβ := (hext.has (by rw [h5.1]; rfl)).1 hβ
     have := hs.at_ok _ _ β h5.1 h5.2 hβ
     refine ⟨this.1, by omega, hlS m β (by omega) ?_⟩
     have h6 := hsame m (by omega)
     unfold Gh.has at hβ ⊢
     rw [h6.1, h6.2.2]
     simp only [Gc]; rw [Di (by omega)]; exact hβ
   ·intro c c' k k' β hc hc' hr hr' hβ hβ'
    have old : ∀ c k, A8 st.bx (FM (nu ls ns) ls lent ch (newB (nu ls ns) ns rv)) c = some k → k.real = true → G2.has c β → (∃ k0, st.bx c = some k0 ∧ k0.real = true ∧ G.has c β) ∨ ∃ m, m < ns.length ∧ nm ns m = c ∧ G'.has m β := by
     intro c k hc hr hβ
     rcases hblk c k hc with ⟨h0, _, h1⟩ | ⟨m, x, h1, h2, h3, h4⟩ | ⟨m, x, h1, h2, h3, h4⟩
     ·exact .inl ⟨k, h1, hr, (hext.has (by rw [h1]; rfl)).1 hβ⟩
     ·rw [← h2, hhasN m β h1] at hβ
      exact .inr ⟨m, h1, h2, hβ⟩
     ·subst h2
      have h5 := hlk m (by omega)
      exact .inl ⟨_, h5.1, h5.2, (hext.has (by rw [h5.1]; rfl)).1 hβ⟩
    rcases old c k hc hr hβ with ⟨k0, h1, h2, h3⟩ | ⟨m, h1, h2, h3⟩ <;> rcases old c' k' hc' hr' hβ' with ⟨k0', h1', h2', h3'⟩ | ⟨m', h1', h2', h3'⟩
    ·exact hs.at_inj c c' k0 k0' β h1 h1' h2 h2' h3 h3'
    ·have h5 := hvat m' β (by omega) h3'
     have h6 := (hs.at_ok c k0 β h1 h2 h3).2.1
     omega
    ·have h5 := hvat m β (by omega) h3
     have h6 := (hs.at_ok c' k0' β h1' h2' h3').2.1
     omega
    ·have := hvinj m m' β (by omega) (by omega) h3 h3'
     rw [← h2, ← h2', this]
   ·intro β h
    rcases hS2 β h with h | h
    ·have := hs.S_lt β h; omega
    ·exact h.2
   ·intro β h
    rcases hS2 β h with h | h
    ·exact hs.S_src β h
    ·exact .inr (by omega)
   ·refine hs.below.trans ⟨hbel.os, hbel.tape, hbel.output, hbel.size, hbel.drawn, fun k hk hnl => hbel.block k (by omega) fun hL => ?_⟩
    obtain ⟨j, hj, hg⟩ := hnotL k hL
    rcases (hs.at_ok _ _ k (hlk j hj).1 (hlk j hj).2 hg).1.2 with h | h
    ·omega
    ·exact hnl h
  refine hK _ _ ⟨G2, key.put (some s) (some (res.ren (nu ls ns))) v (by intro t e; cases e; exact hn) ?_⟩
  rintro d ⟨⟩
  refine ⟨hres'.ren hvia (hren _ hnmR), fun b hb => ?_⟩
  obtain ⟨b0, h1, h2⟩ := HZ hb
  rw [h2]
  exact hdom b0 (hren _ hnmR b0 h1)
end run
end Go.Lift
namespace Go.Lift
open Go.RowKit
variable {P : Program} {X : G7} {ops : Array Oper}
section run
variable {dr : Bool} {Q : St → Prop} {r i : Nat} {st : St} {log : List (Nat × Cc)} {o : Oper} {gs : List (Operand × D)}
end run
end Go.Lift
namespace Go.Lift
open Go.RowKit
variable {P : Program} {X : G7} {ops : Array Oper}
section run
variable {dr : Bool} {Q : St → Prop} {r i : Nat} {st : St} {log : List (Nat × Cc)} {o : Oper} {gs : List (Operand × D)}
end run
end Go.Lift
namespace Go.Lift
open Go.RowKit
variable {P : Program} {X : G7} {ops : Array Oper}
section run
variable {dr : Bool} {Q : St → Prop} {r i : Nat} {st : St} {log : List (Nat × Cc)} {o : Oper} {gs : List (Operand × D)}
end run
end Go.Lift
namespace Go.Lift
open Go.RowKit
variable {P : Program} {X : G7}
theorem Bh {α : Type} {c : Operand} {x y : Code} {Q : Exit → St → Prop} {st : St} {b : Bool} {e1 e2 : Option α} {v : α} (h : AL b e1 e2 = some v) (ht : e1 = some v → W P X x Q st) (hf : e2 = some v → W P X y Q st) (hc : opd st.env c = some (bD b) := by exact rfl) : W P X (.cond c x y) Q st :=
 U0 hc (fun k => ht (Uk k h)) (fun k => hf (T9 k h))
theorem Dp {ops : Array Oper} {dr : Bool} {Q : St → Prop} {r i : Nat} {st : St} {log : List (Nat × Cc)} {α : Type} {b : Bool} {e1 e2 : Option α} {v : α} (t : Nat) (h : AL b e1 e2 = some v) (hx : st.env t = some (bD b)) (h1 : e1 = some v → A6 P X ops dr Q r i (St.put st (some t) (some (bD true))) log) (h2 : e2 = some v → A6 P X ops dr Q r i (St.put st (some t) (some (bD false))) log) : A6 P X ops dr Q r i st log :=
 S9 hx (fun k => h1 (Uk k h)) (fun k => h2 (T9 k h))
theorem sn {V R : Type} {J : V → Option R} {r : R} {S : V → St} {s : St} {v : V} {el : List (Nat × D)} {bl : List (Nat × Bg)} (l : List (Nat × Nat)) (h : J v = some r) (e : S v = mk el bl := by exact rfl) (h1 : (VG s.env el, V3 (rn l) s.bx bl) = (V0 (rn l) el, Wk (rn l) bl) := by exact rfl) (h2 : ((HH ((Ee bl).map (rn l)) && K0 (rn l) (Ee bl)) && (Nk (Ee bl) el && NH (Ee bl) bl)) = true := by exact rfl) : ∃ v, J v = some r ∧ E8 P X s (S v) :=
 ⟨v, h, e ▸ sm l el bl h1 h2⟩
theorem Xu {y : Code} {id : Nat} {ops : Array Oper} {dr : Bool} {Q : Exit → St → Prop} {st : St} {n : Nat} (hm : P.follows .mixedOrders = true) (hn : ops.size = n)
  (h : A6 P X ops dr (fun st' => W P X y Q st') n 0 st []) : W P X (.seq (.region id ops dr) y) Q st :=
 AP (Aj hm hn h)
theorem B3 {G : Prop} {α β : Type} {xs : List α} {i : Int} {f : α → Option β} {r : β} (h : (BK xs i).bind f = some r) (k : ∀ x, 0 ≤ i → xs[i.toNat]? = some x → f x = some r → G) : G := by
 obtain ⟨x, a, b, c⟩ := Sb h
 exact k x a b c
theorem B9 {G : Prop} {α β : Type} {x : Option α} {f : α → Option β} {r : β} (h : x.bind f = some r) (k : ∀ a, x = some a → f a = some r → G) : G := by
 obtain ⟨a, b, c⟩ := bind_some h
 exact k a b c
theorem E1 {G : Prop} {β : Type} {p : Prop} [Decidable p] {f : Unit → Option β} {r : β} (h : (Dl p).bind f = some r) (k : p → f () = some r → G) : G := k (EQ h).1 (EQ h).2
section
variable {ops : Array Oper} {dr : Bool} {Q : St → Prop} {r i : Nat} {st : St} {log : List (Nat × Cc)} {gs : List (Operand × D)}
theorem qe {x : Operand} {d : D} {s : Nat} (h : (hd st.env ops i X.n, opd st.env x) = (some (.assign x, s, gs), some d)) (k : Q (Cc.upd ⟨gs ++ [(x, d)], [], some s, some d, [], []⟩ st)) : A6 P X ops false Q (0 + 1) i st log :=
 qa h (Ad k)
def Sr (n : Nat) (ops : Array Oper) (i : Nat) (st : St) : Option Cc :=
 match (match UP ops i n with
  | some (_, s, t, want) => (match st.env t with
   | some (.e (.one (.pure (.val (.bool b))))) => (match b, want with
    | true, false => some (s, t, want)
    | false, true => some (s, t, want)
    | _, _ => none)
   | _ => none)
  | none => none) with
 | some (s, t, want) => some ⟨[(.tmp t, bD (!want))], [], some s, some uD, [], []⟩
 | none => match hd st.env ops i n with
  | some (.move x, s, gs) => (opd st.env x).map fun d => ⟨gs ++ [(x, d)], [], some s, some d, [], []⟩
  | _ => none
def UK (n : Nat) (ops : Array Oper) : Nat → Nat → St → List (Nat × Cc) → Option (St × List (Nat × Cc))
 | 0, _, st, log => some (st, log)
 | k + 1, i, st, log => match Sr n ops i st with
  | none => none
  | some l => UK n ops k (i + 1) (Cc.upd l st) ((i, l) :: log)
theorem R9 {l : Cc} (h : Sr X.n ops i st = some l) (next : Nx P X ops dr Q r i st log l) : A6 P X ops dr Q (r + 1) i st log := by
 unfold Sr at h
 split at h
 ·rename_i s t want hh
  split at hh
  ·rename_i j s' t' want' ha
   split at hh
   ·rename_i b hb
    split at hh
    ·cases hh; cases h; exact qn (want := false) (by rw [ha, hb]; rfl) next
    ·cases hh; cases h; exact qn (want := true) (by rw [ha, hb]; rfl) next
    ·cases hh
   ·cases hh
  ·cases hh
 ·split at h
  ·rename_i x s gs' hh
   cases hd' : opd st.env x with
   | none => rw [hd'] at h; cases h
   | some d =>
    rw [hd'] at h
    cases h
    exact qm (by rw [hh, hd']) next
  ·cases h
theorem qw (k : Nat) {st' : St} {log' : List (Nat × Cc)} (h : UK X.n ops k i st log = some (st', log')) (next : A6 P X ops dr Q r (i + k) st' log') : A6 P X ops dr Q (r + k) i st log := by
 induction k generalizing i st log with
 | zero => cases h; exact next
 | succ k ih =>
  rw [UK] at h
  split at h
  ·cases h
  ·rename_i l hl
   exact R9 hl (ih h (by rwa [Nat.add_assoc, Nat.add_comm 1]))
end
theorem cw {f n : Nat} {fn : Func} {c : Code} {args : List D} {rv : List (Nat × List (List T))} {res : D} {rs : List ResultVar} (hf : P.funcs[f]? = some fn)
  (h : ∀ (w0 : World) (S0 : Nat → Prop), W P ⟨w0, S0, n, G0 S0⟩ c (fun e st => match e with | .normal | .ret => Sd P rs st rv res | _ => False) (UL args))
  (hb : fn.body = some c := by exact rfl) (hn : fn.ntmps = n := by exact rfl) (hrs : fn.results.toList = rs := by exact rfl) (hl : args.length ≤ n := by exact Iq rfl) (hn9 : n ≤ 90000 := by exact Iq rfl) (hpub : args.all Rq = true := by exact rfl) : As P f args rv res :=
 MH hf hb hn hrs hl hn9 hpub h
theorem tm {st : St} {t : Nat} {x : E} (h : st.env t = some (.e x) := by exact rfl) : VV P st [.tmp t] [x] := ⟨.tmp _ _ h, trivial⟩
end Go.Lift
namespace Go.Lift
open Go.RowKit Go.Shelf
def Vq {α : Type} (c : α → α → Int) (x y : α) : Prop := c x y < 0 ∧ 0 < c y x
structure SJ {α : Type} (c : α → α → Int) (M : α → Prop) : Prop where
 self : ∀ x, M x → c x x = 0
 tri : ∀ x y, M x → M y → x = y ∨ Vq c x y ∨ Vq c y x
 trans : ∀ x y z, M x → M y → M z → Vq c x y → Vq c y z → Vq c x z
namespace SJ
variable {α : Type} {c : α → α → Int} {M : α → Prop}
theorem lt (O : SJ c M) {x y : α} (hx : M x) (hy : M y) : c x y < 0 ↔ Vq c x y := by
 refine ⟨fun h => ?_, fun h => h.1⟩
 rcases O.tri x y hx hy with e | e | e
 ·subst e; have := O.self x hx; omega
 ·exact e
 ·have := e.2; omega
end SJ
section
variable {P : Program} {ρ : Ren} {α : Type}
end
end Go.Lift
namespace Go.Lift
open Go.RowKit Go.Shelf
section
variable {α : Type}
end
end Go.Lift
namespace Go.Lift
open Option renaming bind_some → oS
open Go.RowKit Go.ChangeShapes Go.WideShapes
variable {P : Program} {X : G7} {ops : Array Oper}
theorem LR.sees {i : Nat} {l l' : Cc} (h : LR P X ops i l) (hp : ∀ st, l'.pre st → l.pre st) (hs : ∀ st, l'.pre st → E8 P X (l.upd st) (l'.upd st)) : LR P X ops i l' :=
 fun st a w K Q hsim hpre hK => h st a w K Q hsim (hp st hpre) fun a' w' h' => hK a' w' (hs st hpre a' w' h')
theorem OL {env : Nat → Option D} {bx : Nat → Option Bg} {s b e : Nat} {rows rows2 : List (List T)} {d : D} (hb : bx b = some (.vec e rows)) (hl : ∀ G st a w, CZ P X G st a w → Bs b = false)
  (hrd : ∀ (w : World) (G : Gh) (v : Value) (S' : Nat → Prop), F9 P w G v d → (∀ β, G.S β → S' β) → C1 w S' (G.hd b) (.sl rows) → (∀ a n cap, G.hd b = .slice a n cap → n = rows.length) → C1 w S' v (.sl rows2)) :
  E8 P X (St.put ⟨env, bx⟩ (some s) (some d)) (St.put ⟨env, fun c => if c = b then some .gone else bx c⟩ (some s) (some (.e (.one (.pure (.sl rows2)))))) := by
 rintro a w ⟨G, h⟩
 have hlt := hl _ _ _ _ h
 let S' : Nat → Prop := fun β => G.S β ∨ G.loc b = some β
 have hS : ∀ β, G.S β → S' β := fun β h => .inl h
 have hb' : (St.put ⟨env, bx⟩ (some s) (some d)).bx b = some (.vec e rows) := hb
 have hrow : C1 w S' (G.hd b) (.sl rows) ∧ ∀ a n cap, G.hd b = .slice a n cap → n = rows.length := by
  rcases h.blk b _ hb' with ⟨a0, h1, h2, _⟩ | ⟨β, cap, arr, el, h0, h1, h2, h3, h4, h5, h6⟩
  ·rw [h1, h2]; exact ⟨.nil _ _, fun a n cap q => by cases q; rfl⟩
  ·rw [h1]
   exact ⟨.sl β 0 cap e arr el (0, 0) rows (.inr h0) h2 h3 (by rw [h4, Nat.zero_add]; exact Nat.mul_le_mul_right e h3) h5 (fun i row j t hi hj => by rw [Nat.zero_add]; exact (h6 i row j t hi hj).mono (fun _ _ => rfl) hS), fun a n cap q => by cases q; rfl⟩
 have hbx : ∀ c k, (if c = b then some Bg.gone else bx c) = some k → (c = b ∧ k = .gone) ∨ (c ≠ b ∧ bx c = some k) := fun c k hc => by
  split at hc
  ·rename_i q; cases hc; exact .inl ⟨q, rfl⟩
  ·rename_i q; exact .inr ⟨q, hc⟩
 have hlive : ∀ c, (bx c).isSome = true → ((if c = b then some Bg.gone else bx c) : Option Bg).isSome = true := fun c hc => by
  split
  ·rfl
  ·exact hc
 have hext : G.ext { G with S := S' } (fun _ => True) := ⟨hS, fun _ _ => rfl, fun _ _ => rfl, fun _ _ => rfl⟩
 refine ⟨{ G with S := S' }, { S_lt := ?_, S_src := ?_, S_0 := fun β hβ => .inl (h.S_0 β hβ), S0_lt := h.S0_lt, tsz := h.tsz, defers := h.defers, below := h.below, gok := h.gok.mono (fun _ _ => rfl) (fun _ hβ => .inl hβ), nlt := h.nlt, lent := h.lent, blk := ?_, at_ok := ?_, at_inj := ?_, env := ?_, live := ?_, liveB := ?_ }⟩
 ·rintro β (hβ | hβ)
  ·exact h.S_lt β hβ
  ·exact (h.at_ok b _ β hb' rfl (.inl hβ)).2.1
 ·rintro β (hβ | hβ)
  ·exact h.S_src β hβ
  ·exact .inr ((h.at_ok b _ β hb' rfl (.inl hβ)).1.1 hlt)
 ·intro c k hc
  rcases hbx c k hc with ⟨_, rfl⟩ | ⟨_, hc⟩
  ·trivial
  ·exact (h.blk c k hc).mono hext trivial (fun _ _ => rfl) (fun _ _ _ => rfl) (fun _ _ => trivial)
 ·intro c k β hc hr hβ
  rcases hbx c k hc with ⟨_, rfl⟩ | ⟨hne, hc⟩
  ·cases hr
  ·have h1 := h.at_ok c k β hc hr hβ
   refine ⟨h1.1, h1.2.1, ?_⟩
   rintro (q | q)
   ·exact h1.2.2 q
   ·exact hne (h.at_inj c b k _ β hc hb' hr rfl hβ (.inl q))
 ·intro c c' k l β hc hc' hr hr' hβ hβ'
  rcases hbx c k hc with ⟨_, rfl⟩ | ⟨_, hc⟩
  ·cases hr
  ·rcases hbx c' l hc' with ⟨_, rfl⟩ | ⟨_, hc'⟩
   ·cases hr'
   ·exact h.at_inj c c' k l β hc hc' hr hr' hβ hβ'
 ·intro c dd hc
  simp only [St.put] at hc
  split at hc
  ·rename_i q
   cases hc
   rw [q]
   exact hrd w G _ S' (h.env s d (by simp [St.put])) hS hrow.1 hrow.2
  ·rename_i q
   exact (h.env c dd (by simp only [St.put]; rw [if_neg q]; exact hc)).mono hext (fun _ _ => rfl) (fun _ _ => trivial)
 ·intro c dd hc b' hb''
  simp only [St.put] at hc
  split at hc
  ·cases hc; cases hb''
  ·rename_i q
   exact hlive b' (h.live c dd (by simp only [St.put]; rw [if_neg q]; exact hc) b' hb'')
 ·intro c k hc b' hb''
  rcases hbx c k hc with ⟨_, rfl⟩ | ⟨_, hc⟩
  ·cases hb''
  ·exact hlive b' (h.liveB c k hc b' hb'')
section run
variable {dr : Bool} {Q : St → Prop} {r i : Nat} {st : St} {log : List (Nat × Cc)} {o : Oper} {gs : List (Operand × D)}
theorem Rd {x y : Operand} {t t2 el el2 s e bytes : Nat} {d d2 : D} {rb rb2 : List (Nat × Bg)} {gn : List Nat} {rows rows2 rows' : List (List T)} {z : Value} (hat : At st.env ops i X.n (.call ⟨.builtin .append, #[x, y], #[t, t2]⟩) s gs)
  (hx : opd st.env x = some d) (hD : Uy d rb gn e rows) (hb : FX st.bx rb) (hy : opd st.env y = some d2) (hS : Ui d2 rb2 e rows2) (hb2 : FX st.bx rb2) (hnew : st.bx s = none)
  (ht : sliceB P t el = true) (ht2 : sliceB P t2 el2 = true) (he : Gs P el e = true) (hby : EK P el bytes = true) (hbs : bytes ≤ 4096) (hz : DP P el = some z) (hzs : z.cells.size = e) (hlim : rows.length + rows2.length ≤ Dx) (hr : rows ++ rows2 = rows') (hle : gn.all (fun b => !Bs b) = true)
  (next : A6 P X ops dr Q r (i + 1) (Cc.upd ⟨gs ++ [(x, d), (y, d2)], rb ++ rb2, some s, some (.e (.one (.pure (.sl rows')))), (s, .gone) :: GS gn, [s]⟩ st) ((i, ⟨gs ++ [(x, d), (y, d2)], rb ++ rb2, some s, some (.e (.one (.pure (.sl rows')))), (s, .gone) :: GS gn, [s]⟩) :: log)) : A6 P X ops dr Q (r + 1) i st log := by
 obtain ⟨o, ho, hop, hd, hn, hg, hgp⟩ := hat.out
 refine A6.step next ⟨Al.2 ⟨hgp, hx, hy, trivial⟩, HS.2 ⟨hb, hb2⟩, hnew, trivial⟩ ((NF hat hD hS ht ht2 he hby hbs hz hzs hlim hr hle).sees (fun st h => ⟨h.r, h.b, h.n⟩) fun st _ => ?_)
 have key := OL (P := P) (X := X) (env := st.env) (bx := A8 st.bx ((s, .vec e rows') :: GS gn)) (s := s) (b := s) (e := e) (rows := rows') (rows2 := rows') (d := .e (.one (.own s))) (by simp [A8]) (fun G st a w h => h.nl hn) (fun w G v S' h _ hrow _ => by
  have h' : v = G.hd s := h.1
  rw [h']; exact hrow)
 have e1 : (fun c => if c = s then some Bg.gone else A8 st.bx ((s, .vec e rows') :: GS gn) c) = A8 st.bx ((s, .gone) :: GS gn) := by
  funext c
  simp only [A8]
  split <;> rfl
 rw [e1] at key
 exact key
theorem RC {f s b e len : Nat} {k1 : Bg} {rows rows2 : List (List T)} {xs : List Operand} {ds0 ds : List D} {ts : Array TypeId} (hc : C8 P f ds [(k1, .vec e rows)] [] (.e (.one (.view 90000 e 0 len)))) (hat : At st.env ops i X.n (.call ⟨.value (.func f), xs.toArray, ts⟩) s gs)
  (hf : AD P f = true) (hl : xs.length = ds0.length) (hx : EF st.env (F8 xs ds0)) (hds : ds0.map D.nrm = ds.map (D.ren (nu [b] [])))
  (hlb : FX st.bx (Im (nu [b] []) [b] [(k1, .vec e rows)])) (hre : k1.real = true) (hbl : Bs b = false) (hlen : len ≤ rows.length) (hr2 : rows.take len = rows2)
  (next : A6 P X ops dr Q r (i + 1) (Cc.upd ⟨gs ++ F8 xs ds0, Im (nu [b] []) [b] [(k1, .vec e rows)], some s, some (.e (.one (.pure (.sl rows2)))), [(b, .gone)], []⟩ st) ((i, ⟨gs ++ F8 xs ds0, Im (nu [b] []) [b] [(k1, .vec e rows)], some s, some (.e (.one (.pure (.sl rows2)))), [(b, .gone)], []⟩) :: log)) : A6 P X ops dr Q (r + 1) i st log := by
 subst hr2
 obtain ⟨o, ho, hop, hd, hn, hg, hgp⟩ := hat.out
 have lr := OY (P := P) (X := X) [b] [] [true] hc hat hf hl hds rfl (by simp) rfl ⟨List.nodup_nil, fun c hc => by cases hc⟩ ⟨(fun h => by cases h), trivial⟩ rfl (by simp only [List.all_cons, hre, List.all_nil]; rfl) rfl
 refine A6.step next ⟨Al.2 ⟨hgp, hx⟩, hlb, trivial⟩ (lr.sees (fun st h => ⟨h.r, h.b, h.n⟩) fun st hp => ?_)
 have key := OL (P := P) (X := X) (env := st.env) (bx := A8 st.bx [(b, .vec e rows)]) (s := s) (b := b) (e := e) (rows := rows) (rows2 := rows.take len) (d := .e (.one (.view b e 0 len))) (by simp [A8]) (fun _ _ _ _ _ => hbl) (fun w G v S' h hS hrow hn' => by
  obtain ⟨a, n, cap, p, h1, h2, h3, h4⟩ : Ed P w G v (.view b e 0 len) := h
  have hnn := hn' _ _ _ h1
  rw [h1] at hrow
  rw [h3, Nat.sub_zero]
  exact hrow.part hlen (fun h => by rw [h4 h, Nat.zero_mul]))
 have e1 : (fun c => if c = b then some Bg.gone else A8 st.bx [(b, .vec e rows)] c) = A8 st.bx [(b, .gone)] := by
  funext c
  simp only [A8]
  split <;> rfl
 rw [e1] at key
 exact key
def KY {α : Type} (f : α → List T) : Option (List α) → T
 | none => .val (.slice none 0 0)
 | some l => .sl (l.map f)
def UQ {α : Type} : Option (List α) → Bool
 | some [] => false
 | _ => true
theorem So {s : Nat} {el : TypeId} (hat : At st.env ops i X.n (.alloc el) s gs) (hz : DP P el = some (.slice none 0 0)) (hnew : st.bx s = none)
  (next : A6 P X ops dr Q r (i + 1) (Cc.upd ⟨gs ++ [], [], some s, some (.e (.one (.ptr s 0))), [(s, .box [.pure (.val (.slice none 0 0))])], [s]⟩ st) ((i, ⟨gs ++ [], [], some s, some (.e (.one (.ptr s 0))), [(s, .box [.pure (.val (.slice none 0 0))])], [s]⟩) :: log)) : A6 P X ops dr Q (r + 1) i st log := by
 obtain ⟨o, ho, hop, hd, hn, hg, hgp⟩ := hat.out
 refine A6.step next ⟨Al.2 ⟨hgp, trivial⟩, trivial, hnew, trivial⟩ (LR.value ho hg rfl hd.symm (C5 hd hn) ?_)
 intro G st a w hs hpre
 have hnew := hpre.n.1
 have key := hs.newB (.cells #[.slice none 0 0] el) s (.box [.pure (.val (.slice none 0 0))]) undef (hs.nl hn) hnew
  ⟨w.heap.size, #[.slice none 0 0], el, by simp [Gh.set], by rw [DL, if_pos rfl], rfl, fun j c hj => by
   match j, hj with
   | 0, hj => cases hj; exact .val _ rfl
   | j + 1, hj => simp at hj⟩
  (fun c hc => by cases hc)
 refine ⟨.pointer (some ⟨w.heap.size, 0, none⟩), _, _, ?_, key, ?_⟩
 ·simp only [execOp, hop, Instr.alloc]
  refine Ak (a := (.pointer (some ⟨w.heap.size, 0, none⟩))) (w1 := w.alloc (.cells #[.slice none 0 0] el)) ?_ rfl
  refine Ak (ET hz w) ?_
  simp [newVar, newRow, Value.cells]
 ·rintro d ⟨⟩
  refine ⟨⟨w.heap.size, by simp [Gh.set], rfl⟩, ?_⟩
  intro b hb
  simp [D.names, E.names, C.names] at hb
  subst hb; simp [A8]
theorem T0 {α : Type} {f : α → List T} {x : α} {l : List α} {w : World} {S : Nat → Prop} {v : Value} (h : C1 w S v (.sl ((x :: l).map f))) : ∃ av n c, v = .slice av n c ∧ av.isNone = false := by
 generalize hr : (x :: l).map f = rows at h
 cases h with
 | nil av cap => cases hr
 | sl β off cap e arr el fz rows h1 h2 h3 h4 h5 h6 => exact ⟨_, _, _, rfl, rfl⟩
theorem UV {α : Type} {f : α → List T} {o : Option (List α)} {w : World} {S : Nat → Prop} {v : Value} (h : C1 w S v (KY f o)) (ho : UQ o = true) : ∃ av l c, v = .slice av l c ∧ av.isNone = o.isNone := by
 cases o with
 | none => cases h; exact ⟨none, 0, 0, rfl, rfl⟩
 | some l =>
  cases l with
  | nil => cases ho
  | cons x l => exact T0 h
theorem Sw {α : Type} {f : α → List T} {v : Option (List α)} {xt yt : TypeId} {x : Operand} {s e : Nat} (hat : At st.env ops i X.n (.binOp .eql xt x (.const (.slice none 0 0)) yt) s gs)
  (hx : opd st.env x = some (one (KY f v))) (ht : sliceB P xt e = true) (hv : UQ v = true)
  (next : A6 P X ops dr Q r (i + 1) (Cc.upd ⟨gs ++ [(x, one (KY f v))], [], some s, some (bD v.isNone), [], []⟩ st) ((i, ⟨gs ++ [(x, one (KY f v))], [], some s, some (bD v.isNone), [], []⟩) :: log)) : A6 P X ops dr Q (r + 1) i st log := by
 obtain ⟨o, ho, hop, hd, hn, hg, hgp⟩ := hat.out
 refine A6.step next ⟨Al.2 ⟨hgp, hx, trivial⟩, trivial, trivial⟩ (LR.value ho hg rfl hd.symm (C5 hd hn) ?_)
 intro G st a w hs hpre
 obtain ⟨hx, _⟩ := (Al.1 hpre.r).2
 have hX : C1 w G.S (a.eval x) (KY f v) := hs.opd hx
 obtain ⟨av, l, c, hav, hq⟩ := UV hX hv
 have hu : P.underlying xt = some (.slice e) := by
  unfold sliceB at ht
  split at ht
  ·rename_i e' he; rw [he]; simp at ht; rw [ht]
  ·cases ht
 refine ⟨.bool av.isNone, w, G, ?_, hs, ?_⟩
 ·simp only [execOp, hop, hav]
  refine Ak (a := .bool av.isNone) (w1 := w) (Ak (a := ()) (w1 := w) (by simp [eqGuard]) ?_) rfl
  have h1 : (Op.equalIn (9999 + 1) xt (.slice av l c) (.slice none 0 0)).run P w = .ok av.isNone w := by
   generalize 9999 = dd
   cases av <;> (unfold Op.equalIn; exact Ak (AK hu w) rfl)
  simp only [binOp, Act.eval]
  refine Ak (a := av.isNone) (w1 := w) ?_ rfl
  exact h1
 ·rintro d ⟨⟩
  rw [hq]
  exact ⟨.val _ rfl, fun b hb => by cases hb⟩
theorem Kr {xt : TypeId} (x y : Operand) (a b : ByteArray) (h : a.size + b.size ≤ 9223372036854775807) : Fi P .add xt x y (.string a) (.string b) (.string (a ++ b)) := fun w => by
 have := run_string_add_sum (P := P) (w := w) a b h
 simp [binOp_string_add, eqGuard, this]
end run
theorem TI {α : Type} {f : α → List T} {st : St} (s : Nat) (o : Option (List α)) (hs : st.env s = some (one (KY f o))) : E8 P X st (St.put st (some s) (some (one (.sl ((o.getD []).map f))))) := by
 rintro a w ⟨G, h⟩
 refine ⟨G, { h with env := ?_, live := ?_, blk := h.blk, at_ok := h.at_ok, at_inj := h.at_inj, liveB := h.liveB, nlt := h.nlt, lent := h.lent }⟩
 ·intro t d' ht
  simp only [St.put] at ht
  split at ht
  ·rename_i e; cases ht; rw [e]
   have h1 : C1 w G.S (Au a.tmps s) (KY f o) := h.env s _ hs
   cases o with
   | none =>
    show C1 w G.S _ (.sl [])
    generalize Au a.tmps s = v at h1
    cases h1; exact .nil _ _
   | some l => exact h1
  ·exact h.env t d' ht
 ·intro t d' ht b hb
  simp only [St.put] at ht
  split at ht
  ·cases ht; cases hb
  ·exact h.live t d' ht b hb
theorem UI {W : World} (h : ∀ x, x ∈ LE → ∀ g, P.globalNamed x.1 = some g → Lib.TabIs P W x.1 x.2.1 x.2.2) : SQ P W (P1 W) := fun x hx g hg => by
 have h1 := h x hx g hg
 refine ⟨?_, h1⟩
 unfold Lib.TabIs World.var? at h1
 rw [hg, oS] at h1
 show g < W.heap.size
 split at h1
 ·rename_i e; exact (Array.getElem?_eq_some_iff.1 e).1
 ·cases h1
theorem O9 {H : Type} {enc : TypeId × Value → H} {C : Checked} {os : Os} {f : FuncId} {fn : Func} {s : ChangeSpec} {conds : List PathCond} {tb : TypeId} {d : Nat} {laid : List (String × DataW Unit)}
  (own : ownKnob C.prog.godebug = none) (started : os.Started) (noInit : C.prog.inits.idxOf? f = none) (hfn : C.prog.funcs[f]? = some fn)
  (witness : ∃ (w : World) (tape : Tape) (i : Input), w.os = os ∧ (w.forCall tape i).Shaped C.prog ∧ i.vars = [] ∧ Input.okWide C.prog (w.forCall tape i) .any w.heap.size f i ∧
   ((s.pre enc C.prog fn conds false (w.forCall tape i).memory i.args ∧ laidMetH C.prog laid (w.forCall tape i).memory) ∧ sizedMet enc C.prog fn (OpenSpec.ofChange s) false (w.forCall tape i).memory i.args) ∧ ({} : Assume).holds C.prog (lone (Frame.enter C.prog f i.args .normal) [] (w.forCall tape i)))
  (hv : s.vars = []) (hs : ∀ ds : List (DataW H), ds.length = fn.params.toList.length → s.fn H (ds ++ []) = { results := [.lit (.bool true)], args := ds })
  (hres : fn.resultTypes = #[tb]) (htb : C.prog.underlying tb = some .bool) (hl : laidOutB C.prog = true)
  (hread : (fn.params.toList.all fun t => C.prog.readableRec t && decide (t < C.prog.types.size)) = true) (hplain : (fn.params.toList.all (H6 C.prog d)) = true)
  (law : ∀ Ds, Io C.prog d fn.params.toList Ds → As C.prog f Ds [] (.e (.one (.pure (.val (.bool true))))))
  (hp : (laid.all fun x => x.2.handleName?.isNone) = true) (hgk : ∀ W, laidMet C.prog laid W → SQ C.prog W (P1 W)) :
  ReturnsInHanded {} C os f .any (fun w args => (s.pre enc C.prog fn conds false w args ∧ laidMetH C.prog laid w) ∧ sizedMet enc C.prog fn (OpenSpec.ofChange s) false w args) (s.post enc C.prog fn false true false false) := by
 refine returnsInHanded_of_change_and (X := fun w _ => laidMetH C.prog laid w) (fun _ _ _ hh h => by rw [MakeChecks.laidMetH_plain _ _ _ hp] at h ⊢; exact h.of_heap hh) own started noInit hfn witness ?_
 intro W base args ds gs before hval hW _ _ hL _
 rw [MakeChecks.laidMetH_plain _ _ _ hp] at hL
 have hW' := hW
 obtain ⟨p, q, hA, hV, rfl, _, _⟩ := hW
 rw [hv] at hV
 obtain ⟨rfl, rfl⟩ := trodVars_none hV
 obtain ⟨Ds, h1, h2, h3, h4⟩ := QU hplain (fun j t v hj hvj => hval j t v (by simpa using hj) (by simpa using hvj)) hA
 have hlt : ∀ x ∈ p, x.block < W.heap.size := fun x hx => hW'.lt x (by simp [hx])
 refine (law Ds h1 W (P1 W) args (fun β h => h) (hgk W hL) (by simpa using h2) ?_).mono ?_
 ·intro j x hj
  obtain ⟨v, g1, g2⟩ := h4 j x hj
  have : Au args j = v := by unfold Au; rw [show args[j]? = some v from by simpa using g1]; rfl
  rw [this]; exact g2
 ·rintro e W' ⟨v, G', rfl, hb, _, _, hr, _⟩
  have hvb : v = .bool true := by
   have h5 : C1 W' G'.S v (.val (.bool true)) := hr
   cases h5; rfl
  subst hvb
  refine ⟨_, rfl, ds, [], p ++ [], [], p, [], hW', ?_, ?_, ?_, hb.frame _, fun h => by cases h⟩
  ·rw [hs ds h3, hres]
   exact trodAll_mk1 (shut_bool htb true)
  ·rw [hs ds h3]
   exact JJ hl hb.toBelow hread hA hlt
  ·rw [hs ds h3, hv]
   rfl
end Go.Lift
namespace Go.Lift
open Go.RowKit Go.Shelf
def Pp (n : Int) : Option ByteArray := if -9223372036854775808 ≤ n ∧ n ≤ 9223372036854775807 then some ⟨(Lib.itoa n).toArray⟩ else none
theorem U2 {P : Program} {ρ : Ren} (L : Go.Proofs.LaysM.n171 P ρ) {g : Nat} (hg : P.globalNamed "internal/strconv.uint64pow10" = some g) {n : Int} {r : ByteArray} (h : Pp n = some r) :
  As P (ρ.f 171) [.e (.one (.pure (.val (.int .i64 n))))] [] (.e (.one (.pure (.val (.string r))))) := by
 intro w S vs hS hgk hlen hrd
 have h0 : C1 w S (Au vs 0) (.val (.int .i64 n)) := hrd 0 _ rfl
 have hv : Au vs 0 = .int .i64 n := Ef h0
 have hvs : vs = #[.int .i64 n] := by
  have h2 : vs.size = 1 := hlen
  apply Array.ext (by simp [h2])
  intro i h1 _
  match i, h1 with
  | 0, h1 => rw [← hv]; simp [Au, h1]
  | i + 1, h1 => omega
 unfold Pp at h
 split at h
 ·rename_i hb
  cases h
  have ht : Lib.TabIs P w "internal/strconv.uint64pow10" .u64 Lib.pow10Tab := (hgk ("internal/strconv.uint64pow10", .u64, Vg) (by simp [LE]) g hg).2
  rw [hvs]
  refine (Go.Proofs.Any.strconv_Itoa L n hb.1 hb.2 w ht).mono ?_
  rintro e w' ⟨rfl, k, os, rfl⟩
  refine ⟨_, G0 S, rfl, ⟨⟨rfl, rfl, rfl, by simp [Go.Sort.grow], fun i hi => ?_⟩, by show w.drawn ≤ w.drawn + k; omega⟩, fun _ h => h, fun _ h => .inl h, .val _ rfl, fun i x hi => by simp at hi, fun i β hi => by simp at hi, fun i l β hi => by simp at hi⟩
  show (w.heap ++ os)[i]? = _
  rw [Array.getElem?_append, if_pos hi]
 ·cases h
end Go.Lift
namespace Go.Lift
open Go.RowKit
variable {P : Program} {X : G7}
theorem PQ {st : St} (s b nb e len : Nat) (rows rows' : List (List T)) (hs : st.env s = some (.e (.one (.view b e 0 len)))) (hb : st.bx b = some (.vec e rows)) (hnb : st.bx nb = none) (hle : 0 + len ≤ rows.length) (hr : rows.take len = rows') (hlt : Bs b = false) (hltn : Bs nb = false) :
  E8 P X st (St.setB (St.setB (St.put st (some s) (some (.e (.one (.own nb))))) nb (.vec e rows')) b .gone) := by
 subst hr
 rintro a w ⟨G, h⟩
 obtain ⟨a1, n1, cap1, p, k1, k2, k3, k4⟩ : Ed P w G (Au a.tmps s) (.view b e 0 len) := h.env s _ hs
 have hbn : b ≠ nb := fun e => by rw [e, hnb] at hb; cases hb
 have hlen : (rows.take len).length = len := by rw [List.length_take]; omega
 have hblk := h.blk b _ hb
 -- what is known of the slice
 obtain ⟨l, v, hv, hl⟩ : ∃ l v, Au a.tmps s = v ∧ (∃ a l c, v = .slice a l c) ∧ (∀ β, l = some β → G.loc b = some β) ∧ ∀ G' : Gh, G'.S = G.S → G'.loc nb = l → G'.hd nb = v → EP P w G' nb (.vec e (rows.take len)) := by
  rcases hblk with ⟨a0, g1, g2, g3⟩ | ⟨β, cap, arr, el, g0, g1, g2, g3, g4, g5, g6⟩
  ·have h0 : len = 0 := by rw [g2] at hle; simpa using hle
   rw [g1] at k1; cases k1
   refine ⟨none, _, k3, ⟨_, _, _, rfl⟩, fun β hβ => (by cases hβ), fun G' _ h1 h2 => .inl ⟨p, ?_, by rw [g2]; simp, h1⟩⟩
   rw [h2, h0]
  ·rw [g1] at k1; cases k1
   by_cases h0 : 0 < cap1
   case neg =>
    have hz : len = 0 := by omega
    refine ⟨none, _, k3, ⟨_, _, _, rfl⟩, fun β hβ => (by cases hβ), fun G' _ h1 h2 => .inl ⟨p, ?_, by rw [hz, List.take_zero], h1⟩⟩
    rw [h2, hz, show cap1 - 0 = 0 by omega]
   refine ⟨some β, .slice (some ⟨β, 0, none⟩) len cap1, ?_, ⟨_, _, _, rfl⟩, fun β' hβ => (by cases hβ; exact g0), fun G' hS h1 h2 => .inr ⟨β, cap1, arr, el, h1, by rw [h2, hlen], g2, by rw [hlen]; omega, g4, ?_, ?_⟩⟩
   ·rw [k3, k4 h0]; simp [Nat.zero_mul, Addr.add]
   ·intro i row hi
    rw [List.getElem?_take] at hi
    split at hi
    ·exact g5 i row hi
    ·cases hi
   ·intro i row j t hi hj
    rw [List.getElem?_take] at hi
    split at hi
    ·rw [hS]; exact g6 i row j t hi hj
    ·cases hi
 obtain ⟨hl0, hl, hk⟩ := hl
 have hext : G.ext (G.set nb l v) (fun b => (st.bx b).isSome = true) := Gh.set_ext _ _ _ _ (by simp [hnb])
 have h1 : CZ P X (G.set nb l v) ⟨st.env, (St.setB (St.setB st nb (.vec e (rows.take len))) b .gone).bx⟩ a w := by
  refine h.frame ?_ hext (fun _ _ => rfl) ?_ ?_ ?_ h.S_lt h.S_src h.below (Gh.set_lent _ _ hltn)
  ·intro c hc; simp only [St.setB]; split <;> (try split) <;> simp [hc]
  ·intro c k hc
   simp only [St.setB] at hc
   split at hc
   ·cases hc; exact .inr ⟨trivial, fun c hc => by cases hc⟩
   ·split at hc
    ·rename_i e2; subst e2; cases hc
     exact .inr ⟨hk _ rfl (by simp [Gh.set]) (by simp [Gh.set]), fun c hc => by cases hc⟩
    ·exact .inl ⟨hc, fun _ _ _ => rfl⟩
  ·intro c k β hc hr hβ
   simp only [St.setB] at hc
   rw [Gh.set_has] at hβ
   split at hc
   ·cases hc; cases hr
   ·split at hc
    ·rename_i e2; rw [if_pos e2] at hβ
     have := h.at_ok b _ β hb rfl (.inl (hl β hβ))
     exact ⟨⟨fun _ => this.1.1 hlt, this.1.2⟩, this.2⟩
    ·rename_i e2; rw [if_neg e2] at hβ; exact h.at_ok c k β hc hr hβ
  ·intro c c' k k' β hc hc' hr hr' hβ hβ'
   simp only [St.setB] at hc hc'
   rw [Gh.set_has] at hβ hβ'
   split at hc
   ·cases hc; cases hr
   rename_i hcb
   split at hc'
   ·cases hc'; cases hr'
   rename_i hcb'
   split at hc
   ·rename_i e2; rw [if_pos e2] at hβ
    split at hc'
    ·rename_i e3; rw [e2, e3]
    ·rename_i e3; rw [if_neg e3] at hβ'
     exact absurd (h.at_inj b c' _ k' β hb hc' rfl hr' (.inl (hl β hβ)) hβ').symm hcb'
   ·rename_i e2; rw [if_neg e2] at hβ
    split at hc'
    ·rename_i e3; rw [if_pos e3] at hβ'
     exact absurd (h.at_inj b c _ k β hb hc rfl hr (.inl (hl β hβ')) hβ).symm hcb
    ·rename_i e3; rw [if_neg e3] at hβ'; exact h.at_inj c c' k k' β hc hc' hr hr' hβ hβ'
 refine ⟨G.set nb l v, { h1 with env := ?_, live := ?_, blk := h1.blk, at_ok := h1.at_ok, at_inj := h1.at_inj, liveB := h1.liveB, nlt := h1.nlt, lent := h1.lent }⟩
 ·intro t d ht
  simp only [St.setB, St.put] at ht
  split at ht
  ·rename_i e2; cases ht
   rw [e2, hv]
   exact ⟨by simp [Gh.set], hl0⟩
  ·exact h1.env t d ht
 ·intro t d ht c hc
  simp only [St.setB, St.put] at ht
  split at ht
  ·cases ht
   simp [D.names, E.names, C.names] at hc
   subst hc; simp only [St.setB]; rw [if_neg (fun q => hbn q.symm)]; simp
  ·exact h1.live t d ht c hc
theorem Pu {st : St} {α : Type} (f : α → List T) (xs : List α) (s b nb e len : Nat) (hs : st.env s = some (.e (.one (.view b e 0 len)))) (hb : st.bx b = some (.vec e (xs.map f))) (hnb : st.bx nb = none) (hle : 0 + len ≤ xs.length) (hlt : Bs b = false) (hltn : Bs nb = false) :
  E8 P X st (St.setB (St.setB (St.put st (some s) (some (.e (.one (.own nb))))) nb (.vec e ((xs.take len).map f))) b .gone) :=
 PQ s b nb e len _ _ hs hb hnb (by rw [List.length_map]; exact hle) (List.map_take).symm hlt hltn
end Go.Lift
namespace Go.Lift
def Ao (n : Int) : List T := [.val (.int .i64 n)]
def B6 (n : Int) : List T := [.val (.int .u8 n)]
def WJ (n : Int) : List T := [.val (.int .u16 n)]
abbrev tB (b : Bool) : T := .val (.bool b)
def eB (b : Bool) : List T := [.val (.bool b)]
def eS (s : ByteArray) : List T := [.val (.string s)]
def GF {α : Type} (f : α → List T) (xs : List α) : List T := [.sl (xs.map f)]
theorem UU : VK Ao := ⟨by intro x y h; simpa [Ao] using h⟩
theorem WU : VK eB := ⟨by intro x y h; simpa [eB] using h⟩
theorem Vx {α : Type} {f : α → List T} (h : VK f) : VK (GF f) := ⟨by intro x y hx; simp only [GF, List.cons.injEq, T.sl.injEq, and_true] at hx; exact QF h.inj _ _ hx⟩
structure FU where
 ff : Int
 fg : Int
 fk : Int
 fp : Bool
 ft : Int
 fu : Int
def Fr (x : FU) : List T := [.val (.int .u8 x.ff), .val (.int .u8 x.fg), .val (.int .u8 x.fk), .val (.bool x.fp), .val (.int .u16 x.ft), .val (.int .u16 x.fu)]
structure BP where
 fb : List Int
 fi : List Int
 fo : List Int
 fr : List FU
def Kq (x : BP) : List T := [.sl (x.fb.map B6), .sl (x.fi.map B6), .sl (x.fo.map B6), .sl (x.fr.map Fr)]
structure Ac where
 ff : Int
 fh : Int
 fj : Int
def Ai (x : Ac) : List T := [.val (.int .i64 x.ff), .val (.int .i64 x.fh), .val (.int .i64 x.fj)]
structure Ar where
 ff : Int
 fg : Int
 fk : Int
 fp : Bool
 fq : List (List Bool)
 fm : List (List Bool)
def AQ (x : Ar) : List T := [.val (.int .i64 x.ff), .val (.int .i64 x.fg), .val (.int .i64 x.fk), .val (.bool x.fp), .sl (x.fq.map (GF eB)), .sl (x.fm.map (GF eB))]
structure Aa where
 fb : List Int
 fi : List Int
 fo : List Int
 fc : List Ar
structure Ab where
 fe : List Int
 fa : List Int
 fd : List Int
def B5 (x : Ab) : List T := [.sl (x.fe.map Ao), .sl (x.fa.map Ao), .sl (x.fd.map B6)]
structure Af where
 fv : Int
 fw : Int
 fy : Int
def AN (x : Af) : List T := [.val (.int .i64 x.fv), .val (.int .i64 x.fw), .val (.int .i64 x.fy)]
end Go.Lift
