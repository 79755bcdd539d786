/- Lemmas for MixValidSaid, which YtmmkocokfdheiaaFin7 proves. -/
/- What an operation reads and writes, and that a region may be carried out in every order that its edges allow. No condition. -/
import Derived.Test.YtmmkocokfdheiaaLift2
namespace Go.Lift
open Go.RowKit

structure Loc where
  rs : List (Operand × D)
  rb : List (Nat × Blk)
  dst : Option Nat
  out : Option D
  wb : List (Nat × Blk)
  nb : List Nat

def preR (env : Nat → Option D) : List (Operand × D) → Prop
  | [] => True
  | p :: ps => opd env p.1 = some p.2 ∧ preR env ps
def preB (bx : Nat → Option Blk) : List (Nat × Blk) → Prop
  | [] => True
  | p :: ps => bx p.1 = some p.2 ∧ preB bx ps
def preN (bx : Nat → Option Blk) : List Nat → Prop
  | [] => True
  | b :: bs => bx b = none ∧ preN bx bs

structure Loc.pre (l : Loc) (st : St) : Prop where
  r : preR st.env l.rs
  b : preB st.bx l.rb
  n : preN st.bx l.nb

def setBs (bx : Nat → Option Blk) : List (Nat × Blk) → (Nat → Option Blk)
  | [] => bx
  | p :: ps => fun c => if c = p.1 then some p.2 else setBs bx ps c

def Loc.upd (l : Loc) (st : St) : St := St.put ⟨st.env, setBs st.bx l.wb⟩ l.dst l.out

def opTmps : List (Operand × D) → List Nat
  | [] => []
  | (.tmp t, _) :: ps => t :: opTmps ps
  | _ :: ps => opTmps ps

def Loc.sw (l : Loc) : List Nat := l.dst.toList
def Loc.sr (l : Loc) : List Nat := opTmps l.rs
def Loc.bw (l : Loc) : List Nat := l.wb.map (·.1)
def Loc.br (l : Loc) : List Nat := l.rb.map (·.1) ++ l.nb

def meets (a b : List Nat) : Bool := a.any fun x => b.contains x
/-- Neither reads or writes what the other writes. -/
def Loc.apart (l m : Loc) : Bool :=
  !meets l.sw m.sr && !meets l.sw m.sw && !meets m.sw l.sr && !meets l.bw m.br && !meets l.bw m.bw && !meets m.bw l.br

theorem meets_false {a b : List Nat} (h : meets a b = false) {x : Nat} (ha : x ∈ a) : x ∉ b := by
  intro hb
  have : meets a b = true := by unfold meets; exact List.any_eq_true.2 ⟨x, ha, by simpa using hb⟩
  rw [h] at this; cases this

structure Apart (l m : Loc) : Prop where
  h1 : ∀ x, x ∈ l.sw → x ∉ m.sr
  h2 : ∀ x, x ∈ l.sw → x ∉ m.sw
  h3 : ∀ x, x ∈ m.sw → x ∉ l.sr
  h4 : ∀ x, x ∈ l.bw → x ∉ m.br
  h5 : ∀ x, x ∈ l.bw → x ∉ m.bw
  h6 : ∀ x, x ∈ m.bw → x ∉ l.br

theorem Loc.apart_spec {l m : Loc} (h : l.apart m = true) : Apart l m := by
  simp only [Loc.apart, Bool.and_eq_true, Bool.not_eq_true'] at h
  obtain ⟨⟨⟨⟨⟨a, b⟩, c⟩, d⟩, e⟩, f⟩ := h
  exact ⟨fun _ => meets_false a, fun _ => meets_false b, fun _ => meets_false c, fun _ => meets_false d, fun _ => meets_false e, fun _ => meets_false f⟩

theorem opd_congr {e e' : Nat → Option D} {x : Operand} (h : ∀ t, x = .tmp t → e t = e' t) : opd e x = opd e' x := by
  cases x <;> first | rfl | exact h _ rfl

theorem preR_congr {e e' : Nat → Option D} : ∀ {rs : List (Operand × D)}, (∀ t, t ∈ opTmps rs → e t = e' t) → preR e rs → preR e' rs
  | [], _, _ => trivial
  | (x, d) :: ps, h, hp => by
    refine ⟨?_, preR_congr (fun t ht => h t (by cases x <;> simp [opTmps, ht])) hp.2⟩
    rw [← hp.1]
    exact (opd_congr fun t ht => h t (by subst ht; simp [opTmps])).symm
theorem preB_congr {e e' : Nat → Option Blk} : ∀ {rs : List (Nat × Blk)}, (∀ t, t ∈ rs.map (·.1) → e t = e' t) → preB e rs → preB e' rs
  | [], _, _ => trivial
  | (x, d) :: ps, h, hp => ⟨by rw [← hp.1]; exact (h x (by simp)).symm, preB_congr (fun t ht => h t (by simp at ht ⊢; exact .inr ht)) hp.2⟩
theorem preN_congr {e e' : Nat → Option Blk} : ∀ {rs : List Nat}, (∀ t, t ∈ rs → e t = e' t) → preN e rs → preN e' rs
  | [], _, _ => trivial
  | x :: ps, h, hp => ⟨by rw [← hp.1]; exact (h x (by simp)).symm, preN_congr (fun t ht => h t (by simp [ht])) hp.2⟩

theorem setBs_out {bx : Nat → Option Blk} {c : Nat} : ∀ {wb : List (Nat × Blk)}, c ∉ wb.map (·.1) → setBs bx wb c = bx c
  | [], _ => rfl
  | p :: ps, h => by
    simp only [List.map_cons, List.mem_cons, not_or] at h
    simp only [setBs]
    rw [if_neg h.1, setBs_out h.2]
theorem setBs_in {bx bx' : Nat → Option Blk} {c : Nat} : ∀ {wb : List (Nat × Blk)}, c ∈ wb.map (·.1) → setBs bx wb c = setBs bx' wb c
  | [], h => by simp at h
  | p :: ps, h => by
    simp only [setBs]
    by_cases e : c = p.1
    · rw [if_pos e, if_pos e]
    · rw [if_neg e, if_neg e]
      exact setBs_in (by simpa [e] using h)

theorem upd_env_out {l : Loc} {st : St} {t : Nat} (h : t ∉ l.sw) : (l.upd st).env t = st.env t := by
  unfold Loc.upd St.put
  cases hd : l.dst with
  | none => rfl
  | some s =>
    have : t ≠ s := fun e => h (by simp [Loc.sw, hd, e])
    simp [this]
theorem upd_bx {l : Loc} {st : St} : (l.upd st).bx = setBs st.bx l.wb := by
  unfold Loc.upd St.put
  cases l.dst <;> rfl

theorem pre_upd {l m : Loc} {st : St} (h : Apart l m) : m.pre (l.upd st) ↔ m.pre st := by
  have e : ∀ t, t ∈ opTmps m.rs → (l.upd st).env t = st.env t := fun t ht => upd_env_out fun hs => h.h1 t hs ht
  have b : ∀ t, t ∈ m.br → (l.upd st).bx t = st.bx t := fun t ht => by rw [upd_bx]; exact setBs_out fun hs => h.h4 t hs ht
  constructor
  · intro hp
    exact ⟨preR_congr e hp.r, preB_congr (fun t ht => b t (by simp [Loc.br]; exact .inl (by simpa using ht))) hp.b, preN_congr (fun t ht => b t (by simp [Loc.br, ht])) hp.n⟩
  · intro hp
    exact ⟨preR_congr (fun t ht => (e t ht).symm) hp.r, preB_congr (fun t ht => (b t (by simp [Loc.br]; exact .inl (by simpa using ht))).symm) hp.b, preN_congr (fun t ht => (b t (by simp [Loc.br, ht])).symm) hp.n⟩

theorem St.ext {s t : St} (h1 : ∀ i, s.env i = t.env i) (h2 : ∀ i, s.bx i = t.bx i) : s = t := by
  cases s; cases t
  congr
  · exact funext h1
  · exact funext h2

theorem upd_env_in {l : Loc} {st st' : St} {t : Nat} (h : t ∈ l.sw) : (l.upd st).env t = (l.upd st').env t := by
  unfold Loc.upd St.put
  cases hd : l.dst with
  | none => simp [Loc.sw, hd] at h
  | some s =>
    have : t = s := by simpa [Loc.sw, hd] using h
    simp [this]

theorem upd_comm {l m : Loc} {st : St} (h : Apart l m) : l.upd (m.upd st) = m.upd (l.upd st) := by
  apply St.ext
  · intro t
    by_cases hl : t ∈ l.sw
    · rw [upd_env_in (st' := st) hl, upd_env_out (h.h2 t hl)]
    · rw [upd_env_out hl]
      by_cases hm : t ∈ m.sw
      · exact upd_env_in hm
      · rw [upd_env_out hm, upd_env_out hm, upd_env_out hl]
  · intro t
    rw [upd_bx, upd_bx, upd_bx, upd_bx]
    by_cases hl : t ∈ l.bw
    · rw [setBs_in (bx' := st.bx) hl, setBs_out (wb := m.wb) (h.h5 t hl)]
    · rw [setBs_out (wb := l.wb) hl]
      by_cases hm : t ∈ m.bw
      · exact setBs_in hm
      · rw [setBs_out hm, setBs_out hm, setBs_out hl]

theorem Apart.symm {l m : Loc} (h : Apart l m) : Apart m l :=
  ⟨fun x hx => h.h3 x hx, fun x hx hy => h.h2 x hy hx, fun x hx => h.h1 x hx, fun x hx => h.h6 x hx, fun x hx hy => h.h5 x hy hx, fun x hx => h.h4 x hx⟩

variable {P : Program} {X : Ctx} {ops : Array Oper}

/-- Operation i, in every state that holds what it reads, leads to the state in which it has written. -/
def LR (P : Program) (X : Ctx) (ops : Array Oper) (i : Nat) (l : Loc) : Prop :=
  ∀ (st : St) (a : Act) (w : World) (K : Act → World → Prop) (Q : Exit → Act → World → Prop), Sim P X st a w → l.pre st → (∀ a' w', Sim P X (l.upd st) a' w' → K a' w') → wpOp P ops Q i K a w

def Path : List (Nat × Loc) → St → St → Prop
  | [], st, st' => st' = st
  | p :: ps, st, st' => p.2.pre st ∧ Path ps (p.2.upd st) st'

theorem Path.swap {p q : Nat × Loc} {ps : List (Nat × Loc)} {st st' : St} (h : Apart p.2 q.2) (hp : Path (p :: q :: ps) st st') : Path (q :: p :: ps) st st' := by
  obtain ⟨h1, h2, h3⟩ := hp
  exact ⟨(pre_upd h).1 h2, (pre_upd h.symm).2 h1, by rw [upd_comm h]; exact h3⟩

theorem Path.front {q : Nat × Loc} : ∀ {ps qs : List (Nat × Loc)} {st st' : St}, (∀ p, p ∈ ps → Apart p.2 q.2) → Path (ps ++ q :: qs) st st' → Path (q :: (ps ++ qs)) st st'
  | [], _, _, _, _, h => h
  | p :: ps, qs, st, st', ha, h => by
    have : Path (q :: (ps ++ qs)) (p.2.upd st) st' := Path.front (fun x hx => ha x (by simp [hx])) h.2
    exact Path.swap (ha p (by simp)) ⟨h.1, this⟩

/-- The masks of what must have come before each operation. -/
def maskOf (acc : List Nat) (o : Oper) : Nat :=
  o.after.toList.foldl (fun s e => if Region.binds .any e then s ||| 2 ^ e.on ||| acc.getD e.on 0 else s) 0
def masks : List Oper → List Nat → List Nat
  | [], acc => acc
  | o :: os, acc => masks os (acc ++ [maskOf acc o])

/-- A set of operations that holds with each what must come before it. -/
def Shut (ops : Array Oper) (L : Nat → Prop) : Prop := ∀ j o, ops[j]? = some o → L j → ∀ e, e ∈ o.after → Region.binds .any e = true → L e.on

theorem testBit_foldl (L : Nat → Prop) (acc : List Nat) (i : Nat) : ∀ (es : List Edge) (s : Nat), (s.testBit i = true → L i) →
    (∀ e, e ∈ es → Region.binds .any e = true → L e.on ∧ ((acc.getD e.on 0).testBit i = true → L i)) →
    (es.foldl (fun s e => if Region.binds .any e then s ||| 2 ^ e.on ||| acc.getD e.on 0 else s) s).testBit i = true → L i
  | [], s, h, _, ht => h ht
  | e :: es, s, h, he, ht => by
    simp only [List.foldl_cons] at ht
    refine testBit_foldl L acc i es _ ?_ (fun e' h' => he e' (by simp [h'])) ht
    split
    · rename_i hb
      intro hx
      have h3 := he e (by simp) hb
      simp only [Nat.testBit_or, Bool.or_eq_true, Nat.testBit_two_pow, decide_eq_true_eq] at hx
      rcases hx with (hx | hx) | hx
      · exact h hx
      · exact hx ▸ h3.1
      · exact h3.2 hx
    · exact h

theorem masks_good (ops : Array Oper) (L : Nat → Prop) (hL : Shut ops L) : ∀ (os : List Oper) (acc : List Nat), (∀ j, os[j]? = ops[acc.length + j]?) →
    (∀ j, j < acc.length → ∀ o, ops[j]? = some o → (∀ e, e ∈ o.after → Region.binds .any e = true → L e.on) → ∀ i, (acc.getD j 0).testBit i = true → L i) →
    ∀ j o, ops[j]? = some o → (∀ e, e ∈ o.after → Region.binds .any e = true → L e.on) → ∀ i, ((masks os acc).getD j 0).testBit i = true → L i
  | [], acc, hos, hacc => by
    intro j o ho he i hi
    rcases Nat.lt_or_ge j acc.length with h | h
    · exact hacc j h o ho he i hi
    · have := hos (j - acc.length)
      rw [show acc.length + (j - acc.length) = j from by omega, ho] at this
      simp at this
  | o :: os, acc, hos, hacc => by
    refine masks_good ops L hL os (acc ++ [maskOf acc o]) (fun j => by have := hos (j + 1); simp at this; rw [this]; congr 1; simp; omega) ?_
    intro j hj o' ho' he' i hi
    simp only [List.length_append, List.length_singleton] at hj
    rcases Nat.lt_or_ge j acc.length with h | h
    · exact hacc j h o' ho' he' i (by rw [List.getD_eq_getElem?_getD, List.getElem?_append_left h, ← List.getD_eq_getElem?_getD] at hi; exact hi)
    · have hj' : j = acc.length := by omega
      subst hj'
      have h0 := hos 0
      simp only [List.getElem?_cons_zero, Nat.add_zero, ho'] at h0
      obtain rfl : o = o' := Option.some.inj h0
      rw [List.getD_eq_getElem?_getD, List.getElem?_append_right (Nat.le_refl _)] at hi
      simp only [Nat.sub_self, List.getElem?_cons_zero, Option.getD_some] at hi
      refine testBit_foldl L acc i _ 0 (by simp) ?_ hi
      intro e hem hb
      have hem' : e ∈ o.after := by simpa using hem
      refine ⟨he' e hem' hb, fun ht => ?_⟩
      rcases Nat.lt_or_ge e.on acc.length with h5 | h5
      · have hlt : e.on < ops.size := by
          have : ops[acc.length]? ≠ none := by rw [ho']; simp
          have : acc.length < ops.size := by
            rcases Nat.lt_or_ge acc.length ops.size with h6 | h6
            · exact h6
            · exact absurd (Array.getElem?_eq_none h6) this
          omega
        exact hacc e.on h5 ops[e.on] (by simp [hlt]) (fun e2 h2 hb2 => hL e.on ops[e.on] (by simp [hlt]) (he' e hem' hb) e2 h2 hb2) i ht
      · rw [List.getD_eq_getElem?_getD, List.getElem?_eq_none h5] at ht; simp at ht

/-- Every binding edge leads back. -/
def backward (ops : Array Oper) : Bool := ops.toList.zipIdx.all fun p => p.1.after.toList.all fun e => !Region.binds .any e || decide (e.on < p.2)

theorem backward_spec {ops : Array Oper} (h : backward ops = true) {j : Nat} {o : Oper} (ho : ops[j]? = some o) {e : Edge} (he : e ∈ o.after) (hb : Region.binds .any e = true) : e.on < j := by
  unfold backward at h
  rw [List.all_eq_true] at h
  have hm : (o, j) ∈ ops.toList.zipIdx := by
    rw [List.mem_iff_getElem?]
    exact ⟨j, by simp [List.getElem?_zipIdx]; exact ho⟩
  have := List.all_eq_true.1 (h _ hm) e (by simpa using he)
  simpa [hb] using this

/-- Whatever of two operations stands in each other's way is kept in order by the edges. -/
def okPairs (ms : List Nat) : List (Nat × Loc) → Bool
  | [] => true
  | p :: ps => (ps.all fun q => (ms.getD q.1 0).testBit p.1 || p.2.apart q.2) && okPairs ms ps

theorem okPairs_sub {ms : List Nat} : ∀ {ps qs : List (Nat × Loc)}, qs.Sublist ps → okPairs ms ps = true → okPairs ms qs = true
  | _, _, .slnil, _ => rfl
  | _, _, .cons _ h, h2 => by simp only [okPairs, Bool.and_eq_true] at h2; exact okPairs_sub h h2.2
  | _, _, .cons_cons p h, h2 => by
    simp only [okPairs, Bool.and_eq_true] at h2 ⊢
    refine ⟨?_, okPairs_sub h h2.2⟩
    rw [List.all_eq_true] at h2 ⊢
    exact fun x hx => h2.1 x (h.subset hx)

theorem okPairs_spec {ms : List Nat} : ∀ {ps qs : List (Nat × Loc)} {q : Nat × Loc}, okPairs ms (ps ++ q :: qs) = true → ∀ p, p ∈ ps → (ms.getD q.1 0).testBit p.1 = true ∨ p.2.apart q.2 = true
  | p :: ps, qs, q, h, x, hx => by
    simp only [List.cons_append, okPairs, Bool.and_eq_true] at h
    rcases List.mem_cons.1 hx with e | e
    · subst e
      have := List.all_eq_true.1 h.1 q (by simp)
      simpa using this
    · exact okPairs_spec h.2 x e

theorem ready_mem {listed : Array Bool} {i : Nat} : i ∈ Region.ready .any ops listed ↔
    i < ops.size ∧ listed.getD i true = false ∧ ∃ o, ops[i]? = some o ∧ ∀ e, e ∈ o.after → Region.binds .any e = true → listed.getD e.on false = true := by
  unfold Region.ready
  simp only [List.mem_filter, List.mem_range, Bool.and_eq_true, Bool.not_eq_true']
  constructor
  · rintro ⟨h1, h2, h3⟩
    have ho : ops[i]? = some ops[i] := by simp [h1]
    refine ⟨h1, h2, ops[i], ho, ?_⟩
    rw [ho] at h3
    simp only [Option.map_some, Option.getD_some] at h3
    intro e he hb
    have h4 := (Array.all_eq_true_iff_forall_mem.1 h3) e he
    simpa [hb] using h4
  · rintro ⟨h1, h2, o, ho, h3⟩
    refine ⟨h1, h2, ?_⟩
    rw [ho]
    simp only [Option.map_some, Option.getD_some]
    exact Array.all_eq_true_iff_forall_mem.2 fun e he => by
      by_cases hb : Region.binds .any e = true
      · simp [h3 e he hb]
      · simp [hb]

theorem split_at {α : Type} {x : α} : ∀ {l : List α}, x ∈ l → ∃ a b, l = a ++ x :: b
  | y :: l, h => by
    rcases List.mem_cons.1 h with e | e
    · exact ⟨[], l, by rw [e]; rfl⟩
    · obtain ⟨a, b, hab⟩ := split_at e
      exact ⟨y :: a, b, by rw [hab]; rfl⟩

/-- WHATEVER ORDER: what the order of the text leads to, every order that the edges allow leads to. -/
theorem any_of_path (hback : backward ops = true) {stn : St} {Q : Exit → Act → World → Prop} (hQ : ∀ a w, Sim P X stn a w → Q .normal a w) :
    ∀ (t : List (Nat × Loc)) (listed : Array Bool) (st : St) (a : Act) (w : World), listed.size = ops.size →
      (∀ p, p ∈ t → LR P X ops p.1 p.2) → (∀ i, i < ops.size → (listed.getD i true = false ↔ ∃ l, (i, l) ∈ t)) → (∀ p, p ∈ t → p.1 < ops.size) → (t.map (·.1)).Pairwise (· < ·) →
      Shut ops (fun i => listed.getD i false = true) →
      okPairs (masks ops.toList []) t = true → Path t st stn → Sim P X st a w → wpAny P .any ops Q t.length listed a w
  | [], listed, st, a, w, hsz, _, hun, _, _, _, _, hp, hs => by
    have hr : Region.ready .any ops listed = [] := by
      apply List.eq_nil_iff_forall_not_mem.2
      intro i hi
      obtain ⟨h1, h2, _⟩ := ready_mem.1 hi
      obtain ⟨l, hl⟩ := (hun i h1).1 h2
      cases hl
    refine ⟨hr, ?_⟩
    have hp' : stn = st := hp
    subst hp'
    exact hQ _ _ hs
  | p :: t, listed, st, a, w, hsz, hLR, hun, hlt, hsort, hshut, hok, hp, hs => by
    have flip : ∀ i, i < ops.size → listed.getD i true = true → listed.getD i false = true := fun i hi h => by
      rw [Array.getD_eq_getD_getElem?] at h ⊢
      have : i < listed.size := by omega
      simp [this] at h ⊢; exact h
    constructor
    · intro hr
      exfalso
      have hp1 : p.1 < ops.size := hlt p (by simp)
      have : p.1 ∈ Region.ready .any ops listed := by
        refine ready_mem.2 ⟨hp1, (hun p.1 hp1).2 ⟨p.2, by simp⟩, ops[p.1], by simp [hp1], fun e he hb => ?_⟩
        have hlt' : e.on < p.1 := backward_spec hback (j := p.1) (o := ops[p.1]) (by simp [hp1]) he hb
        apply flip e.on (by omega)
        cases hx : listed.getD e.on true with
        | true => rfl
        | false =>
          obtain ⟨l, hl⟩ := (hun e.on (by omega)).1 hx
          rcases List.mem_cons.1 hl with h | h
          · rw [← h] at hlt'; simp at hlt'
          · rw [List.map_cons, List.pairwise_cons] at hsort
            have := hsort.1 e.on (List.mem_map.2 ⟨_, h, rfl⟩)
            omega
      rw [hr] at this; cases this
    · intro i hi
      obtain ⟨h1, h2, o, ho, h3⟩ := ready_mem.1 hi
      obtain ⟨l, hl⟩ := (hun i h1).1 h2
      obtain ⟨ps, qs, hpq⟩ := split_at hl
      rw [hpq] at hok hp hsort
      have hlen : t.length = (ps ++ qs).length := by
        have := congrArg List.length hpq
        simp at this ⊢; omega
      have hap : ∀ x, x ∈ ps → Apart x.2 l := by
        intro x hx
        rcases okPairs_spec hok x hx with hm | hm
        · exfalso
          have hin : listed.getD x.1 false = true := masks_good ops (fun i => listed.getD i false = true) hshut ops.toList [] (by simp) (by simp) i o ho h3 x.1 hm
          have hx1 : x.1 < ops.size := hlt x (by rw [hpq]; simp [hx])
          have : listed.getD x.1 true = false := (hun x.1 hx1).2 ⟨x.2, by rw [hpq]; simp [hx]⟩
          have hsl : x.1 < listed.size := by omega
          rw [Array.getD_eq_getD_getElem?] at hin this
          simp [hsl] at hin this
          rw [hin] at this; cases this
        · exact Loc.apart_spec hm
      have hp2 := Path.front hap hp
      rw [hlen]
      have hsub : (ps ++ qs).Sublist (ps ++ (i, l) :: qs) := List.Sublist.append (List.Sublist.refl _) (List.sublist_cons_self _ _)
      have hne : ∀ x, x ∈ ps ++ qs → x.1 ≠ i := by
        intro x hx e
        rw [List.map_append, List.map_cons, List.pairwise_append] at hsort
        rcases List.mem_append.1 hx with h | h
        · have := hsort.2.2 x.1 (List.mem_map.2 ⟨x, h, rfl⟩) i (by simp)
          omega
        · have := (List.pairwise_cons.1 hsort.2.1).1 x.1 (List.mem_map.2 ⟨x, h, rfl⟩)
          omega
      have hget : ∀ (j : Nat) (b : Bool), (listed.setIfInBounds i true).getD j b = if j = i then true else listed.getD j b := by
        intro j b
        rw [Array.getD_eq_getD_getElem?, Array.getD_eq_getD_getElem?, Array.getElem?_setIfInBounds]
        by_cases e : i = j
        · subst e; simp [show i < listed.size from by omega]
        · rw [if_neg e, if_neg (Ne.symm e)]
      refine hLR (i, l) (by rw [hpq]; simp) st a w _ _ hs hp2.1 fun a' w' hs' => ?_
      refine any_of_path hback hQ (ps ++ qs) (listed.setIfInBounds i true) _ a' w' (by simp [hsz]) (fun x hx => hLR x (by rw [hpq]; exact hsub.subset hx)) ?_
        (fun x hx => hlt x (by rw [hpq]; exact hsub.subset hx)) (List.Pairwise.sublist (hsub.map _) hsort) ?_ (okPairs_sub hsub hok) hp2.2 hs'
      · intro j hj
        rw [hget]
        constructor
        · intro hx
          split at hx
          · cases hx
          · rename_i hji
            obtain ⟨m, hm⟩ := (hun j hj).1 hx
            rw [hpq] at hm
            refine ⟨m, ?_⟩
            rcases List.mem_append.1 hm with h | h
            · exact List.mem_append.2 (.inl h)
            · rcases List.mem_cons.1 h with h | h
              · cases h; exact absurd rfl hji
              · exact List.mem_append.2 (.inr h)
        · rintro ⟨m, hm⟩
          rw [if_neg (hne _ hm)]
          exact (hun j hj).2 ⟨m, by rw [hpq]; exact hsub.subset hm⟩
      · intro j o' ho' hj e he hb
        simp only [hget] at hj ⊢
        split
        · rfl
        · split at hj
          · rename_i e1; subst e1
            rw [ho] at ho'; cases ho'
            exact h3 e he hb
          · exact hshut j o' ho' hj e he hb
  termination_by t => t.length
  decreasing_by
    have := congrArg List.length hpq
    simp at this ⊢; omega

/-- What is seen of a state as it is. -/
def Sees (P : Program) (X : Ctx) (st st' : St) : Prop := ∀ a w, Sim P X st a w → Sim P X st' a w

/-- THE RUN OF A REGION in the order of its text, with what each operation reads and writes written down. Where the order is the text's alone a state may be seen anew between two operations. -/
def Run (P : Program) (X : Ctx) (ops : Array Oper) (dr : Bool) (Q : St → Prop) : Nat → Nat → St → List (Nat × Loc) → Prop
  | 0, _, st, log => (dr = true → (okPairs (masks ops.toList []) log.reverse && backward ops) = true) ∧ Q st
  | r + 1, i, st, log => ∃ st1 l, (if dr = true then st1 = st else Sees P X st st1) ∧ LR P X ops i l ∧ l.pre st1 ∧ Run P X ops dr Q r (i + 1) (l.upd st1) ((i, l) :: log)

theorem Path.snoc {p : Nat × Loc} : ∀ {ps : List (Nat × Loc)} {st st' : St}, Path ps st st' → p.2.pre st' → Path (ps ++ [p]) st (p.2.upd st')
  | [], st, st', h, hp => by
    have h' : st' = st := h
    subst h'; exact ⟨hp, rfl⟩
  | q :: ps, st, st', h, hp => ⟨h.1, Path.snoc h.2 hp⟩

theorem Run.path {Q : St → Prop} {st0 : St} : ∀ (r i : Nat) (st : St) (log : List (Nat × Loc)), Run P X ops true Q r i st log →
    (∀ p, p ∈ log → LR P X ops p.1 p.2) → Path log.reverse st0 st → (log.reverse.map (·.1)) = List.range i →
    ∃ full stn, (∀ p, p ∈ full → LR P X ops p.1 p.2) ∧ Path full st0 stn ∧ full.map (·.1) = List.range (i + r) ∧ (okPairs (masks ops.toList []) full && backward ops) = true ∧ Q stn
  | 0, i, st, log, h, h1, h2, h3 => ⟨log.reverse, st, fun p hp => h1 p (by simpa using hp), h2, h3, h.1 rfl, h.2⟩
  | r + 1, i, st, log, h, h1, h2, h3 => by
    obtain ⟨st1, l, he, hl, hpre, hrun⟩ := h
    have he' : st1 = st := by simpa using he
    subst he'
    have := Run.path r (i + 1) _ _ hrun (fun p hp => by rcases List.mem_cons.1 hp with e | e; · subst e; exact hl
                                                        · exact h1 p e)
      (by simp only [List.reverse_cons]; exact Path.snoc h2 hpre) (by simp [h3, List.range_succ])
    simpa [Nat.add_assoc, Nat.add_comm 1 r] using this

theorem Run.text {R : St → Prop} {Q : Exit → Act → World → Prop} (hQ : ∀ st a w, R st → Sim P X st a w → Q .normal a w) :
    ∀ (r i : Nat) (st : St) (log : List (Nat × Loc)) (a : Act) (w : World), Run P X ops false R r i st log → Sim P X st a w → wpOps P ops Q (List.range' i r) a w
  | 0, i, st, log, a, w, h, hs => hQ _ _ _ h.2 hs
  | r + 1, i, st, log, a, w, h, hs => by
    obtain ⟨st1, l, he, hl, hpre, hrun⟩ := h
    have he' : Sees P X st st1 := by simpa using he
    rw [List.range'_succ, wpOps_cons]
    exact hl st1 a w _ _ (he' a w hs) hpre fun a' w' hs' => Run.text hQ r (i + 1) _ _ a' w' hrun hs'

theorem wpOps_of_path {stn : St} {Q : Exit → Act → World → Prop} (hQ : ∀ a w, Sim P X stn a w → Q .normal a w) :
    ∀ (t : List (Nat × Loc)) (st : St) (a : Act) (w : World), (∀ p, p ∈ t → LR P X ops p.1 p.2) → Path t st stn → Sim P X st a w → wpOps P ops Q (t.map (·.1)) a w
  | [], st, a, w, _, hp, hs => by
    have hp' : stn = st := hp
    subst hp'; exact hQ _ _ hs
  | p :: t, st, a, w, hl, hp, hs => by
    rw [List.map_cons, wpOps_cons]
    exact hl p (by simp) st a w _ _ hs hp.1 fun a' w' hs' => wpOps_of_path hQ t _ a' w' (fun q hq => hl q (by simp [hq])) hp.2 hs'

theorem Sim.drew {st : St} {a : Act} {w : World} (h : Sim P X st a w) : Sim P X st a { w with drawn := w.drawn + 1 } := by
  obtain ⟨G, h⟩ := h
  exact ⟨G, h.grow (Below.drew (Below.refl _ _))⟩

theorem region_of_run {id : Nat} {dr : Bool} {R : St → Prop} {Q : Exit → Act → World → Prop} {st : St} {a : Act} {w : World} (hm : P.follows .mixedOrders = true)
    (hrun : Run P X ops dr R ops.size 0 st []) (hQ : ∀ st' a' w', R st' → Sim P X st' a' w' → Q .normal a' w') (hs : Sim P X st a w) : (Code.region id ops dr).wp P Q a w := by
  cases dr with
  | false =>
    refine wp_region ?_
    have := Run.text hQ ops.size 0 st [] a w hrun hs
    rwa [← List.range_eq_range'] at this
  | true =>
    obtain ⟨full, stn, h1, h2, h3, h6, h5⟩ := Run.path (st0 := st) ops.size 0 st [] hrun (by simp) rfl (by simp)
    rw [Nat.zero_add] at h3
    simp only [Bool.and_eq_true] at h6
    have hlen : full.length = ops.size := by have := congrArg List.length h3; simpa using this
    have hmem : ∀ p, p ∈ full → p.1 < ops.size := fun p hp => by
      have : p.1 ∈ full.map (·.1) := List.mem_map.2 ⟨p, hp, rfl⟩
      rw [h3] at this; simpa using this
    refine wp_region_any hm ?_
    rw [← hlen]
    refine any_of_path h6.2 (fun a' w' hs' => hQ _ _ _ h5 hs') full (Array.replicate full.length false) st a _ (by simp [hlen]) h1 ?_ hmem ?_ ?_ h6.1 h2 hs.drew
    · intro i hi
      constructor
      · intro _
        have : i ∈ full.map (·.1) := by rw [h3]; simpa using hi
        obtain ⟨p, hp, e⟩ := List.mem_map.1 this
        exact ⟨p.2, by rw [← e]; exact hp⟩
      · intro _
        rw [Array.getD_eq_getD_getElem?]
        simp [hlen, hi]
    · rw [h3]; exact List.pairwise_lt_range
    · intro j o ho hj
      rw [Array.getD_eq_getD_getElem?] at hj
      by_cases hlt : j < full.length
      · simp [hlt] at hj
      · simp [hlt] at hj

end Go.Lift
