/- Lemmas for MixValidSaid, which YtmmkocokfdheiaaFin7 proves. -/
/- The rules of statements, how a state is seen anew, and how a contract is proved. No condition. -/
import Derived.Test.YtmmkocokfdheiaaLift11
namespace Go.Lift
open Go.RowKit

variable {P : Program} {X : Ctx}

/-- From every world and frame that the state describes, the code ends as Q says. -/
def W (P : Program) (X : Ctx) (c : Code) (Q : Exit → St → Prop) (st : St) : Prop :=
  ∀ (a : Act) (w : World), Sim P X st a w → c.wp P (fun e a' w' => ∃ st', Q e st' ∧ Sim P X st' a' w') a w

def thenQ (K : St → Prop) (Q : Exit → St → Prop) : Exit → St → Prop
  | .normal, st => K st
  | e, st => Q e st

theorem W_seq {x y : Code} {Q : Exit → St → Prop} {st : St} (h : W P X x (thenQ (W P X y Q) Q) st) : W P X (.seq x y) Q st := by
  intro a w hs
  refine wp_seq (wp_mono (h a w hs) ?_)
  rintro e a' w' ⟨st', hq, hs'⟩
  cases e with
  | normal => exact hq a' w' hs'
  | _ => exact ⟨st', hq, hs'⟩

theorem W_mono {c : Code} {Q Q' : Exit → St → Prop} {st : St} (h : W P X c Q st) (hq : ∀ e st, Q e st → Q' e st) : W P X c Q' st :=
  fun a w hs => wp_mono (h a w hs) fun _ _ _ ⟨st', h1, h2⟩ => ⟨st', hq _ _ h1, h2⟩

theorem W_skip {Q : Exit → St → Prop} {st : St} (h : Q .normal st) : W P X .skip Q st := fun _ _ hs => wp_skip ⟨st, h, hs⟩
theorem W_exit {id : Nat} {Q : Exit → St → Prop} {st : St} (h : Q (.exit id) st) : W P X (.exit id) Q st := fun _ _ hs => wp_exit ⟨st, h, hs⟩
theorem W_ret {Q : Exit → St → Prop} {st : St} (h : Q .ret st) : W P X .ret Q st := fun _ _ hs => wp_ret ⟨st, h, hs⟩

theorem W_cond {c : Operand} {x y : Code} {Q : Exit → St → Prop} {st : St} {b : Bool} (hc : opd st.env c = some (bD b)) (ht : b = true → W P X x Q st) (hf : b = false → W P X y Q st) : W P X (.cond c x y) Q st := by
  intro a w hs
  have hcv : a.eval c = .bool b := by
    obtain ⟨G, hs⟩ := hs
    exact val_eq (hs.opd hc : RdT w G.S (a.eval c) (.val _))
  cases b with
  | true => exact wp_cond_true hcv (ht rfl a w hs)
  | false => exact wp_cond_false hcv (hf rfl a w hs)

def blockQ (id : Nat) (Q : Exit → St → Prop) : Exit → St → Prop
  | .exit id', st => if id' = id then Q .normal st else Q (.exit id') st
  | e, st => Q e st

theorem W_block {id : Nat} {c : Code} {Q : Exit → St → Prop} {st : St} (h : W P X c (blockQ id Q) st) : W P X (.block id c) Q st := by
  intro a w hs
  refine wp_block (wp_mono (h a w hs) ?_)
  rintro e a' w' ⟨st', hq, hs'⟩
  cases e with
  | exit id' =>
    simp only [blockQ] at hq
    simp only [Exit.inBlock]
    split at hq
    · rename_i e; rw [if_pos e]; exact ⟨st', hq, hs'⟩
    · rename_i e; rw [if_neg e]; exact ⟨st', hq, hs'⟩
  | _ => exact ⟨st', hq, hs'⟩

/-- A loop: what holds at its head with n rounds to spare. -/
theorem W_loop {c : Code} {Q : Exit → St → Prop} {st : St} (I : Nat → St → Prop) (n : Nat) (h0 : I n st)
    (round : ∀ n st, I n st → W P X c (thenQ (fun st' => ∃ m, m < n ∧ I m st') Q) st) : W P X (.loop c) Q st := by
  intro a w hs b k cs
  have key : ∀ (n : Nat) (st : St) (a : Act) (w : World), I n st → Sim P X st a w →
      ∃ e a' w', (∃ st', Q e st' ∧ Sim P X st' a' w') ∧ Arrives P (lone (b.at a (.code c :: .inLoop c :: k)) cs w) b k cs e a' w' := by
    intro n
    induction n using Nat.strongRecOn with
    | _ n ih =>
      intro st a w hI hs
      obtain ⟨e, a1, w1, ⟨st1, hq, hs1⟩, harr⟩ := round n st hI a w hs b (.inLoop c :: k) cs
      cases e with
      | normal =>
        obtain ⟨m, hm, hI1⟩ := hq
        obtain ⟨e2, a2, w2, h2, harr2⟩ := ih m hm st1 a1 w1 hI1 hs1
        exact ⟨e2, a2, w2, h2, .of_steps (Steps.trans harr (.one step_inLoop)) harr2⟩
      | exit id => exact ⟨_, a1, w1, ⟨st1, hq, hs1⟩, .pass (x := .inLoop c) rfl (fun _ _ => .inl (by simp)) harr⟩
      | goto l => exact ⟨_, a1, w1, ⟨st1, hq, hs1⟩, .pass (x := .inLoop c) rfl (fun _ _ => .inl (by simp)) harr⟩
      | ret => exact ⟨_, a1, w1, ⟨st1, hq, hs1⟩, .pass (x := .inLoop c) rfl (fun _ _ => .inl (by simp)) harr⟩
      | panic ch => exact ⟨_, a1, w1, ⟨st1, hq, hs1⟩, .pass (x := .inLoop c) rfl (fun _ _ => .inl (by simp)) harr⟩
      | outgrown => exact ⟨_, a1, w1, ⟨st1, hq, hs1⟩, .pass (x := .inLoop c) rfl (fun _ _ => .inl (by simp)) harr⟩
  obtain ⟨e, a', w', hq, harr⟩ := key n st a w h0 hs
  exact ⟨e, a', w', hq, .of_steps (.one step_loop) harr⟩

theorem W_region {id : Nat} {ops : Array Oper} {dr : Bool} {Q : Exit → St → Prop} {st : St} {n : Nat} (hm : P.follows .mixedOrders = true) (hn : ops.size = n)
    (h : Run P X ops dr (fun st' => Q .normal st') n 0 st []) : W P X (.region id ops dr) Q st := by
  subst hn
  intro a w hs
  exact region_of_run hm h (fun st' a' w' hq hs' => ⟨st', hq, hs'⟩) hs

theorem r_end {ops : Array Oper} {Q : St → Prop} {i : Nat} {st : St} {log : List (Nat × Loc)} (h : Q st) : Run P X ops false Q 0 i st log := ⟨(fun h => by cases h), h⟩
theorem r_endD {ops : Array Oper} {Q : St → Prop} {i : Nat} {st : St} {log : List (Nat × Loc)} (hb : (okPairs (masks ops.toList []) log.reverse && backward ops) = true) (h : Q st) : Run P X ops true Q 0 i st log := ⟨fun _ => hb, h⟩

theorem W_sees {c : Code} {Q : Exit → St → Prop} {st st' : St} (h : Sees P X st st') (hw : W P X c Q st') : W P X c Q st := fun a w hs => hw a w (h a w hs)

def look {α : Type} : List (Nat × α) → Nat → Option α
  | [], _ => none
  | p :: ps, k => if k = p.1 then some p.2 else look ps k

/-- A state written out. -/
def mk (el : List (Nat × D)) (bl : List (Nat × Blk)) : St := ⟨look el, look bl⟩

def allE (f : Nat → Nat) (env : Nat → Option D) : List (Nat × D) → Prop
  | [] => True
  | p :: ps => env p.1 = some (p.2.ren f) ∧ allE f env ps
def allB (f : Nat → Nat) (bx : Nat → Option Blk) : List (Nat × Blk) → Prop
  | [] => True
  | p :: ps => bx (f p.1) = some (p.2.ren f) ∧ allB f bx ps

theorem look_mem {α : Type} : ∀ {l : List (Nat × α)} {k : Nat} {x : α}, look l k = some x → (k, x) ∈ l
  | p :: ps, k, x, h => by
    simp only [look] at h
    split at h
    · rename_i e; cases h; subst e; simp
    · exact List.mem_cons_of_mem _ (look_mem h)

theorem allE_mem {f : Nat → Nat} {env : Nat → Option D} : ∀ {l : List (Nat × D)}, allE f env l → ∀ p, p ∈ l → env p.1 = some (p.2.ren f)
  | q :: ps, h, p, hp => by
    rcases List.mem_cons.1 hp with e | e
    · subst e; exact h.1
    · exact allE_mem h.2 p e
theorem allB_mem {f : Nat → Nat} {bx : Nat → Option Blk} : ∀ {l : List (Nat × Blk)}, allB f bx l → ∀ p, p ∈ l → bx (f p.1) = some (p.2.ren f)
  | q :: ps, h, p, hp => by
    rcases List.mem_cons.1 hp with e | e
    · subst e; exact h.1
    · exact allB_mem h.2 p e

def shutB (el : List (Nat × D)) (bl : List (Nat × Blk)) : Bool :=
  (el.all fun p => p.2.names.all fun b => (bl.any fun q => q.1 == b)) && (bl.all fun p => p.2.names.all fun b => (bl.any fun q => q.1 == b))

theorem look_isSome {α : Type} : ∀ {l : List (Nat × α)} {b : Nat}, (l.any fun q => q.1 == b) = true → (look l b).isSome = true
  | p :: ps, b, h => by
    simp only [List.any_cons, Bool.or_eq_true, beq_iff_eq] at h
    simp only [look]
    split
    · rfl
    · rename_i hne
      rcases h with h | h
      · exact absurd h.symm hne
      · exact look_isSome h

theorem ren_back_C {w : World} {G : Gh} {f : Nat → Nat} {v : Value} {c : C} (h : RdC P w G v (c.ren f)) : RdC P w { S := G.S, loc := fun b => G.loc (f b), hd := fun b => G.hd (f b) } v c := by
  cases c <;> exact h
theorem ren_back_E {w : World} {G : Gh} {f : Nat → Nat} {v : Value} {x : E} (h : RdE P w G v (x.ren f)) : RdE P w { S := G.S, loc := fun b => G.loc (f b), hd := fun b => G.hd (f b) } v x := by
  cases x with
  | one c => exact ren_back_C h
  | agg cs =>
    obtain ⟨vs, e, hs, h⟩ := h
    exact ⟨vs, e, by simpa using hs, fun j c hj => ren_back_C (h j _ (map_get hj))⟩
theorem ren_back_D {w : World} {G : Gh} {f : Nat → Nat} {v : Value} {d : D} (h : RdD P w G v (d.ren f)) : RdD P w { S := G.S, loc := fun b => G.loc (f b), hd := fun b => G.hd (f b) } v d := by
  cases d with
  | e x => exact ren_back_E h
  | tup xs =>
    obtain ⟨vs, e, hs, h⟩ := h
    exact ⟨vs, e, by simpa using hs, fun j c hj => ren_back_E (h j _ (map_get hj))⟩
theorem ren_back_B {w : World} {G : Gh} {f : Nat → Nat} {b : Nat} {k : Blk} (h : BlkOk P w G (f b) (k.ren f)) : BlkOk P w { S := G.S, loc := fun b => G.loc (f b), hd := fun b => G.hd (f b) } b k := by
  cases k with
  | box cells =>
    obtain ⟨β, arr, el, h1, h2, h3, h4⟩ := h
    exact ⟨β, arr, el, h1, h2, by simpa using h3, fun j c hj => ren_back_C (h4 j _ (map_get hj))⟩
  | vec e rows => exact h
  | gone => trivial

theorem ren_real {f : Nat → Nat} {k : Blk} : (k.ren f).real = k.real := by cases k <;> rfl

def nodupB : List Nat → Bool
  | [] => true
  | x :: xs => !xs.contains x && nodupB xs
theorem nodupB_spec : ∀ {l : List Nat}, nodupB l = true → l.Nodup
  | [], _ => List.nodup_nil
  | x :: xs, h => by
    simp only [nodupB, Bool.and_eq_true, Bool.not_eq_true'] at h
    refine List.nodup_cons.2 ⟨?_, nodupB_spec h.2⟩
    intro hm
    have : xs.contains x = true := by simpa using hm
    rw [this] at h; cases h.1

/-- The state seen anew: some slots and blocks forgotten, the blocks under other names. -/
theorem sees_mk {st : St} (f : Nat → Nat) (el : List (Nat × D)) (bl : List (Nat × Blk)) (he : allE f st.env el) (hb : allB f st.bx bl) (hinj' : nodupB ((bl.map (·.1)).map f) = true) (hshut : shutB el bl = true) : Sees P X st (mk el bl) := by
  have hinj := nodupB_spec hinj'
  rintro a w ⟨G, h⟩
  simp only [shutB, Bool.and_eq_true] at hshut
  refine ⟨{ S := G.S, loc := fun b => G.loc (f b), hd := fun b => G.hd (f b) }, ?_⟩
  have hbl : ∀ b k, (mk el bl).bx b = some k → (b, k) ∈ bl ∧ st.bx (f b) = some (k.ren f) := fun b k hk => by
    have hm := look_mem hk
    exact ⟨hm, allB_mem hb _ hm⟩
  refine { S_lt := h.S_lt, S_src := h.S_src, S_0 := h.S_0, S0_lt := h.S0_lt, tsz := h.tsz, defers := h.defers, below := h.below, blk := ?_, at_ok := ?_, at_inj := ?_, env := ?_, live := ?_, liveB := ?_ }
  · intro b k hk; exact ren_back_B (h.blk _ _ (hbl b k hk).2)
  · intro b k β hk hr hβ; exact h.at_ok (f b) (k.ren f) β (hbl b k hk).2 (by rw [ren_real]; exact hr) hβ
  · intro b c k l β hk hl hr hr' hβ hβ'
    have h1 := h.at_inj (f b) (f c) (k.ren f) (l.ren f) β (hbl b k hk).2 (hbl c l hl).2 (by rw [ren_real]; exact hr) (by rw [ren_real]; exact hr') hβ hβ'
    obtain ⟨i, hi⟩ := List.mem_iff_getElem?.1 (hbl b k hk).1
    obtain ⟨j, hj⟩ := List.mem_iff_getElem?.1 (hbl c l hl).1
    have hi' : ((bl.map (·.1)).map f)[i]? = some (f b) := map_get (map_get hi)
    have hj' : ((bl.map (·.1)).map f)[j]? = some (f c) := map_get (map_get hj)
    have hij : i = j := by
      rcases Nat.lt_trichotomy i j with h2 | h2 | h2
      · have := List.pairwise_iff_getElem.1 hinj i j (lt_of_get hi') (lt_of_get hj') h2
        rw [List.getElem?_eq_some_iff] at hi' hj'
        obtain ⟨_, e1⟩ := hi'; obtain ⟨_, e2⟩ := hj'
        exact absurd (e1.trans (h1.trans e2.symm)) this
      · exact h2
      · have := List.pairwise_iff_getElem.1 hinj j i (lt_of_get hj') (lt_of_get hi') h2
        rw [List.getElem?_eq_some_iff] at hi' hj'
        obtain ⟨_, e1⟩ := hi'; obtain ⟨_, e2⟩ := hj'
        exact absurd (e2.trans (h1.symm.trans e1.symm)) this
    subst hij
    rw [hi] at hj; cases hj; rfl
  · intro s d hs
    exact ren_back_D (h.env s _ (allE_mem he _ (look_mem hs)))
  · intro s d hs b hb'
    have := List.all_eq_true.1 (List.all_eq_true.1 hshut.1 _ (look_mem hs)) b hb'
    exact look_isSome this
  · intro b k hk c hc
    have := List.all_eq_true.1 (List.all_eq_true.1 hshut.2 _ (hbl b k hk).1) c hc
    exact look_isSome this

/-- A nil slice in a slot is taken as an empty vector of the call's own. -/
theorem sees_adopt {st : St} (s b e : Nat) (hs : st.env s = some (one .nil0)) (hb : st.bx b = none) : Sees P X st (St.setB (St.put st (some s) (some (.e (.one (.own b))))) b (.vec e [])) := by
  rintro a w ⟨G, h⟩
  have hv : RdT w G.S (cellAt a.tmps s) .nil0 := h.env s _ hs
  obtain ⟨a0, ha0⟩ : ∃ a0, cellAt a.tmps s = .slice a0 0 0 := by
    generalize cellAt a.tmps s = v at hv
    cases hv; exact ⟨_, rfl⟩
  have hne : ∀ c, (st.bx c).isSome = true → c ≠ b := fun c hc e => by rw [e, hb] at hc; cases hc
  have hext : G.ext (G.set b none (.slice a0 0 0)) (fun b => (st.bx b).isSome = true) := Gh.set_ext _ _ _ _ (by simp [hb])
  have h1 : SimG P X (G.set b none (.slice a0 0 0)) ⟨st.env, (St.setB st b (.vec e [])).bx⟩ a w := by
    refine h.frame ?_ hext (fun _ _ => rfl) ?_ ?_ ?_ h.S_lt h.S_src h.below
    · intro c hc; simp only [St.setB]; split <;> simp [hc]
    · intro c k hc
      simp only [St.setB] at hc
      split at hc
      · rename_i e2; subst e2; cases hc
        exact .inr ⟨.inl ⟨a0, by simp [Gh.set], rfl, by simp [Gh.set]⟩, fun c hc => by cases hc⟩
      · exact .inl ⟨hc, fun _ _ _ => rfl⟩
    · intro c k β hc hr hβ
      simp only [St.setB] at hc
      simp only [Gh.set] at hβ ⊢
      split at hc
      · rename_i e2; rw [if_pos e2] at hβ; cases hβ
      · rename_i e2; rw [if_neg e2] at hβ; exact h.at_ok c k β hc hr hβ
    · intro c c' k k' β hc hc' hr hr' hβ hβ'
      simp only [St.setB] at hc hc'
      simp only [Gh.set] at hβ hβ'
      split at hc
      · rename_i e2; rw [if_pos e2] at hβ; cases hβ
      · rename_i e2; rw [if_neg e2] at hβ
        split at hc'
        · rename_i e3; rw [if_pos e3] at hβ'; cases hβ'
        · rename_i e3; rw [if_neg e3] at hβ'; exact h.at_inj c c' k k' β hc hc' hr hr' hβ hβ'
  refine ⟨G.set b none (.slice a0 0 0), { h1 with env := ?_, live := ?_, blk := h1.blk, at_ok := h1.at_ok, at_inj := h1.at_inj, liveB := h1.liveB }⟩
  · intro t d ht
    simp only [St.setB, St.put] at ht
    split at ht
    · rename_i e2; cases ht
      rw [e2, ha0]
      exact ⟨by simp [Gh.set], _, _, _, rfl⟩
    · exact h1.env t d ht
  · intro t d ht c hc
    simp only [St.setB, St.put] at ht
    split at ht
    · cases ht
      simp [D.names, E.names, C.names] at hc
      subst hc; simp [St.setB]
    · exact h1.live t d ht c hc

/-- The same for a nil slice in a cell of a box. -/
theorem sees_adoptB {st : St} (x k b e : Nat) (cells : List C) (hx : st.bx x = some (.box cells)) (hk : cells[k]? = some (.pure .nil0)) (hb : st.bx b = none) : Sees P X st (St.setB (St.setB st b (.vec e [])) x (.box (cells.set k (.own b)))) := by
  rintro a w ⟨G, h⟩
  obtain ⟨β, arr, el, g1, g2, g3, g4⟩ := h.blk x _ hx
  have hv : RdT w G.S (cellAt arr k) .nil0 := g4 k _ hk
  obtain ⟨a0, ha0⟩ : ∃ a0, cellAt arr k = .slice a0 0 0 := by
    generalize cellAt arr k = v at hv
    cases hv; exact ⟨_, rfl⟩
  have hxb : x ≠ b := fun e => by rw [e, hb] at hx; cases hx
  have hext : G.ext (G.set b none (.slice a0 0 0)) (fun b => (st.bx b).isSome = true) := Gh.set_ext _ _ _ _ (by simp [hb])
  have hbx : ∀ c, (St.setB (St.setB st b (.vec e [])) x (.box (cells.set k (.own b)))).bx c = if c = x then some (.box (cells.set k (.own b))) else if c = b then some (.vec e []) else st.bx c := fun c => rfl
  refine ⟨G.set b none (.slice a0 0 0), ?_⟩
  refine h.frame (bx' := (St.setB (St.setB st b (.vec e [])) x (.box (cells.set k (.own b)))).bx) ?_ hext (fun _ _ => rfl) ?_ ?_ ?_ h.S_lt h.S_src h.below
  · intro c hc; rw [hbx]; split
    · rfl
    · split
      · rfl
      · exact hc
  · intro c l hc
    rw [hbx] at hc
    split at hc
    · rename_i e2; subst e2; cases hc
      refine .inr ⟨⟨β, arr, el, by simp [Gh.set, hxb, g1], g2, by simpa using g3, fun j c hj => ?_⟩, fun c hc => ?_⟩
      · rcases set_get hj with ⟨rfl, rfl⟩ | ⟨_, hj⟩
        · rw [ha0]; exact ⟨by simp [Gh.set], _, _, _, rfl⟩
        · exact (g4 j c hj).mono hext (fun _ _ => rfl) fun b' hb' => h.liveB _ _ hx b' (mem_cnames.2 ⟨c, List.mem_of_getElem? hj, hb'⟩)
      · obtain ⟨u, hu, hcu⟩ := mem_cnames.1 hc
        rw [hbx]
        rcases List.mem_or_eq_of_mem_set hu with hm | hm
        · have := h.liveB _ _ hx c (mem_cnames.2 ⟨u, hm, hcu⟩)
          split
          · rfl
          · split
            · rfl
            · exact this
        · subst hm
          simp [C.names] at hcu
          subst hcu
          split <;> simp
    · split at hc
      · rename_i e3; subst e3; cases hc
        exact .inr ⟨.inl ⟨a0, by simp [Gh.set], rfl, by simp [Gh.set]⟩, fun c hc => by cases hc⟩
      · exact .inl ⟨hc, fun _ _ _ => rfl⟩
  · intro c l γ hc hr hγ
    rw [hbx] at hc
    simp only [Gh.set] at hγ ⊢
    split at hc
    · rename_i e2; subst e2; rw [if_neg hxb] at hγ; exact h.at_ok _ _ γ hx rfl hγ
    · split at hc
      · rename_i e3; rw [if_pos e3] at hγ; cases hγ
      · rename_i e3; rw [if_neg e3] at hγ; exact h.at_ok c l γ hc hr hγ
  · intro c c' l l' γ hc hc' hr hr' hγ hγ'
    rw [hbx] at hc hc'
    simp only [Gh.set] at hγ hγ'
    have step : ∀ c l, (if c = x then some (Blk.box (cells.set k (.own b))) else if c = b then some (.vec e []) else st.bx c) = some l → l.real = true → (if c = b then none else G.loc c) = some γ → ∃ l0, st.bx c = some l0 ∧ l0.real = true ∧ G.loc c = some γ := by
      intro c l hc hr hγ
      split at hc
      · rename_i e2; subst e2; rw [if_neg hxb] at hγ; exact ⟨_, hx, rfl, hγ⟩
      · split at hc
        · rename_i e3; rw [if_pos e3] at hγ; cases hγ
        · rename_i e3; rw [if_neg e3] at hγ; exact ⟨l, hc, hr, hγ⟩
    obtain ⟨m, h1, h2, h3⟩ := step c l hc hr hγ
    obtain ⟨m', h1', h2', h3'⟩ := step c' l' hc' hr' hγ'
    exact h.at_inj c c' m m' γ h1 h1' h2 h2' h3 h3'

def C.frz (b : Nat) (rows : List (List T)) : C → C
  | .own c => if c = b then .pure (.sl rows) else .own c
  | .ptr c k => if c = b then .any else .ptr c k
  | .eptr c e i k => if c = b then .any else .eptr c e i k
  | c => c
def E.frz (b : Nat) (rows : List (List T)) : E → E
  | .one c => .one (c.frz b rows)
  | .agg cs => .agg (cs.map (C.frz b rows))
def D.frz (b : Nat) (rows : List (List T)) : D → D
  | .e x => .e (x.frz b rows)
  | .tup xs => .tup (xs.map (E.frz b rows))
def Blk.frz (b : Nat) (rows : List (List T)) : Blk → Blk
  | .box cs => .box (cs.map (C.frz b rows))
  | k => k

def St.frz (st : St) (b : Nat) (rows : List (List T)) : St :=
  ⟨fun s => (st.env s).map (D.frz b rows), fun c => if c = b then none else (st.bx c).map (Blk.frz b rows)⟩

theorem frz_C {w : World} {G : Gh} {b : Nat} {rows : List (List T)} {S' : Nat → Prop} {v : Value} {c : C} (h : RdC P w G v c) (hS : ∀ β, G.S β → S' β) (hrow : RdT w S' (G.hd b) (.sl rows)) : RdC P w { G with S := S' } v (c.frz b rows) := by
  cases c with
  | pure t => exact RdT.mono h (fun _ _ => rfl) hS
  | own c =>
    simp only [C.frz]
    split
    · rename_i e; subst e
      have : v = G.hd c := h.1
      subst this
      exact hrow
    · exact h
  | ptr c k =>
    simp only [C.frz]
    split
    · exact RdC.one h
    · exact h
  | eptr c e i k =>
    simp only [C.frz]
    split
    · exact RdC.one h
    · exact h
  | rop ts =>
    obtain ⟨β, off, arr, el, fz, h1, h2, h3, h4, h5⟩ := h
    exact ⟨β, off, arr, el, fz, h1, hS _ h2, h3, h4, fun j t hj => (h5 j t hj).mono (fun _ _ => rfl) hS⟩
  | clo g => exact CloOk.mono h (fun _ _ => rfl) hS
  | any => exact h
  | nilq p => exact h
  | fnc f => exact h

theorem frz_E {w : World} {G : Gh} {b : Nat} {rows : List (List T)} {S' : Nat → Prop} {v : Value} {x : E} (h : RdE P w G v x) (hS : ∀ β, G.S β → S' β) (hrow : RdT w S' (G.hd b) (.sl rows)) : RdE P w { G with S := S' } v (x.frz b rows) := by
  cases x with
  | one c => exact frz_C h hS hrow
  | agg cs =>
    obtain ⟨vs, e, hs, h⟩ := h
    refine ⟨vs, e, by simp [hs], fun j c hj => ?_⟩
    rw [List.getElem?_map] at hj
    cases hx : cs[j]? with
    | none => rw [hx] at hj; cases hj
    | some c0 => rw [hx] at hj; cases hj; exact frz_C (h j c0 hx) hS hrow

theorem frz_D {w : World} {G : Gh} {b : Nat} {rows : List (List T)} {S' : Nat → Prop} {v : Value} {d : D} (h : RdD P w G v d) (hS : ∀ β, G.S β → S' β) (hrow : RdT w S' (G.hd b) (.sl rows)) : RdD P w { G with S := S' } v (d.frz b rows) := by
  cases d with
  | e x => exact frz_E h hS hrow
  | tup xs =>
    obtain ⟨vs, e, hs, h⟩ := h
    refine ⟨vs, e, by simp [hs], fun j c hj => ?_⟩
    rw [List.getElem?_map] at hj
    cases hx : xs[j]? with
    | none => rw [hx] at hj; cases hj
    | some c0 => rw [hx] at hj; cases hj; exact frz_E (h j c0 hx) hS hrow

theorem frz_names_C {b : Nat} {rows : List (List T)} {c : C} {x : Nat} (h : x ∈ (c.frz b rows).names) : x ∈ c.names ∧ x ≠ b := by
  cases c with
  | own c =>
    simp only [C.frz] at h
    split at h
    · cases h
    · rename_i e; simp [C.names] at h ⊢; subst h; exact ⟨rfl, e⟩
  | ptr c k =>
    simp only [C.frz] at h
    split at h
    · cases h
    · rename_i e; simp [C.names] at h ⊢; subst h; exact ⟨rfl, e⟩
  | eptr c e i k =>
    simp only [C.frz] at h
    split at h
    · cases h
    · rename_i e; simp [C.names] at h ⊢; subst h; exact ⟨rfl, e⟩
  | _ => cases h
theorem frz_cnames {b : Nat} {rows : List (List T)} {cs : List C} {x : Nat} (h : x ∈ cnames (cs.map (C.frz b rows))) : x ∈ cnames cs ∧ x ≠ b := by
  obtain ⟨c, hc, hx⟩ := mem_cnames.1 h
  obtain ⟨c0, h0, rfl⟩ := List.mem_map.1 hc
  obtain ⟨h1, h2⟩ := frz_names_C hx
  exact ⟨mem_cnames.2 ⟨c0, h0, h1⟩, h2⟩
theorem frz_names_E {b : Nat} {rows : List (List T)} {y : E} {x : Nat} (h : x ∈ (y.frz b rows).names) : x ∈ y.names ∧ x ≠ b := by
  cases y with
  | one c => exact frz_names_C h
  | agg cs => exact frz_cnames h
theorem frz_names_D {b : Nat} {rows : List (List T)} {d : D} {x : Nat} (h : x ∈ (d.frz b rows).names) : x ∈ d.names ∧ x ≠ b := by
  cases d with
  | e y => exact frz_names_E h
  | tup xs =>
    obtain ⟨c, hc, hx⟩ := mem_enames.1 h
    obtain ⟨c0, h0, rfl⟩ := List.mem_map.1 hc
    obtain ⟨h1, h2⟩ := frz_names_E hx
    exact ⟨mem_enames.2 ⟨c0, h0, h1⟩, h2⟩

/-- A vector of the call's own is given over to sharing: it never changes any more. -/
theorem sees_frz {st : St} (b e : Nat) (rows : List (List T)) (hb : st.bx b = some (.vec e rows)) : Sees P X st (st.frz b rows) := by
  rintro a w ⟨G, h⟩
  let S' : Nat → Prop := fun β => G.S β ∨ G.loc b = some β
  have hS : ∀ β, G.S β → S' β := fun β h => .inl h
  have hrow : RdT w S' (G.hd b) (.sl rows) := by
    rcases h.blk b _ hb with ⟨a0, h1, h2, _⟩ | ⟨β, cap, arr, el, h0, h1, h2, h3, h4, h5, h6⟩
    · rw [h1, h2]; exact .nil _ _
    · rw [h1]
      exact .sl β 0 cap e arr el (0, 0) rows (.inr h0) h2 h3 (by rw [h4, Nat.zero_add]; exact Nat.mul_le_mul_right e h3) h5 (fun i row j t hi hj => by rw [Nat.zero_add]; exact (h6 i row j t hi hj).mono (fun _ _ => rfl) hS)
  have hbk : ∀ c k, (st.frz b rows).bx c = some k → c ≠ b ∧ ∃ k0, st.bx c = some k0 ∧ k = k0.frz b rows := fun c k hc => by
    simp only [St.frz] at hc
    split at hc
    · cases hc
    · rename_i e
      cases hx : st.bx c with
      | none => rw [hx] at hc; cases hc
      | some k0 => rw [hx] at hc; exact ⟨e, k0, rfl, by simpa using hc.symm⟩
  have hreal : ∀ k : Blk, (k.frz b rows).real = k.real := fun k => by cases k <;> rfl
  have hlv : ∀ c, (st.bx c).isSome = true → c ≠ b → ((st.frz b rows).bx c).isSome = true := fun c hc hne => by
    simp only [St.frz]; rw [if_neg hne]; simpa using hc
  refine ⟨{ G with S := S' }, ?_⟩
  refine { S_lt := ?_, S_src := ?_, S_0 := fun β hβ => .inl (h.S_0 β hβ), S0_lt := h.S0_lt, tsz := h.tsz, defers := h.defers, below := h.below, blk := ?_, at_ok := ?_, at_inj := ?_, env := ?_, live := ?_, liveB := ?_ }
  · rintro β (hβ | hβ)
    · exact h.S_lt β hβ
    · exact (h.at_ok b _ β hb rfl hβ).2.1
  · rintro β (hβ | hβ)
    · exact h.S_src β hβ
    · exact .inr (h.at_ok b _ β hb rfl hβ).1
  · intro c k hc
    obtain ⟨hne, k0, h0, rfl⟩ := hbk c k hc
    have := h.blk c k0 h0
    cases k0 with
    | box cells =>
      obtain ⟨β, arr, el, h1, h2, h3, h4⟩ := this
      refine ⟨β, arr, el, h1, h2, by simp [h3], fun j u hj => ?_⟩
      rw [List.getElem?_map] at hj
      cases hx : cells[j]? with
      | none => rw [hx] at hj; cases hj
      | some c0 => rw [hx] at hj; cases hj; exact frz_C (h4 j c0 hx) hS hrow
    | vec e' rows' =>
      rcases this with h1 | ⟨β, cap, arr, el, h0, h1, h2, h3, h4, h5, h6⟩
      · exact .inl h1
      · exact .inr ⟨β, cap, arr, el, h0, h1, h2, h3, h4, h5, fun i row j t hi hj => (h6 i row j t hi hj).mono (fun _ _ => rfl) hS⟩
    | gone => trivial
  · intro c k β hc hr hβ
    obtain ⟨hne, k0, h0, rfl⟩ := hbk c k hc
    rw [hreal] at hr
    have h1 := h.at_ok c k0 β h0 hr hβ
    refine ⟨h1.1, h1.2.1, ?_⟩
    rintro (h2 | h2)
    · exact h1.2.2 h2
    · exact hne (h.at_inj c b k0 _ β h0 hb hr rfl hβ h2)
  · intro c c' k k' β hc hc' hr hr' hβ hβ'
    obtain ⟨_, k0, h0, rfl⟩ := hbk c k hc
    obtain ⟨_, k0', h0', rfl⟩ := hbk c' k' hc'
    rw [hreal] at hr hr'
    exact h.at_inj c c' k0 k0' β h0 h0' hr hr' hβ hβ'
  · intro s d hs
    simp only [St.frz] at hs
    cases hx : st.env s with
    | none => rw [hx] at hs; cases hs
    | some d0 => rw [hx] at hs; cases hs; exact frz_D (h.env s d0 hx) hS hrow
  · intro s d hs c hc
    simp only [St.frz] at hs
    cases hx : st.env s with
    | none => rw [hx] at hs; cases hs
    | some d0 =>
      rw [hx] at hs; cases hs
      obtain ⟨h1, h2⟩ := frz_names_D hc
      exact hlv c (h.live s d0 hx c h1) h2
  · intro c k hc x hx
    obtain ⟨_, k0, h0, rfl⟩ := hbk c k hc
    cases k0 with
    | box cells =>
      obtain ⟨h1, h2⟩ := frz_cnames hx
      exact hlv x (h.liveB c _ h0 x h1) h2
    | vec e' rows' => cases hx
    | gone => cases hx

end Go.Lift
