/- Lemmas for MixValidSaid, which YtmmkocokfdheiaaFin7 proves. -/
/- The operations, one rule each: moves, boxes, loads, stores, addresses, numbers. No condition. -/
import Derived.Test.YtmmkocokfdheiaaLift3
namespace Go.Lift
open Go.RowKit

variable {P : Program} {X : Ctx} {ops : Array Oper}

abbrev one (t : T) : D := .e (.one (.pure t))
abbrev vD (v : Value) : D := .e (.one (.pure (.val v)))
abbrev bD (b : Bool) : D := .e (.one (.pure (.val (.bool b))))

/-- The operation is wanted. -/
inductive Grd (ops : Array Oper) (o : Oper) : List (Operand × D) → Prop where
  | none (h : o.guard = none) : Grd ops o []
  | some (j : Nat) (want : Bool) (t : Nat) (h : o.guard = some (j, want)) (hj : (ops[j]?).bind (·.dst) = some t) : Grd ops o [(.tmp t, bD want)]

theorem cellAt_bool {arr : Array Value} {t : Nat} {b : Bool} (h : cellAt arr t = .bool b) : arr[t]? = some (.bool b) := by
  unfold cellAt at h
  cases hx : arr[t]? with
  | none => rw [hx] at h; simp [undef] at h
  | some v => rw [hx] at h; simpa using h

theorem SimG.wanted {G : Gh} {st : St} {a : Act} {w : World} (h : SimG P X G st a w) {o : Oper} {gs : List (Operand × D)} (hg : Grd ops o gs) (hp : preR st.env gs) :
    Region.wanted o (yielded ops a.tmps) = true := by
  cases hg with
  | none h0 => simp [Region.wanted, h0]
  | some j want t h0 hj =>
    have h1 : RdT w G.S (cellAt a.tmps t) (.val (.bool want)) := h.env t _ hp.1
    have h2 : cellAt a.tmps t = .bool want := by
      generalize cellAt a.tmps t = v at h1
      cases h1; rfl
    have h3 := cellAt_bool h2
    simp [Region.wanted, h0, yielded, hj, h3]

theorem preR_append {env : Nat → Option D} : ∀ {a b : List (Operand × D)}, preR env (a ++ b) ↔ preR env a ∧ preR env b
  | [], b => by simp [preR]
  | p :: a, b => by simp only [List.cons_append, preR, preR_append (a := a), and_assoc]

/-- One operation that yields a value. -/
theorem LR.value {i : Nat} {o : Oper} {l : Loc} {gs rs : List (Operand × D)} (ho : ops[i]? = some o) (hg : Grd ops o gs) (hrs : l.rs = gs ++ rs) (hd : l.dst = o.dst) (hn : ∀ s, o.dst = some s → s < X.n)
    (h : ∀ G st a w, SimG P X G st a w → l.pre st → ∃ v w' G', (execOp a.eval o).run P w = .ok (.value v) w' ∧ SimG P X G' ⟨st.env, setBs st.bx l.wb⟩ a w' ∧
      ∀ d, l.out = some d → RdD P w' G' v d ∧ ∀ b, b ∈ d.names → ((setBs st.bx l.wb) b).isSome = true) : LR P X ops i l := by
  intro st a w K Q hs hpre hK
  obtain ⟨G, hs⟩ := hs
  obtain ⟨v, w', G', hrun, hs', hout⟩ := h G st a w hs hpre
  have hw := hs.wanted hg (preR_append.1 (hrs ▸ hpre.r)).1
  unfold wpOp
  rw [ho]
  simp only [hw, if_true]
  refine .inl ?_
  unfold Oper.wp
  rw [hrun]
  show K (a.put o.dst v) w'
  rw [← hd]
  exact hK _ _ ⟨G', hs'.put l.dst l.out v (by rw [hd]; exact hn) hout⟩

theorem LR.skip {i : Nat} {o : Oper} {l : Loc} {gs rs : List (Operand × D)} (ho : ops[i]? = some o) (hg : Grd ops o gs) (hrs : l.rs = gs ++ rs) (hd : o.dst = none) (hd' : l.dst = none)
    (h : ∀ G st a w, SimG P X G st a w → l.pre st → ∃ w' G', (execOp a.eval o).run P w = .ok .skip w' ∧ SimG P X G' ⟨st.env, setBs st.bx l.wb⟩ a w') : LR P X ops i l := by
  intro st a w K Q hs hpre hK
  obtain ⟨G, hs⟩ := hs
  obtain ⟨w', G', hrun, hs'⟩ := h G st a w hs hpre
  have hw := hs.wanted hg (preR_append.1 (hrs ▸ hpre.r)).1
  unfold wpOp
  rw [ho]
  simp only [hw, if_true]
  refine .inl ?_
  unfold Oper.wp
  rw [hrun]
  show K (a.put o.dst undef) w'
  refine hK _ _ ⟨G', ?_⟩
  rw [hd]
  unfold Loc.upd
  rw [hd']
  exact hs'

/-- Operation i, its slot, and what its guard reads. -/
def at0 (ops : Array Oper) (i n : Nat) : Option (Op × Nat) := match ops[i]? with
  | some o => (match o.guard, o.dst with
    | none, some s => if Nat.blt s n then some (o.op, s) else none
    | _, _ => none)
  | none => none
def atG (ops : Array Oper) (i n : Nat) : Option (Op × Nat × Nat × Bool) := match ops[i]? with
  | some o => (match o.guard, o.dst with
    | some (j, want), some s => (match (ops[j]?).bind (·.dst) with
      | some t => if Nat.blt s n then some (o.op, s, t, want) else none
      | none => none)
    | _, _ => none)
  | none => none
inductive At (env : Nat → Option D) (ops : Array Oper) (i n : Nat) : Op → Nat → List (Operand × D) → Prop where
  | p {op : Op} {s : Nat} (h : at0 ops i n = some (op, s)) : At env ops i n op s []
  | g {op : Op} {s t : Nat} {want : Bool} (h : atG ops i n = some (op, s, t, want)) (he : env t = some (bD want)) : At env ops i n op s [(.tmp t, bD want)]

theorem blt_lt {a b : Nat} (h : Nat.blt a b = true) : a < b := by rw [← Nat.blt_eq]; exact h

theorem At.out {env : Nat → Option D} {ops : Array Oper} {i n s : Nat} {op : Op} {gs : List (Operand × D)} (h : At env ops i n op s gs) :
    ∃ o, ops[i]? = some o ∧ o.op = op ∧ o.dst = some s ∧ s < n ∧ Grd ops o gs ∧ preR env gs := by
  cases h with
  | p h =>
    unfold at0 at h
    split at h
    · rename_i o ho
      split at h
      · rename_i s' hg hd
        split at h
        · rename_i hb
          cases h
          exact ⟨o, ho, rfl, hd, blt_lt hb, .none hg, trivial⟩
        · cases h
      · cases h
    · cases h
  | g h he =>
    unfold atG at h
    split at h
    · rename_i o ho
      split at h
      · rename_i j want' s' hg hd
        split at h
        · rename_i t' ht
          split at h
          · rename_i hb
            cases h
            exact ⟨o, ho, rfl, hd, blt_lt hb, .some j _ _ hg ht, he, trivial⟩
          · cases h
        · cases h
      · cases h
    · cases h

def at0S (ops : Array Oper) (i : Nat) : Option Op := match ops[i]? with
  | some o => (match o.guard, o.dst with
    | none, none => some o.op
    | _, _ => none)
  | none => none
theorem atS_out {ops : Array Oper} {i : Nat} {op : Op} (h : at0S ops i = some op) : ∃ o, ops[i]? = some o ∧ o.op = op ∧ o.dst = none ∧ o.guard = none := by
  unfold at0S at h
  split at h
  · rename_i o ho
    split at h
    · rename_i hg hd
      cases h
      exact ⟨o, ho, rfl, hd, hg⟩
    · cases h
  · cases h

section run
variable {dr : Bool} {Q : St → Prop} {r i : Nat} {st : St} {log : List (Nat × Loc)} {o : Oper} {gs : List (Operand × D)}

theorem Run.step {l : Loc} (next : Run P X ops dr Q r (i + 1) (l.upd st) ((i, l) :: log)) (hp : l.pre st) (h : LR P X ops i l) : Run P X ops dr Q (r + 1) i st log := ⟨st, l, by cases dr; exact fun _ _ h => h; exact rfl, h, hp, next⟩

/-- An operation that is not wanted. -/
theorem r_unwanted {j t s : Nat} {want : Bool} (ho : ops[i]? = some o) (hg : o.guard = some (j, want)) (hj : (ops[j]?).bind (·.dst) = some t) (hd : o.dst = some s) (hn : s < X.n)
    (hx : opd st.env (.tmp t) = some (bD (!want)))
    (next : Run P X ops dr Q r (i + 1) (Loc.upd ⟨[(.tmp t, bD (!want))], [], some s, none, [], []⟩ st) ((i, ⟨[(.tmp t, bD (!want))], [], some s, none, [], []⟩) :: log)) : Run P X ops dr Q (r + 1) i st log := by
  refine Run.step next ⟨⟨hx, trivial⟩, trivial, trivial⟩ ?_
  intro st a w K Q hs hpre hK
  obtain ⟨G, hs⟩ := hs
  have h1 : RdT w G.S (cellAt a.tmps t) (.val (.bool (!want))) := hs.env t _ hpre.r.1
  have h2 : cellAt a.tmps t = .bool (!want) := by
    generalize cellAt a.tmps t = v at h1
    cases h1; rfl
  have hw : Region.wanted o (yielded ops a.tmps) = false := by
    simp [Region.wanted, hg, yielded, hj, cellAt_bool h2]
  unfold wpOp
  rw [ho]
  simp only [hw, Bool.false_eq_true, if_false]
  rw [hd]
  exact hK _ _ ⟨G, hs.put (some s) none undef (by intro t e; cases e; exact hn) (by intro d e; cases e)⟩

def atU (ops : Array Oper) (i n : Nat) : Option (Nat × Nat × Nat × Bool) := match ops[i]? with
  | some o => (match o.guard, o.dst with
    | some (j, want), some s => (match (ops[j]?).bind (·.dst) with
      | some t => if Nat.blt s n then some (j, s, t, want) else none
      | none => none)
    | _, _ => none)
  | none => none

/-- The same, in short. -/
theorem r_not {j t s : Nat} {want : Bool} (h : atU ops i X.n = some (j, s, t, want)) (hx : st.env t = some (bD (!want)))
    (next : Run P X ops dr Q r (i + 1) (Loc.upd ⟨[(.tmp t, bD (!want))], [], some s, none, [], []⟩ st) ((i, ⟨[(.tmp t, bD (!want))], [], some s, none, [], []⟩) :: log)) : Run P X ops dr Q (r + 1) i st log := by
  unfold atU at h
  split at h
  · rename_i o ho
    split at h
    · rename_i j' want' s' hg hd
      split at h
      · rename_i t' ht
        split at h
        · rename_i hb
          cases h
          exact r_unwanted ho hg ht hd (blt_lt hb) hx next
        · cases h
      · cases h
    · cases h
  · cases h

/-- A bool in a slot is split upon. -/
theorem r_split {t : Nat} {b : Bool} (hx : st.env t = some (bD b)) (h1 : b = true → Run P X ops dr Q r i (St.put st (some t) (some (bD true))) log) (h2 : b = false → Run P X ops dr Q r i (St.put st (some t) (some (bD false))) log) : Run P X ops dr Q r i st log := by
  have key : ∀ c : Bool, b = c → St.put st (some t) (some (bD c)) = st := by
    intro c hc
    subst hc
    apply St.ext
    · intro u
      simp only [St.put]
      split
      · rename_i e; rw [e, hx]
      · rfl
    · intro u; rfl
  cases b with
  | true => have := h1 rfl; rwa [key true rfl] at this
  | false => have := h2 rfl; rwa [key false rfl] at this

/-- A state seen anew between two operations, where the order is the text's alone. -/
theorem r_see {st1 : St} (h : Sees P X st st1) (next : Run P X ops false Q (r + 1) i st1 log) : Run P X ops false Q (r + 1) i st log := by
  obtain ⟨st2, l, he, h1, h2, h3⟩ := next
  refine ⟨st2, l, ?_, h1, h2, h3⟩
  have he' : Sees P X st1 st2 := by simpa using he
  show if false = true then _ else _
  rw [if_neg (by decide)]
  exact fun a w hs => he' a w (h a w hs)

theorem hn_of {s : Nat} (hd : o.dst = some s) (hn : s < X.n) : ∀ t, o.dst = some t → t < X.n := by
  intro t e; rw [hd] at e; cases e; exact hn

theorem r_mv {x : Operand} {d : D} {s : Nat} (ho : ops[i]? = some o) (hop : o.op = .move x ∨ o.op = .assign x) (hd : o.dst = some s) (hn : s < X.n) (hg : Grd ops o gs) (hgp : preR st.env gs)
    (hx : opd st.env x = some d)
    (next : Run P X ops dr Q r (i + 1) (Loc.upd ⟨gs ++ [(x, d)], [], some s, some d, [], []⟩ st) ((i, ⟨gs ++ [(x, d)], [], some s, some d, [], []⟩) :: log)) : Run P X ops dr Q (r + 1) i st log := by
  refine Run.step next ⟨preR_append.2 ⟨hgp, hx, trivial⟩, trivial, trivial⟩ (LR.value ho hg rfl hd.symm (hn_of hd hn) ?_)
  intro G st a w hs hpre
  have hx := (preR_append.1 hpre.r).2.1
  refine ⟨a.eval x, w, G, ?_, hs, ?_⟩
  · rcases hop with h | h <;> simp [execOp, h]
  · rintro d' ⟨⟩
    exact ⟨hs.opd hx, hs.opd_live hx⟩

theorem r_move {x : Operand} {d : D} {s : Nat} (hat : At st.env ops i X.n (.move x) s gs) (hx : opd st.env x = some d)
    (next : Run P X ops dr Q r (i + 1) (Loc.upd ⟨gs ++ [(x, d)], [], some s, some d, [], []⟩ st) ((i, ⟨gs ++ [(x, d)], [], some s, some d, [], []⟩) :: log)) : Run P X ops dr Q (r + 1) i st log := by
  obtain ⟨o, ho, hop, hd, hn, hg, hgp⟩ := hat.out
  exact r_mv ho (.inl hop) hd hn hg hgp hx next
theorem r_assign {x : Operand} {d : D} {s : Nat} (hat : At st.env ops i X.n (.assign x) s gs) (hx : opd st.env x = some d)
    (next : Run P X ops dr Q r (i + 1) (Loc.upd ⟨gs ++ [(x, d)], [], some s, some d, [], []⟩ st) ((i, ⟨gs ++ [(x, d)], [], some s, some d, [], []⟩) :: log)) : Run P X ops dr Q (r + 1) i st log := by
  obtain ⟨o, ho, hop, hd, hn, hg, hgp⟩ := hat.out
  exact r_mv ho (.inr hop) hd hn hg hgp hx next

/-- The cells of a value. -/
def E.cells : E → List C
  | .one c => [c]
  | .agg cs => cs

theorem RdE.cells {w : World} {G : Gh} {v : Value} {x : E} (h : RdE P w G v x) : v.cells.size = x.cells.length ∧ ∀ (j : Nat) (c : C), x.cells[j]? = some c → RdC P w G (cellAt v.cells j) c := by
  cases x with
  | one c =>
    have h' : RdC P w G v c := h
    have ho := h'.one
    have hc : v.cells = #[v] := by cases v <;> first | rfl | simp [oneC] at ho
    rw [hc]
    refine ⟨rfl, fun j c' hj => ?_⟩
    cases j with
    | zero => simp [E.cells] at hj; subst hj; simpa [cellAt] using h'
    | succ j => simp [E.cells] at hj
  | agg cs =>
    obtain ⟨vs, rfl, hs, h⟩ := h
    exact ⟨hs, h⟩

theorem E.cells_names {x : E} {b : Nat} : b ∈ cnames x.cells ↔ b ∈ x.names := by
  cases x <;> simp [E.cells, E.names, cnames]

theorem alloc_eq (w : World) (o : Obj) : ({ w with heap := w.heap.push o } : World) = w.alloc o := rfl

theorem run_newObj (w : World) (o : Obj) : (newObj o).run P w = .ok w.heap.size (w.alloc o) := rfl

theorem r_box {x : Operand} {y : E} {s : Nat} {el : TypeId} (hat : At st.env ops i X.n (.box el x) s gs)
    (hx : opd st.env x = some (.e y)) (hnew : st.bx s = none)
    (next : Run P X ops dr Q r (i + 1) (Loc.upd ⟨gs ++ [(x, .e y)], [], some s, some (.e (.one (.ptr s 0))), [(s, .box y.cells)], [s]⟩ st) ((i, ⟨gs ++ [(x, .e y)], [], some s, some (.e (.one (.ptr s 0))), [(s, .box y.cells)], [s]⟩) :: log)) : Run P X ops dr Q (r + 1) i st log := by
  obtain ⟨o, ho, hop, hd, hn, hg, hgp⟩ := hat.out
  refine Run.step next ⟨preR_append.2 ⟨hgp, hx, trivial⟩, trivial, hnew, trivial⟩ (LR.value ho hg rfl hd.symm (hn_of hd hn) ?_)
  intro G st a w hs hpre
  have hx := (preR_append.1 hpre.r).2.1
  have hnew := hpre.n.1
  have hR : RdE P w G (a.eval x) y := hs.opd hx
  have hl := hs.opd_live hx
  obtain ⟨h1, h2⟩ := hR.cells
  have hext : G.ext (G.set s (some w.heap.size) undef) (fun b => (st.bx b).isSome = true) := Gh.set_ext _ _ _ _ (by simp [hnew])
  have key := hs.newB (.cells (a.eval x).cells el) s (.box y.cells) undef hnew
    ⟨w.heap.size, (a.eval x).cells, el, by simp [Gh.set], by rw [heap_alloc, if_pos rfl], h1, fun j c hj => (h2 j c hj).mono hext (fun β hβ => by rw [heap_alloc, if_neg (Nat.ne_of_lt (hs.S_lt β hβ))])
      fun b hb => hl b (by show b ∈ y.names; rw [← E.cells_names]; exact mem_cnames.2 ⟨c, List.mem_of_getElem? hj, hb⟩)⟩
    (fun c hc => hl c (by show c ∈ y.names; rw [← E.cells_names]; exact hc))
  refine ⟨.pointer (some ⟨w.heap.size, 0, none⟩), _, _, ?_, key, ?_⟩
  · simp [execOp, hop, Instr.box, newVar, newRow]
  · rintro d ⟨⟩
    refine ⟨⟨w.heap.size, by simp [Gh.set], rfl⟩, ?_⟩
    intro b hb
    simp [D.names, E.names, C.names] at hb
    subst hb; simp [setBs]

/-! Facts on types, each closed. -/
def szB (P : Program) (t : TypeId) (n : Nat) : Bool := match P.info? t with | some i => i.size == n | none => false
def aggB (P : Program) (t : TypeId) (b : Bool) : Bool := match P.underlying t with | some (.struct _) | some (.array _ _) => b | some _ => !b | none => false
def zeroB (P : Program) (t : TypeId) : Option Value := (P.info? t).bind (·.zero)
def fieldB (P : Program) (s : TypeId) (f off : Nat) : Bool := match P.underlying s with
  | some (.struct fs) => (match fs[f]? with | some fl => fl.offset == off && (match P.info? fl.type with | some i => i.size != 0 | none => false) | none => false)
  | _ => false
def sliceB (P : Program) (t e : TypeId) : Bool := match P.underlying t with | some (.slice e') => e' == e | _ => false

theorem run_sizeOf {t n : Nat} (h : szB P t n = true) (w : World) : (sizeOf t).run P w = .ok n w := by
  unfold szB at h
  split at h
  · rename_i i hi
    have : i.size = n := by simpa using h
    simp [sizeOf, typeInfo, program, Sem.run, hi, this]
  · cases h

theorem run_underlying' {t : TypeId} {d : TypeDesc} (h : P.underlying t = some d) (w : World) : (underlying t).run P w = .ok d w := by
  simp [underlying, program, Sem.run, h]

theorem run_isAgg {t : TypeId} {b : Bool} (h : aggB P t b = true) (w : World) : (isAgg t).run P w = .ok b w := by
  unfold aggB at h
  unfold isAgg
  split at h
  · rename_i hu; subst h; refine run_then (run_underlying' hu w) ?_; rfl
  · rename_i hu; subst h; refine run_then (run_underlying' hu w) ?_; rfl
  · rename_i d hu1 hu2 hd
    have : b = false := by simpa using h
    subst this
    refine run_then (run_underlying' hd w) ?_
    cases d <;> first | rfl | (exfalso; exact hu1 _ rfl) | (exfalso; exact hu2 _ _ rfl)
  · cases h

theorem run_zeroValue {t : TypeId} {z : Value} (h : zeroB P t = some z) (w : World) : (zeroValue t).run P w = .ok z w := by
  unfold zeroB at h
  cases hi : P.info? t with
  | none => rw [hi] at h; cases h
  | some i =>
    rw [hi] at h
    simp only [Option.bind_some] at h
    simp [zeroValue, typeInfo, program, Sem.run, hi, h]

theorem ofs_read {w : World} {G : Gh} {vs : Array Value} (h : vs.toList.all oneC = true) (j : Nat) (c : C) (hj : (vs.toList.map fun v => C.pure (T.of v))[j]? = some c) : RdC P w G (cellAt vs j) c := by
  rw [List.getElem?_map] at hj
  cases hx : vs.toList[j]? with
  | none => rw [hx] at hj; cases hj
  | some v =>
    rw [hx] at hj; cases hj
    have hv : vs[j]? = some v := by simpa using hx
    have h1 : oneC v = true := List.all_eq_true.1 h v (List.mem_of_getElem? hx)
    simp only [cellAt, hv, Option.getD_some]
    exact RdT.of h1

theorem ofs_names {l : List Value} : cnames (l.map fun v => C.pure (T.of v)) = [] := by
  induction l with
  | nil => rfl
  | cons v l ih => simp only [List.map_cons, cnames, C.names, ih, List.append_nil]

theorem r_alloc {z : Value} {zs : List Value} {s : Nat} {el : TypeId} (hat : At st.env ops i X.n (.alloc el) s gs)
    (hz : zeroB P el = some z) (hzs : z.cells.toList = zs) (h1 : zs.all oneC = true) (hnew : st.bx s = none)
    (next : Run P X ops dr Q r (i + 1) (Loc.upd ⟨gs ++ [], [], some s, some (.e (.one (.ptr s 0))), [(s, .box (zs.map fun v => C.pure (T.of v)))], [s]⟩ st) ((i, ⟨gs ++ [], [], some s, some (.e (.one (.ptr s 0))), [(s, .box (zs.map fun v => C.pure (T.of v)))], [s]⟩) :: log)) : Run P X ops dr Q (r + 1) i st log := by
  obtain ⟨o, ho, hop, hd, hn, hg, hgp⟩ := hat.out
  subst hzs
  refine Run.step next ⟨preR_append.2 ⟨hgp, trivial⟩, trivial, hnew, trivial⟩ (LR.value ho hg rfl hd.symm (hn_of hd hn) ?_)
  intro G st a w hs hpre
  have hnew := hpre.n.1
  have key := hs.newB (.cells z.cells el) s (.box (z.cells.toList.map fun v => C.pure (T.of v))) undef hnew
    ⟨w.heap.size, z.cells, el, by simp [Gh.set], by rw [heap_alloc, if_pos rfl], by simp, fun j c hj => ofs_read h1 j c hj⟩
    (fun c hc => by
      have hc' : c ∈ cnames (z.cells.toList.map fun v => C.pure (T.of v)) := hc
      rw [ofs_names] at hc'; cases hc')
  refine ⟨.pointer (some ⟨w.heap.size, 0, none⟩), _, _, ?_, key, ?_⟩
  · simp only [execOp, hop, Instr.alloc]
    refine run_then (a := (.pointer (some ⟨w.heap.size, 0, none⟩))) (w1 := w.alloc (.cells z.cells el)) ?_ rfl
    refine run_then (run_zeroValue hz w) ?_
    simp [newVar, newRow]
  · rintro d ⟨⟩
    refine ⟨⟨w.heap.size, by simp [Gh.set], rfl⟩, ?_⟩
    intro b hb
    simp [D.names, E.names, C.names] at hb
    subst hb; simp [setBs]

/-- A load that leaves the world alone: whatever its address. -/
theorem run_loadAt1 {t : TypeId} {w : World} {β off : Nat} {arr : Array Value} {el : TypeId} {fz : Nat × Nat} (ht : aggB P t false = true) (h : w.heap[β]? = some (.cells arr el fz)) (hn : off < arr.size) :
    (Instr.loadAt t (.pointer (some ⟨β, off, none⟩))).run P w = .ok (cellAt arr off) w := by
  unfold Instr.loadAt
  refine run_then (a := (⟨β, off, none⟩ : Addr)) (w1 := w) rfl ?_
  unfold loadVar
  refine run_then (run_isAgg ht w) ?_
  exact run_load1 h hn

theorem run_loadAtN {t : TypeId} {w : World} {β off n : Nat} {arr : Array Value} {el : TypeId} {fz : Nat × Nat} (ht : aggB P t true = true) (hz : szB P t n = true) (h : w.heap[β]? = some (.cells arr el fz)) (hn : off + n ≤ arr.size) :
    (Instr.loadAt t (.pointer (some ⟨β, off, none⟩))).run P w = .ok (.agg ((List.range n).map fun j => cellAt arr (off + j)).toArray) w := by
  unfold Instr.loadAt
  refine run_then (a := (⟨β, off, none⟩ : Addr)) (w1 := w) rfl ?_
  unfold loadVar
  refine run_then (run_isAgg ht w) ?_
  simp only [if_true]
  refine run_then (run_sizeOf hz w) (run_then (run_loadCells h hn) rfl)

theorem cellAt_range {f : Nat → Value} {n j : Nat} (h : j < n) : cellAt ((List.range n).map f).toArray j = f j := by
  simp [cellAt, h]

theorem SimG.same_bx {G : Gh} {st : St} {a : Act} {w : World} (h : SimG P X G st a w) : SimG P X G ⟨st.env, setBs st.bx []⟩ a w := h

theorem r_load1 {x : Operand} {b k s : Nat} {cells : List C} {c : C} {t : TypeId} (hat : At st.env ops i X.n (.load t x) s gs)
    (hx : opd st.env x = some (.e (.one (.ptr b k)))) (ht : aggB P t false = true) (hb : st.bx b = some (.box cells)) (hc : cells[k]? = some c)
    (next : Run P X ops dr Q r (i + 1) (Loc.upd ⟨gs ++ [(x, .e (.one (.ptr b k)))], [(b, .box cells)], some s, some (.e (.one c)), [], []⟩ st) ((i, ⟨gs ++ [(x, .e (.one (.ptr b k)))], [(b, .box cells)], some s, some (.e (.one c)), [], []⟩) :: log)) : Run P X ops dr Q (r + 1) i st log := by
  obtain ⟨o, ho, hop, hd, hn, hg, hgp⟩ := hat.out
  refine Run.step next ⟨preR_append.2 ⟨hgp, hx, trivial⟩, ⟨hb, trivial⟩, trivial⟩ (LR.value ho hg rfl hd.symm (hn_of hd hn) ?_)
  intro G st a w hs hpre
  have hx := (preR_append.1 hpre.r).2.1
  have hb := hpre.b.1
  obtain ⟨β, hβ, hv⟩ : RdC P w G (a.eval x) (.ptr b k) := hs.opd hx
  obtain ⟨β', arr, el, h1, h2, h3, h4⟩ := hs.blk b _ hb
  rw [hβ] at h1; cases h1
  have hk : k < cells.length := by
    rcases Nat.lt_or_ge k cells.length with h | h
    · exact h
    · rw [List.getElem?_eq_none h] at hc; cases hc
  refine ⟨cellAt arr k, w, G, ?_, hs, ?_⟩
  · simp only [execOp, hop, hv]
    exact run_then (run_loadAt1 ht h2 (by omega)) rfl
  · rintro d ⟨⟩
    exact ⟨h4 k c hc, fun b' hb' => hs.liveB b _ hb b' (mem_cnames.2 ⟨c, List.mem_of_getElem? hc, hb'⟩)⟩

theorem r_loadN {x : Operand} {b k n s : Nat} {cells cs : List C} {t : TypeId} (hat : At st.env ops i X.n (.load t x) s gs)
    (hx : opd st.env x = some (.e (.one (.ptr b k)))) (ht : aggB P t true = true) (hz : szB P t n = true) (hb : st.bx b = some (.box cells)) (hc : (cells.drop k).take n = cs) (hl : cs.length = n)
    (next : Run P X ops dr Q r (i + 1) (Loc.upd ⟨gs ++ [(x, .e (.one (.ptr b k)))], [(b, .box cells)], some s, some (.e (.agg cs)), [], []⟩ st) ((i, ⟨gs ++ [(x, .e (.one (.ptr b k)))], [(b, .box cells)], some s, some (.e (.agg cs)), [], []⟩) :: log)) : Run P X ops dr Q (r + 1) i st log := by
  obtain ⟨o, ho, hop, hd, hn, hg, hgp⟩ := hat.out
  refine Run.step next ⟨preR_append.2 ⟨hgp, hx, trivial⟩, ⟨hb, trivial⟩, trivial⟩ (LR.value ho hg rfl hd.symm (hn_of hd hn) ?_)
  intro G st a w hs hpre
  have hx := (preR_append.1 hpre.r).2.1
  have hb := hpre.b.1
  obtain ⟨β, hβ, hv⟩ : RdC P w G (a.eval x) (.ptr b k) := hs.opd hx
  obtain ⟨β', arr, el, h1, h2, h3, h4⟩ := hs.blk b _ hb
  rw [hβ] at h1; cases h1
  by_cases hn0 : n = 0
  · subst hn0
    have hcs : cs = [] := List.eq_nil_of_length_eq_zero hl
    subst hcs
    refine ⟨.agg #[], w, G, ?_, hs, ?_⟩
    · simp only [execOp, hop, hv]
      refine run_then (a := .agg #[]) (w1 := w) ?_ rfl
      unfold Instr.loadAt
      refine run_then (a := (⟨β, k, none⟩ : Addr)) (w1 := w) rfl ?_
      unfold loadVar
      refine run_then (run_isAgg ht w) ?_
      simp only [if_true]
      refine run_then (run_sizeOf hz w) (run_then (w1 := w) (a := #[]) ?_ rfl)
      simp [loadCells, loadCellsFrom]
    · rintro d ⟨⟩
      exact ⟨⟨#[], rfl, rfl, fun j c hj => by simp at hj⟩, fun b' hb' => by simp [D.names, E.names, cnames] at hb'⟩
  have hk : k + n ≤ cells.length := by
    have := congrArg List.length hc
    simp at this; omega
  refine ⟨.agg ((List.range n).map fun j => cellAt arr (k + j)).toArray, w, G, ?_, hs, ?_⟩
  · simp only [execOp, hop, hv]
    exact run_then (run_loadAtN ht hz h2 (by omega)) rfl
  · rintro d ⟨⟩
    have hget : ∀ (j : Nat) (c : C), cs[j]? = some c → j < n ∧ cells[k + j]? = some c := by
      intro j c hj
      have hjn : j < n := by
        rcases Nat.lt_or_ge j cs.length with h | h
        · omega
        · rw [List.getElem?_eq_none h] at hj; cases hj
      refine ⟨hjn, ?_⟩
      rw [← hc, List.getElem?_take_of_lt hjn, List.getElem?_drop] at hj
      exact hj
    refine ⟨⟨_, rfl, by simp [hl], fun j c hj => ?_⟩, fun b' hb' => ?_⟩
    · obtain ⟨hjn, hj'⟩ := hget j c hj
      rw [cellAt_range hjn]
      exact h4 _ c hj'
    · obtain ⟨c, hcm, hcb⟩ := mem_cnames.1 hb'
      obtain ⟨j, hj⟩ := List.mem_iff_getElem?.1 hcm
      exact hs.liveB b _ hb b' (mem_cnames.2 ⟨c, List.mem_of_getElem? (hget j c hj).2, hcb⟩)

end run
end Go.Lift
