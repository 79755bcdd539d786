/- Lemmas for MixValidSaid, which YtmmkocokfdheiaaFin7 proves. -/
/- More operations, one rule each: loads and stores by every kind of address, addresses, lengths, numbers. No condition. -/
import Derived.Test.YtmmkocokfdheiaaLift4
namespace Go.Lift
open Go.RowKit

variable {P : Program} {X : Ctx} {ops : Array Oper}

def overL {α : Type} : List α → Nat → List α → List α
  | cells, _, [] => cells
  | cells, k, c :: cs => overL (cells.set k c) (k + 1) cs

theorem overL_length {α : Type} : ∀ (cs : List α) (cells : List α) (k : Nat), (overL cells k cs).length = cells.length
  | [], _, _ => rfl
  | c :: cs, cells, k => by rw [overL, overL_length cs]; simp

theorem overL_get {α : Type} : ∀ (cs : List α) (cells : List α) (k j : Nat), k + cs.length ≤ cells.length →
    (overL cells k cs)[j]? = if k ≤ j ∧ j < k + cs.length then cs[j - k]? else cells[j]?
  | [], cells, k, j, _ => by rw [overL, if_neg (by simp only [List.length_nil]; omega)]
  | c :: cs, cells, k, j, h => by
    simp only [List.length_cons] at h
    rw [overL, overL_get cs _ _ _ (by simp; omega)]
    simp only [List.length_cons]
    by_cases e : j = k
    · subst e
      rw [if_neg (by omega), if_pos (by omega), List.getElem?_set_self (by omega)]; simp
    · by_cases e2 : k ≤ j ∧ j < k + (cs.length + 1)
      · rw [if_pos (by omega), if_pos e2, show j - k = (j - (k + 1)) + 1 from by omega]; simp
      · rw [if_neg (by omega), if_neg e2, List.getElem?_set_ne (Ne.symm e)]

theorem mem_overL {α : Type} {x : α} : ∀ {cs cells : List α} {k : Nat}, x ∈ overL cells k cs → x ∈ cells ∨ x ∈ cs
  | [], _, _, h => .inl h
  | c :: cs, cells, k, h => by
    rw [overL] at h
    rcases mem_overL h with h | h
    · rcases List.mem_or_eq_of_mem_set h with h | h
      · exact .inl h
      · exact .inr (by simp [h])
    · exact .inr (by simp [h])

theorem run_storeAt {t : TypeId} {w : World} {β off n : Nat} {arr : Array Value} {el : TypeId} {v : Value} (hz : szB P t n = true) (hv : v.cells.size = n) (h : w.heap[β]? = some (.cells arr el (0, 0))) (hn : off + n ≤ arr.size)
    (h1 : ∀ u, u ∈ v.cells.toList → oneC u = true) :
    (Instr.storeAt t (.pointer (some ⟨β, off, none⟩)) v).run P w = .ok () (wset w β (.cells (over arr off v.cells.toList) el (0, 0))) := by
  unfold Instr.storeAt
  refine run_then (a := (⟨β, off, none⟩ : Addr)) (w1 := w) rfl ?_
  unfold storeVar
  refine run_then (run_sizeOf hz w) ?_
  rw [if_neg (by omega)]
  have := run_storeCells (P := P) v.cells.toList w off 0 arr h (by simp [hv]; omega) h1
  simpa using this

theorem RdE.ones {w : World} {G : Gh} {v : Value} {y : E} (h : RdE P w G v y) : ∀ u, u ∈ v.cells.toList → oneC u = true := by
  intro u hu
  obtain ⟨h1, h2⟩ := h.cells
  obtain ⟨j, hj⟩ := List.mem_iff_getElem?.1 hu
  have hj' : v.cells[j]? = some u := by simpa using hj
  have hlt : j < v.cells.size := by
    rcases Nat.lt_or_ge j v.cells.size with h' | h'
    · exact h'
    · rw [Array.getElem?_eq_none h'] at hj'; cases hj'
  have hc : y.cells[j]? = some (y.cells[j]'(by omega)) := by simp [show j < y.cells.length from by omega]
  have := (h2 j _ hc).one
  simpa [cellAt, hj'] using this

theorem cellAt_toList {arr : Array Value} {j : Nat} : arr.toList[j]?.getD undef = cellAt arr j := by simp [cellAt]

section run
variable {dr : Bool} {Q : St → Prop} {r i : Nat} {st : St} {log : List (Nat × Loc)} {o : Oper} {gs : List (Operand × D)}

theorem r_store {x y : Operand} {b k n : Nat} {cells cells' : List C} {v : E} {t : TypeId} (hat : at0S ops i = some (.store t x y))
    (hx : opd st.env x = some (.e (.one (.ptr b k)))) (hy : opd st.env y = some (.e v)) (hb : st.bx b = some (.box cells)) (hz : szB P t n = true) (hv : v.cells.length = n) (hk : k + n ≤ cells.length) (hc : overL cells k v.cells = cells')
    (next : Run P X ops dr Q r (i + 1) (Loc.upd ⟨[(x, .e (.one (.ptr b k))), (y, .e v)], [(b, .box cells)], none, none, [(b, .box cells')], []⟩ st) ((i, ⟨[(x, .e (.one (.ptr b k))), (y, .e v)], [(b, .box cells)], none, none, [(b, .box cells')], []⟩) :: log)) : Run P X ops dr Q (r + 1) i st log := by
  obtain ⟨o, ho, hop, hd, hgn⟩ := atS_out hat
  have hg : Grd ops o [] := .none hgn
  have hgp : preR st.env [] := trivial
  refine Run.step next ⟨⟨hx, hy, trivial⟩, ⟨hb, trivial⟩, trivial⟩ (LR.skip ho hg rfl hd rfl ?_)
  intro G st a w hs hpre
  obtain ⟨hx, hy, _⟩ := hpre.r
  have hb := hpre.b.1
  obtain ⟨β, hβ, hv'⟩ : RdC P w G (a.eval x) (.ptr b k) := hs.opd hx
  have hR : RdE P w G (a.eval y) v := hs.opd hy
  have hl := hs.opd_live hy
  obtain ⟨g1, g2⟩ := hR.cells
  obtain ⟨β', arr, el, h1, h2, h3, h4⟩ := hs.blk b _ hb
  rw [hβ] at h1; cases h1
  have hat := hs.at_ok b _ β hb rfl hβ
  have hsame : ∀ γ, G.S γ → (wset w β (.cells (over arr k (a.eval y).cells.toList) el (0, 0))).heap[γ]? = w.heap[γ]? := fun γ hγ => by
    rw [heap_wset, if_neg (fun (h9 : γ = β ∧ β < w.heap.size) => hat.2.2 (h9.1 ▸ hγ))]
  have hidx : G.ext G (fun _ => True) := ⟨fun _ h => h, fun _ _ => rfl, fun _ _ => rfl⟩
  refine ⟨_, G, ?_, hs.setB (b := b) (k0 := .box cells) (k := .box cells') (o := .cells (over arr k (a.eval y).cells.toList) el (0, 0)) hb rfl rfl hβ ⟨β, over arr k (a.eval y).cells.toList, el, hβ, by rw [heap_wset, if_pos ⟨rfl, hat.2.1⟩], ?_, ?_⟩ ?_⟩
  · simp only [execOp, hop, hv']
    exact run_then (run_storeAt (n := n) hz (by omega) h2 (by omega) hR.ones) rfl
  · rw [over_size, h3, ← hc, overL_length]
  · intro j c hj
    rw [← hc, overL_get _ _ _ _ (by omega)] at hj
    rw [cellAt_over _ _ _ _ (by simp; omega)]
    simp only [Array.length_toList, g1]
    split at hj
    · rename_i hin
      rw [if_pos hin, cellAt_toList]
      exact (g2 _ c hj).mono hidx hsame (fun _ _ => trivial)
    · rename_i hin
      rw [if_neg hin]
      exact (h4 j c hj).mono hidx hsame (fun _ _ => trivial)
  · intro c hcn
    rw [← hc] at hcn
    obtain ⟨u, hu, hcu⟩ := mem_cnames.1 hcn
    rcases mem_overL hu with h | h
    · exact hs.liveB b _ hb c (mem_cnames.2 ⟨u, h, hcu⟩)
    · exact hl c (by show c ∈ v.names; rw [← E.cells_names]; exact mem_cnames.2 ⟨u, h, hcu⟩)

/-- A nil slice is one of no elements. -/
def T.nrm : T → T
  | .nil0 => .sl []
  | t => t
def C.nrm : C → C
  | .pure t => .pure t.nrm
  | c => c
def E.nrm : E → E
  | .one c => .one c.nrm
  | .agg cs => .agg (cs.map C.nrm)
def D.nrm : D → D
  | .e x => .e x.nrm
  | .tup xs => .tup (xs.map E.nrm)

theorem RdT.nrm {w : World} {S : Nat → Prop} {v : Value} {t : T} (h : RdT w S v t) : RdT w S v t.nrm := by
  cases t with
  | nil0 => cases h; exact .nil _ _
  | val u => exact h
  | sl rows => exact h
theorem RdC.nrm {w : World} {G : Gh} {v : Value} {c : C} (h : RdC P w G v c) : RdC P w G v c.nrm := by
  cases c <;> first | exact h | exact RdT.nrm h
theorem RdE.nrm {w : World} {G : Gh} {v : Value} {x : E} (h : RdE P w G v x) : RdE P w G v x.nrm := by
  cases x with
  | one c => exact RdC.nrm h
  | agg cs =>
    obtain ⟨vs, e, hs, h⟩ := h
    refine ⟨vs, e, by simp [hs], fun j c hj => ?_⟩
    rw [List.getElem?_map] at hj
    cases hx : cs[j]? with
    | none => rw [hx] at hj; cases hj
    | some c0 => rw [hx] at hj; cases hj; exact (h j c0 hx).nrm
theorem RdD.nrm {w : World} {G : Gh} {v : Value} {d : D} (h : RdD P w G v d) : RdD P w G v d.nrm := by
  cases d with
  | e x => exact RdE.nrm h
  | tup xs =>
    obtain ⟨vs, e, hs, h⟩ := h
    refine ⟨vs, e, by simp [hs], fun j c hj => ?_⟩
    rw [List.getElem?_map] at hj
    cases hx : xs[j]? with
    | none => rw [hx] at hj; cases hj
    | some c0 => rw [hx] at hj; cases hj; exact (h j c0 hx).nrm

/-- The cells of a value that is a tree. -/
def C.ts : C → Option T
  | .pure t => some t.nrm
  | _ => none
def E.ts : E → Option (List T)
  | .one c => match c.ts with
    | some t => some [t]
    | none => none
  | .agg cs => cs.mapM C.ts

theorem mapM_get {α β : Type} {f : α → Option β} : ∀ {l : List α} {l' : List β}, l.mapM f = some l' → l'.length = l.length ∧ ∀ (j : Nat) (y : β), l'[j]? = some y → ∃ x, l[j]? = some x ∧ f x = some y
  | [], l', h => by simp at h; subst h; exact ⟨rfl, fun j y hy => by simp at hy⟩
  | a :: l, l', h => by
    rw [List.mapM_cons] at h
    cases ha : f a with
    | none => rw [ha] at h; simp at h
    | some b =>
      rw [ha] at h
      cases hl : l.mapM f with
      | none => rw [hl] at h; simp at h
      | some bs =>
        rw [hl] at h; simp at h; subst h
        obtain ⟨h1, h2⟩ := mapM_get hl
        refine ⟨by simp [h1], fun j y hy => ?_⟩
        cases j with
        | zero => simp at hy; subst hy; exact ⟨a, rfl, ha⟩
        | succ j => exact h2 j y (by simpa using hy)

theorem RdC.ts {w : World} {G : Gh} {v : Value} {c : C} {t : T} (h : RdC P w G v c) (ht : c.ts = some t) : RdT w G.S v t := by
  cases c <;> first | (cases ht; done) | (cases ht; exact RdT.nrm h)

theorem RdE.ts {w : World} {G : Gh} {v : Value} {y : E} {ts : List T} (h : RdE P w G v y) (ht : y.ts = some ts) :
    v.cells.size = ts.length ∧ ∀ (j : Nat) (t : T), ts[j]? = some t → RdT w G.S (cellAt v.cells j) t := by
  obtain ⟨h1, h2⟩ := h.cells
  cases y with
  | one c =>
    simp only [E.ts] at ht
    cases hc : c.ts with
    | none => rw [hc] at ht; cases ht
    | some t =>
      rw [hc] at ht; cases ht
      refine ⟨h1, fun j u hj => ?_⟩
      cases j with
      | zero => simp at hj; subst hj; exact (h2 0 c rfl).ts hc
      | succ j => simp at hj
  | agg cs =>
    obtain ⟨g1, g2⟩ := mapM_get (show cs.mapM C.ts = some ts from ht)
    refine ⟨by rw [h1, g1]; rfl, fun j t hj => ?_⟩
    obtain ⟨c, hc1, hc2⟩ := g2 j t hj
    exact (h2 j c hc1).ts hc2

theorem map_get {α β : Type} {f : α → β} {l : List α} {k : Nat} {x : α} (h : l[k]? = some x) : (l.map f)[k]? = some (f x) := by
  rw [List.getElem?_map, h]; rfl

theorem lt_of_get {α : Type} {l : List α} {k : Nat} {x : α} (h : l[k]? = some x) : k < l.length := by
  rcases Nat.lt_or_ge k l.length with h' | h'
  · exact h'
  · rw [List.getElem?_eq_none h'] at h; cases h

theorem set_get {α : Type} {l : List α} {k j : Nat} {y x : α} (h : (l.set k y)[j]? = some x) : (j = k ∧ x = y) ∨ (j ≠ k ∧ l[j]? = some x) := by
  rw [List.getElem?_set] at h
  split at h
  · rename_i e
    split at h
    · exact .inl ⟨e.symm, by simpa using h.symm⟩
    · cases h
  · rename_i e
    exact .inr ⟨Ne.symm e, h⟩

theorem r_storee {x y : Operand} {b e ix k n : Nat} {rows rows' : List (List T)} {row : List T} {ts : List T} {v : E} {t : TypeId} (hat : at0S ops i = some (.store t x y))
    (hx : opd st.env x = some (.e (.one (.eptr b e ix k)))) (hy : opd st.env y = some (.e v)) (hb : st.bx b = some (.vec e rows)) (hrow : rows[ix]? = some row) (hts : v.ts = some ts) (hz : szB P t n = true) (hv : ts.length = n) (hk : k + n ≤ row.length)
    (hc : rows.set ix (overL row k ts) = rows')
    (next : Run P X ops dr Q r (i + 1) (Loc.upd ⟨[(x, .e (.one (.eptr b e ix k))), (y, .e v)], [(b, .vec e rows)], none, none, [(b, .vec e rows')], []⟩ st) ((i, ⟨[(x, .e (.one (.eptr b e ix k))), (y, .e v)], [(b, .vec e rows)], none, none, [(b, .vec e rows')], []⟩) :: log)) : Run P X ops dr Q (r + 1) i st log := by
  obtain ⟨o, ho, hop, hd, hgn⟩ := atS_out hat
  have hg : Grd ops o [] := .none hgn
  have hgp : preR st.env [] := trivial
  refine Run.step next ⟨⟨hx, hy, trivial⟩, ⟨hb, trivial⟩, trivial⟩ (LR.skip ho hg rfl hd rfl ?_)
  intro G st a w hs hpre
  obtain ⟨hx, hy, _⟩ := hpre.r
  have hb := hpre.b.1
  obtain ⟨β, hβ, hv'⟩ : RdC P w G (a.eval x) (.eptr b e ix k) := hs.opd hx
  have hR : RdE P w G (a.eval y) v := hs.opd hy
  obtain ⟨g1, g2⟩ := hR.ts hts
  rcases hs.blk b _ hb with ⟨_, _, h0, _⟩ | ⟨β', cap, arr, el, h0, h1, h2, h3, h4, h5, h6⟩
  · subst h0; simp at hrow
  rw [hβ] at h0; cases h0
  have hat := hs.at_ok b _ β hb rfl hβ
  have hsame : ∀ γ, G.S γ → (wset w β (.cells (over arr (ix * e + k) (a.eval y).cells.toList) el (0, 0))).heap[γ]? = w.heap[γ]? := fun γ hγ => by
    rw [heap_wset, if_neg (fun (h9 : γ = β ∧ β < w.heap.size) => hat.2.2 (h9.1 ▸ hγ))]
  have hre := h5 ix row hrow
  have hix := lt_of_get hrow
  have hbnd : ix * e + e ≤ arr.size := by
    rw [h4, ← Nat.succ_mul]; exact Nat.mul_le_mul_right e (by omega)
  have hoff : ix * e + k + n ≤ arr.size := by omega
  have hlen : ((a.eval y).cells.toList).length = n := by rw [Array.length_toList, g1, hv]
  refine ⟨_, G, ?_, hs.setB (b := b) (k0 := .vec e rows) (k := .vec e rows') (o := .cells (over arr (ix * e + k) (a.eval y).cells.toList) el (0, 0)) hb rfl rfl hβ
    (.inr ⟨β, cap, over arr (ix * e + k) (a.eval y).cells.toList, el, hβ, by rw [h1, ← hc]; simp, by rw [heap_wset, if_pos ⟨rfl, hat.2.1⟩], by rw [← hc]; simpa using h3, by rw [over_size, h4], ?_, ?_⟩) (fun c hcn => by cases hcn)⟩
  · simp only [execOp, hop, hv']
    exact run_then (run_storeAt (n := n) hz (by omega) h2 hoff hR.ones) rfl
  · intro j row' hj
    rw [← hc] at hj
    rcases set_get hj with ⟨_, rfl⟩ | ⟨_, hj⟩
    · rw [overL_length]; exact hre
    · exact h5 j row' hj
  · intro j row' m u hj hm
    rw [← hc] at hj
    rw [cellAt_over _ _ _ _ (by rw [hlen]; exact hoff), hlen]
    rcases set_get hj with ⟨rfl, rfl⟩ | ⟨hne, hj⟩
    · have hm2 := lt_of_get hm
      rw [overL_length] at hm2
      rw [overL_get _ _ _ _ (by omega)] at hm
      split at hm
      · rename_i hin
        rw [if_pos (by omega), show j * e + m - (j * e + k) = m - k from by omega, cellAt_toList]
        exact (g2 (m - k) u hm).mono hsame fun _ h => h
      · rename_i hin
        rw [if_neg (by omega)]
        exact (h6 j row m u hrow hm).mono hsame fun _ h => h
    · have hm2 := lt_of_get hm
      have hre' := h5 j row' hj
      have hlt : j < ix ∨ ix < j := by omega
      rw [if_neg ?_]
      · exact (h6 j row' m u hj hm).mono hsame fun _ h => h
      · rcases hlt with hlt | hlt
        · have : j * e + e ≤ ix * e := by rw [← Nat.succ_mul]; exact Nat.mul_le_mul_right e hlt
          omega
        · have : ix * e + e ≤ j * e := by rw [← Nat.succ_mul]; exact Nat.mul_le_mul_right e hlt
          omega

theorem r_loadr1 {x : Operand} {s : Nat} {ts : List T} {u : T} {t : TypeId} (hat : At st.env ops i X.n (.load t x) s gs)
    (hx : opd st.env x = some (.e (.one (.rop ts)))) (ht : aggB P t false = true) (hc : ts[0]? = some u)
    (next : Run P X ops dr Q r (i + 1) (Loc.upd ⟨gs ++ [(x, .e (.one (.rop ts)))], [], some s, some (one u), [], []⟩ st) ((i, ⟨gs ++ [(x, .e (.one (.rop ts)))], [], some s, some (one u), [], []⟩) :: log)) : Run P X ops dr Q (r + 1) i st log := by
  obtain ⟨o, ho, hop, hd, hn, hg, hgp⟩ := hat.out
  refine Run.step next ⟨preR_append.2 ⟨hgp, hx, trivial⟩, trivial, trivial⟩ (LR.value ho hg rfl hd.symm (hn_of hd hn) ?_)
  intro G st a w hs hpre
  have hx := (preR_append.1 hpre.r).2.1
  obtain ⟨β, off, arr, el, fz, hv, h1, h2, h3, h4⟩ : RdC P w G (a.eval x) (.rop ts) := hs.opd hx
  have hk := lt_of_get hc
  refine ⟨cellAt arr off, w, G, ?_, hs, ?_⟩
  · simp only [execOp, hop, hv]
    exact run_then (run_loadAt1 ht h2 (by omega)) rfl
  · rintro d ⟨⟩
    exact ⟨h4 0 u hc, fun b hb => by cases hb⟩

theorem pures_read {w : World} {G : Gh} {ts : List T} {f : Nat → Value} {n : Nat} (hn : ts.length = n) (h : ∀ (j : Nat) (t : T), ts[j]? = some t → RdT w G.S (f j) t) :
    RdD P w G (.agg ((List.range n).map f).toArray) (.e (.agg (ts.map C.pure))) := by
  refine ⟨_, rfl, by simp [hn], fun j c hj => ?_⟩
  rw [List.getElem?_map] at hj
  cases hx : ts[j]? with
  | none => rw [hx] at hj; cases hj
  | some t =>
    rw [hx] at hj; cases hj
    rw [cellAt_range (by have := lt_of_get hx; omega)]
    exact h j t hx

theorem pures_names {ts : List T} : cnames (ts.map C.pure) = [] := by
  induction ts with
  | nil => rfl
  | cons t ts ih => simp only [List.map_cons, cnames, C.names, ih, List.append_nil]

theorem r_loadrN {x : Operand} {s n : Nat} {ts us : List T} {t : TypeId} (hat : At st.env ops i X.n (.load t x) s gs)
    (hx : opd st.env x = some (.e (.one (.rop ts)))) (ht : aggB P t true = true) (hz : szB P t n = true) (hc : ts.take n = us) (hl : us.length = n)
    (next : Run P X ops dr Q r (i + 1) (Loc.upd ⟨gs ++ [(x, .e (.one (.rop ts)))], [], some s, some (.e (.agg (us.map C.pure))), [], []⟩ st) ((i, ⟨gs ++ [(x, .e (.one (.rop ts)))], [], some s, some (.e (.agg (us.map C.pure))), [], []⟩) :: log)) : Run P X ops dr Q (r + 1) i st log := by
  obtain ⟨o, ho, hop, hd, hn, hg, hgp⟩ := hat.out
  refine Run.step next ⟨preR_append.2 ⟨hgp, hx, trivial⟩, trivial, trivial⟩ (LR.value ho hg rfl hd.symm (hn_of hd hn) ?_)
  intro G st a w hs hpre
  have hx := (preR_append.1 hpre.r).2.1
  obtain ⟨β, off, arr, el, fz, hv, h1, h2, h3, h4⟩ : RdC P w G (a.eval x) (.rop ts) := hs.opd hx
  have hk : n ≤ ts.length := by
    have := congrArg List.length hc
    simp at this; omega
  refine ⟨.agg ((List.range n).map fun j => cellAt arr (off + j)).toArray, w, G, ?_, hs, ?_⟩
  · simp only [execOp, hop, hv]
    exact run_then (run_loadAtN ht hz h2 (by omega)) rfl
  · rintro d ⟨⟩
    refine ⟨pures_read hl fun j u hj => ?_, fun b hb => ?_⟩
    · have hjn := lt_of_get hj
      rw [← hc, List.getElem?_take_of_lt (by omega)] at hj
      exact h4 j u hj
    · have hb' : b ∈ cnames (us.map C.pure) := hb
      rw [pures_names] at hb'; cases hb'

theorem r_loade1 {x : Operand} {b e ix k s : Nat} {rows : List (List T)} {row : List T} {u : T} {t : TypeId} (hat : At st.env ops i X.n (.load t x) s gs)
    (hx : opd st.env x = some (.e (.one (.eptr b e ix k)))) (ht : aggB P t false = true) (hb : st.bx b = some (.vec e rows)) (hrow : rows[ix]? = some row) (hc : row[k]? = some u)
    (next : Run P X ops dr Q r (i + 1) (Loc.upd ⟨gs ++ [(x, .e (.one (.eptr b e ix k)))], [(b, .vec e rows)], some s, some (one u), [], []⟩ st) ((i, ⟨gs ++ [(x, .e (.one (.eptr b e ix k)))], [(b, .vec e rows)], some s, some (one u), [], []⟩) :: log)) : Run P X ops dr Q (r + 1) i st log := by
  obtain ⟨o, ho, hop, hd, hn, hg, hgp⟩ := hat.out
  refine Run.step next ⟨preR_append.2 ⟨hgp, hx, trivial⟩, ⟨hb, trivial⟩, trivial⟩ (LR.value ho hg rfl hd.symm (hn_of hd hn) ?_)
  intro G st a w hs hpre
  have hx := (preR_append.1 hpre.r).2.1
  have hb := hpre.b.1
  obtain ⟨β, hβ, hv⟩ : RdC P w G (a.eval x) (.eptr b e ix k) := hs.opd hx
  rcases hs.blk b _ hb with ⟨_, _, h0, _⟩ | ⟨β', cap, arr, el, h0, h1, h2, h3, h4, h5, h6⟩
  · subst h0; simp at hrow
  rw [hβ] at h0; cases h0
  have hre := h5 ix row hrow
  have hix := lt_of_get hrow
  have hk := lt_of_get hc
  have hbnd : ix * e + e ≤ arr.size := by
    rw [h4, ← Nat.succ_mul]; exact Nat.mul_le_mul_right e (by omega)
  refine ⟨cellAt arr (ix * e + k), w, G, ?_, hs, ?_⟩
  · simp only [execOp, hop, hv]
    exact run_then (run_loadAt1 ht h2 (by omega)) rfl
  · rintro d ⟨⟩
    exact ⟨h6 ix row k u hrow hc, fun b hb => by cases hb⟩

theorem r_loadeN {x : Operand} {b e ix s : Nat} {rows : List (List T)} {row : List T} {t : TypeId} (hat : At st.env ops i X.n (.load t x) s gs)
    (hx : opd st.env x = some (.e (.one (.eptr b e ix 0)))) (ht : aggB P t true = true) (hz : szB P t e = true) (hb : st.bx b = some (.vec e rows)) (hrow : rows[ix]? = some row)
    (next : Run P X ops dr Q r (i + 1) (Loc.upd ⟨gs ++ [(x, .e (.one (.eptr b e ix 0)))], [(b, .vec e rows)], some s, some (.e (.agg (row.map C.pure))), [], []⟩ st) ((i, ⟨gs ++ [(x, .e (.one (.eptr b e ix 0)))], [(b, .vec e rows)], some s, some (.e (.agg (row.map C.pure))), [], []⟩) :: log)) : Run P X ops dr Q (r + 1) i st log := by
  obtain ⟨o, ho, hop, hd, hn, hg, hgp⟩ := hat.out
  refine Run.step next ⟨preR_append.2 ⟨hgp, hx, trivial⟩, ⟨hb, trivial⟩, trivial⟩ (LR.value ho hg rfl hd.symm (hn_of hd hn) ?_)
  intro G st a w hs hpre
  have hx := (preR_append.1 hpre.r).2.1
  have hb := hpre.b.1
  obtain ⟨β, hβ, hv⟩ : RdC P w G (a.eval x) (.eptr b e ix 0) := hs.opd hx
  rcases hs.blk b _ hb with ⟨_, _, h0, _⟩ | ⟨β', cap, arr, el, h0, h1, h2, h3, h4, h5, h6⟩
  · subst h0; simp at hrow
  rw [hβ] at h0; cases h0
  have hre := h5 ix row hrow
  have hix := lt_of_get hrow
  have hbnd : ix * e + e ≤ arr.size := by
    rw [h4, ← Nat.succ_mul]; exact Nat.mul_le_mul_right e (by omega)
  refine ⟨.agg ((List.range e).map fun j => cellAt arr (ix * e + 0 + j)).toArray, w, G, ?_, hs, ?_⟩
  · simp only [execOp, hop, hv]
    exact run_then (run_loadAtN ht hz h2 (by omega)) rfl
  · rintro d ⟨⟩
    refine ⟨pures_read hre fun j u hj => h6 ix row j u hrow hj, fun b hb => ?_⟩
    have hb' : b ∈ cnames (row.map C.pure) := hb
    rw [pures_names] at hb'; cases hb'

theorem run_fieldAt {s f off : Nat} {w : World} {β k : Nat} (h : fieldB P s f off = true) : (Instr.fieldAt s (.pointer (some ⟨β, k, none⟩)) f).run P w = .ok (.pointer (some ⟨β, k + off, none⟩)) w := by
  unfold fieldB at h
  split at h
  · rename_i fs hu
    split at h
    · rename_i fl hf
      simp only [Bool.and_eq_true, beq_iff_eq] at h
      obtain ⟨h1, h2⟩ := h
      split at h2
      · rename_i inf hi
        have hne : inf.size ≠ 0 := by simpa using h2
        unfold Instr.fieldAt
        refine run_then (run_underlying' hu w) ?_
        simp only [hf]
        refine run_then (a := (⟨β, k, none⟩ : Addr)) (w1 := w) rfl ?_
        refine run_then (a := (⟨β, k + off, none⟩ : Addr)) (w1 := w) ?_ rfl
        unfold fieldPlace
        refine run_then (a := inf.size) (w1 := w) (by simp [sizeOf, typeInfo, program, Sem.run, hi]) ?_
        rw [if_neg hne, Addr.add_mk, h1]; rfl
      · cases h2
    · cases h
  · cases h

theorem r_fieldAddr {x : Operand} {b k f off s : Nat} {t : TypeId} (hat : At st.env ops i X.n (.fieldAddr t x f) s gs)
    (hx : opd st.env x = some (.e (.one (.ptr b k)))) (hf : fieldB P t f off = true)
    (next : Run P X ops dr Q r (i + 1) (Loc.upd ⟨gs ++ [(x, .e (.one (.ptr b k)))], [], some s, some (.e (.one (.ptr b (k + off)))), [], []⟩ st) ((i, ⟨gs ++ [(x, .e (.one (.ptr b k)))], [], some s, some (.e (.one (.ptr b (k + off)))), [], []⟩) :: log)) : Run P X ops dr Q (r + 1) i st log := by
  obtain ⟨o, ho, hop, hd, hn, hg, hgp⟩ := hat.out
  refine Run.step next ⟨preR_append.2 ⟨hgp, hx, trivial⟩, trivial, trivial⟩ (LR.value ho hg rfl hd.symm (hn_of hd hn) ?_)
  intro G st a w hs hpre
  have hx := (preR_append.1 hpre.r).2.1
  obtain ⟨β, hβ, hv⟩ : RdC P w G (a.eval x) (.ptr b k) := hs.opd hx
  refine ⟨_, w, G, by simp only [execOp, hop, hv]; exact run_then (run_fieldAt hf) rfl, hs, ?_⟩
  rintro d ⟨⟩
  exact ⟨⟨β, hβ, rfl⟩, fun b' hb' => hs.opd_live hx b' (by simpa [D.names, E.names, C.names] using hb')⟩

theorem r_fieldAddre {x : Operand} {b e ix k f off s : Nat} {t : TypeId} (hat : At st.env ops i X.n (.fieldAddr t x f) s gs)
    (hx : opd st.env x = some (.e (.one (.eptr b e ix k)))) (hf : fieldB P t f off = true)
    (next : Run P X ops dr Q r (i + 1) (Loc.upd ⟨gs ++ [(x, .e (.one (.eptr b e ix k)))], [], some s, some (.e (.one (.eptr b e ix (k + off)))), [], []⟩ st) ((i, ⟨gs ++ [(x, .e (.one (.eptr b e ix k)))], [], some s, some (.e (.one (.eptr b e ix (k + off)))), [], []⟩) :: log)) : Run P X ops dr Q (r + 1) i st log := by
  obtain ⟨o, ho, hop, hd, hn, hg, hgp⟩ := hat.out
  refine Run.step next ⟨preR_append.2 ⟨hgp, hx, trivial⟩, trivial, trivial⟩ (LR.value ho hg rfl hd.symm (hn_of hd hn) ?_)
  intro G st a w hs hpre
  have hx := (preR_append.1 hpre.r).2.1
  obtain ⟨β, hβ, hv⟩ : RdC P w G (a.eval x) (.eptr b e ix k) := hs.opd hx
  refine ⟨_, w, G, by simp only [execOp, hop, hv]; exact run_then (run_fieldAt hf) rfl, hs, ?_⟩
  rintro d ⟨⟩
  exact ⟨⟨β, hβ, by rw [Nat.add_assoc]⟩, fun b' hb' => hs.opd_live hx b' (by simpa [D.names, E.names, C.names] using hb')⟩

theorem r_fieldAddrr {x : Operand} {ts us : List T} {f off s : Nat} {t : TypeId} (hat : At st.env ops i X.n (.fieldAddr t x f) s gs)
    (hx : opd st.env x = some (.e (.one (.rop ts)))) (hf : fieldB P t f off = true) (hl : off ≤ ts.length) (hu : ts.drop off = us)
    (next : Run P X ops dr Q r (i + 1) (Loc.upd ⟨gs ++ [(x, .e (.one (.rop ts)))], [], some s, some (.e (.one (.rop us))), [], []⟩ st) ((i, ⟨gs ++ [(x, .e (.one (.rop ts)))], [], some s, some (.e (.one (.rop us))), [], []⟩) :: log)) : Run P X ops dr Q (r + 1) i st log := by
  obtain ⟨o, ho, hop, hd, hn, hg, hgp⟩ := hat.out
  refine Run.step next ⟨preR_append.2 ⟨hgp, hx, trivial⟩, trivial, trivial⟩ (LR.value ho hg rfl hd.symm (hn_of hd hn) ?_)
  intro G st a w hs hpre
  have hx := (preR_append.1 hpre.r).2.1
  obtain ⟨β, k, arr, el, fz, hv, h1, h2, h3, h4⟩ : RdC P w G (a.eval x) (.rop ts) := hs.opd hx
  refine ⟨_, w, G, by simp only [execOp, hop, hv]; exact run_then (run_fieldAt hf) rfl, hs, ?_⟩
  rintro d ⟨⟩
  subst hu
  refine ⟨⟨β, k + off, arr, el, fz, rfl, h1, h2, by simp; omega, fun j u hj => ?_⟩, fun b hb => by cases hb⟩
  rw [List.getElem?_drop] at hj
  rw [Nat.add_assoc]
  exact h4 _ u hj

theorem run_indexAt {t el e : Nat} {w : World} {β off len cap : Nat} {k : IntKind} {n : Int} (ht : sliceB P t el = true) (hz : szB P el e = true) (h0 : 0 ≤ n) (h1 : n.toNat < len) :
    (Instr.indexAt t (.slice (some ⟨β, off, none⟩) len cap) (.int k n)).run P w = .ok (.pointer (some ⟨β, off + n.toNat * e, none⟩)) w := by
  unfold sliceB at ht
  split at ht
  · rename_i e' hu
    have : e' = el := by simpa using ht
    subst this
    unfold Instr.indexAt
    refine run_then (a := (k, n)) (w1 := w) rfl ?_
    refine run_then (run_underlying' hu w) ?_
    refine run_then (a := (some (⟨β, off, none⟩ : Addr), len, e')) (w1 := w) rfl ?_
    refine run_then (run_underlying' hu w) ?_
    have hc : 0 ≤ n ∧ n < (len : Int) := ⟨h0, by omega⟩
    simp only [hc, and_self, if_true]
    refine run_then (run_sizeOf hz w) ?_
    rw [Addr.add_mk]; rfl
  · cases ht

end run
end Go.Lift
