/- Lemmas for MixValidSaid, which YtmmkocokfdheiaaFin7 proves. -/
/- A call that is lent the caller's own slices: what it gives back holds none of them. No condition. -/
import Derived.Test.YtmmkocokfdheiaaLift14
namespace Go.Lift
open Go.RowKit

variable {P : Program} {X : Ctx} {ops : Array Oper}

def T.flat : T → Bool
  | .sl _ => false
  | _ => true
def C.flat : C → Bool
  | .pure t => t.flat
  | .own _ => true
  | .any => true
  | _ => false
def E.flat : E → Bool
  | .one c => c.flat
  | .agg cs => cs.all C.flat
def D.flat : D → Bool
  | .e x => x.flat
  | .tup xs => xs.all E.flat
def FlatV (rv : List (Nat × List (List T))) : Prop := ∀ x, x ∈ rv → ∀ row, row ∈ x.2 → row.all T.flat = true

theorem flatV_nil : FlatV [] := fun x h => by cases h
theorem flatV_cons {α : Type} {e : Nat} {enc : α → List T} {xs : List α} {rv : List (Nat × List (List T))} (h : ∀ x, (enc x).all T.flat = true) (hr : FlatV rv) : FlatV ((e, xs.map enc) :: rv) := by
  intro x hx row hrow
  rcases List.mem_cons.1 hx with e | e
  · subst e
    obtain ⟨y, _, rfl⟩ := List.mem_map.1 hrow
    exact h y
  · exact hr x e row hrow

theorem RdT.flat {w w' : World} {S S' : Nat → Prop} {v : Value} {t : T} (h : RdT w S v t) (hf : t.flat = true) : RdT w' S' v t := by
  cases h with
  | val v h => exact .val v h
  | nil0 a => exact .nil0 a
  | nil a c => cases hf
  | sl => cases hf

theorem RdC.flat {w w' : World} {G G' : Gh} {v : Value} {c : C} (h : RdC P w G v c) (hf : c.flat = true) (hh : ∀ b, G'.hd b = G.hd b) : RdC P w' G' v c := by
  cases c with
  | pure t => exact RdT.flat h hf
  | own b => exact ⟨by rw [hh]; exact h.1, h.2⟩
  | any => exact h
  | _ => cases hf
theorem RdE.flat {w w' : World} {G G' : Gh} {v : Value} {x : E} (h : RdE P w G v x) (hf : x.flat = true) (hh : ∀ b, G'.hd b = G.hd b) : RdE P w' G' v x := by
  cases x with
  | one c => exact RdC.flat h hf hh
  | agg cs =>
    obtain ⟨vs, e, hs, h⟩ := h
    exact ⟨vs, e, hs, fun j c hj => RdC.flat (h j c hj) (List.all_eq_true.1 hf c (List.mem_of_getElem? hj)) hh⟩
theorem RdD.flat {w w' : World} {G G' : Gh} {v : Value} {d : D} (h : RdD P w G v d) (hf : d.flat = true) (hh : ∀ b, G'.hd b = G.hd b) : RdD P w' G' v d := by
  cases d with
  | e x => exact RdE.flat h hf hh
  | tup xs =>
    obtain ⟨vs, e, hs, h⟩ := h
    exact ⟨vs, e, hs, fun j c hj => RdE.flat (h j c hj) (List.all_eq_true.1 hf c (List.mem_of_getElem? hj)) hh⟩

/-- The rows of a lent slice. -/
def lent : List (Nat × Blk) → Nat → Option (List (List T))
  | [], _ => none
  | (k, .vec _ rows) :: bs, b => if k = b then some rows else lent bs b
  | _ :: bs, b => lent bs b
def C.lend (bs : List (Nat × Blk)) : C → C
  | .own b => match lent bs b with
    | some rows => .pure (.sl rows)
    | none => .own b
  | c => c
def E.lend (bs : List (Nat × Blk)) : E → E
  | .one c => .one (c.lend bs)
  | .agg cs => .agg (cs.map (C.lend bs))
def D.lend (bs : List (Nat × Blk)) : D → D
  | .e x => .e (x.lend bs)
  | .tup xs => .tup (xs.map (E.lend bs))

theorem lent_some {bx : Nat → Option Blk} : ∀ {bs : List (Nat × Blk)} {b : Nat} {rows : List (List T)}, preB bx bs → lent bs b = some rows → ∃ e, bx b = some (.vec e rows)
  | (k, .vec e rows0) :: bs, b, rows, h, hl => by
    simp only [lent] at hl
    split at hl
    · rename_i hk; cases hl; subst hk; exact ⟨e, h.1⟩
    · exact lent_some h.2 hl
  | (k, .box cs) :: bs, b, rows, h, hl => lent_some (bs := bs) h.2 hl
  | (k, .gone) :: bs, b, rows, h, hl => lent_some (bs := bs) h.2 hl

theorem lend_C {w : World} {G G' : Gh} {bs : List (Nat × Blk)} {v : Value} {c : C} (h : RdC P w G v c) (hG : G.ext G' (fun _ => True)) (hrow : ∀ b rows, lent bs b = some rows → RdT w G'.S (G.hd b) (.sl rows)) : RdC P w G' v (c.lend bs) := by
  cases c with
  | own b =>
    simp only [C.lend]
    split
    · rename_i rows hx
      have : v = G.hd b := h.1
      subst this
      exact hrow b rows hx
    · exact ⟨by rw [hG.hd b trivial]; exact h.1, h.2⟩
  | _ => exact RdC.mono h hG (fun _ _ => rfl) (fun _ _ => trivial)
theorem lend_E {w : World} {G G' : Gh} {bs : List (Nat × Blk)} {v : Value} {x : E} (h : RdE P w G v x) (hG : G.ext G' (fun _ => True)) (hrow : ∀ b rows, lent bs b = some rows → RdT w G'.S (G.hd b) (.sl rows)) : RdE P w G' v (x.lend bs) := by
  cases x with
  | one c => exact lend_C h hG hrow
  | agg cs =>
    obtain ⟨vs, e, hs, h⟩ := h
    refine ⟨vs, e, by simp [hs], fun j c hj => ?_⟩
    rw [List.getElem?_map] at hj
    cases hx : cs[j]? with
    | none => rw [hx] at hj; cases hj
    | some c0 => rw [hx] at hj; cases hj; exact lend_C (h j c0 hx) hG hrow
theorem lend_D {w : World} {G G' : Gh} {bs : List (Nat × Blk)} {v : Value} {d : D} (h : RdD P w G v d) (hG : G.ext G' (fun _ => True)) (hrow : ∀ b rows, lent bs b = some rows → RdT w G'.S (G.hd b) (.sl rows)) : RdD P w G' v (d.lend bs) := by
  cases d with
  | e x => exact lend_E h hG hrow
  | tup xs =>
    obtain ⟨vs, e, hs, h⟩ := h
    refine ⟨vs, e, by simp [hs], fun j c hj => ?_⟩
    rw [List.getElem?_map] at hj
    cases hx : xs[j]? with
    | none => rw [hx] at hj; cases hj
    | some c0 => rw [hx] at hj; cases hj; exact lend_E (h j c0 hx) hG hrow

section run
variable {dr : Bool} {Q : St → Prop} {r i : Nat} {st : St} {log : List (Nat × Loc)} {o : Oper} {gs : List (Operand × D)}

theorem r_callL {f s : Nat} {xs : List Operand} {ds0 ds : List D} {rv : List (Nat × List (List T))} {res : D} {ts : Array TypeId} (ns : List Nat) (bs : List (Nat × Blk)) (hc : Contract P f ds rv res) (hat : At st.env ops i X.n (.call ⟨.value (.func f), xs.toArray, ts⟩) s gs)
    (hf : goodFn P f = true) (hl : xs.length = ds0.length) (hx : preR st.env (zipR xs ds0)) (hbs : preB st.bx bs) (hds : ds0.map (fun d => (d.lend bs).nrm) = ds) (hpub : ds.all pub = true) (hns : ns.length = rv.length) (hnd : ns.Nodup) (hnew : preN st.bx ns) (hfl : res.flat = true) (hfv : FlatV rv) (hres : res.names.all (fun b => decide (b < rv.length)) = true)
    (next : Run P X ops dr Q r (i + 1) (Loc.upd ⟨gs ++ zipR xs ds0, bs, some s, some (res.ren (nm ns)), vecs ns rv, ns⟩ st) ((i, ⟨gs ++ zipR xs ds0, bs, some s, some (res.ren (nm ns)), vecs ns rv, ns⟩) :: log)) : Run P X ops dr Q (r + 1) i st log := by
  obtain ⟨o, ho, hop, hd, hn, hg, hgp⟩ := hat.out
  subst hds
  refine Run.step next ⟨preR_append.2 ⟨hgp, hx⟩, hbs, hnew⟩ ?_
  intro st a w K Q' hs hpre hK
  obtain ⟨G, hs⟩ := hs
  have hx := (preR_append.1 hpre.r).2
  have hw := hs.wanted hg (preR_append.1 hpre.r).1
  have hnew := hpre.n
  have hbs := hpre.b
  have hnew' : ∀ c, c ∈ ns → st.bx c = none := by
    have : ∀ {l : List Nat}, preN st.bx l → ∀ c, c ∈ l → st.bx c = none := by
      intro l
      induction l with
      | nil => intro _ c hc; cases hc
      | cons b l ih =>
        intro h c hc
        rcases List.mem_cons.1 hc with e | e
        · subst e; exact h.1
        · exact ih h.2 c e
    exact this hnew
  unfold wpOp
  rw [ho]
  simp only [hw, if_true]
  refine .inl ?_
  unfold Oper.wp
  have hrun : (execOp a.eval o).run P w = .ok (.enter f (xs.toArray.map a.eval)) w := by
    simp only [execOp, hop]
    exact run_callStatic hf rfl
  rw [hrun]
  show Calls P f (xs.toArray.map a.eval) w _
  let SL : Nat → Prop := fun β => G.S β ∨ ∃ c e rows, st.bx c = some (.vec e rows) ∧ G.loc c = some β
  have hSL : ∀ β, SL β → β < w.heap.size := by
    rintro β (h | ⟨c, e, rows, h1, h2⟩)
    · exact hs.S_lt β h
    · exact (hs.at_ok c _ β h1 rfl h2).2.1
  have hlrow : ∀ b rows, lent bs b = some rows → RdT w SL (G.hd b) (.sl rows) := by
    intro b rows hb
    obtain ⟨e, hb⟩ := lent_some hbs hb
    rcases hs.blk b _ hb with ⟨a0, h1, h2, _⟩ | ⟨β, cap, arr, el, h0, h1, h2, h3, h4, h5, h6⟩
    · rw [h1, h2]; exact .nil _ _
    · rw [h1]
      exact .sl β 0 cap e arr el (0, 0) rows (.inr ⟨b, e, rows, hb, h0⟩) h2 h3 (by rw [h4, Nat.zero_add]; exact Nat.mul_le_mul_right e h3) h5 (fun i row j t hi hj => by rw [Nat.zero_add]; exact (h6 i row j t hi hj).mono (fun _ _ => rfl) (fun β h => .inl h))
  refine (hc w SL (xs.toArray.map a.eval) hSL (by simpa using hl) ?_).mono ?_
  · intro j d hj
    obtain ⟨d0, hj0, rfl⟩ : ∃ d0, ds0[j]? = some d0 ∧ (d0.lend bs).nrm = d := by
      rw [List.getElem?_map] at hj
      cases hx0 : ds0[j]? with
      | none => rw [hx0] at hj; cases hj
      | some d0 => rw [hx0] at hj; cases hj; exact ⟨d0, rfl, rfl⟩
    have hlt := lt_of_get hj0
    have hxj : xs[j]? = some (xs[j]'(by omega)) := by simp [show j < xs.length from by omega]
    have hop' := zipR_get hl hx j _ d0 hxj hj0
    have hcell : cellAt (xs.toArray.map a.eval) j = a.eval (xs[j]'(by omega)) := by simp [cellAt, show j < xs.length from by omega]
    rw [hcell]
    refine (RdD.nrm (lend_D (G' := { G with S := SL }) (hs.opd hop') ⟨fun β h => .inl h, fun _ _ => rfl, fun _ _ => rfl⟩ hlrow)).closed ?_ (fun _ h => h)
    have := List.all_eq_true.1 hpub _ (List.mem_of_getElem? hj)
    simpa [pub] using this
  · rintro e w' ⟨v, G', rfl, hbel, hS1, hS2, hres', hvec, hvat, hvinj⟩
    show K (a.put o.dst v) w'
    rw [hd]
    -- the ghost of the caller
    let G2 : Gh := { S := fun β => G.S β ∨ (w.heap.size ≤ β ∧ G'.S β), loc := fun c => if c ∈ ns then G'.loc (ns.idxOf c) else G.loc c, hd := fun c => if c ∈ ns then G'.hd (ns.idxOf c) else G.hd c }
    have hidx : ∀ k, k < ns.length → ns.idxOf (nm ns k) = k := by
      intro k hk
      have hm := nm_mem hk
      have h1 : ns.idxOf (nm ns k) < ns.length := List.idxOf_lt_length_of_mem hm
      refine nm_inj hnd h1 hk ?_
      have h2 := List.getElem_idxOf h1
      show ns.getD (ns.idxOf (nm ns k)) 0 = nm ns k
      rw [List.getD_eq_getElem?_getD, List.getElem?_eq_getElem h1, Option.getD_some, h2]
    have hloc : ∀ b, b < ns.length → G2.loc (nm ns b) = G'.loc b := fun b hb => by simp only [G2]; rw [if_pos (nm_mem hb), hidx b hb]
    have hhd : ∀ b, b < ns.length → G2.hd (nm ns b) = G'.hd b := fun b hb => by simp only [G2]; rw [if_pos (nm_mem hb), hidx b hb]
    let G3 : Gh := { S := G2.S, loc := G'.loc, hd := G'.hd }
    have hvia3 : G3.via G2 (nm ns) (fun b => b < ns.length) := ⟨fun β h => h, hloc, hhd⟩
    have hext : G.ext G2 (fun b => (st.bx b).isSome = true) := by
      have : ∀ b, (st.bx b).isSome = true → b ∉ ns := fun b hb hm => by rw [hnew' b hm] at hb; cases hb
      exact ⟨fun β h => .inl h, fun b hb => by simp only [G2]; rw [if_neg (this b hb)], fun b hb => by simp only [G2]; rw [if_neg (this b hb)]⟩
    have hwS : ∀ β, G.S β → w'.heap[β]? = w.heap[β]? := fun β hβ => hbel.block β (hs.S_lt β hβ)
    have hsz := hbel.size
    have hle := hs.below.size
    have hS3 : ∀ β, G2.S β → G.S β ∨ (w.heap.size ≤ β ∧ β < w'.heap.size) := fun β h => by
      rcases h with h | ⟨h0, h⟩
      · exact .inl h
      · rcases hS2 β h with h1 | h1
        · have := hSL β h1; omega
        · exact .inr h1
    have hvg := fun c => vecs_get (bx := st.bx) (ns := ns) (rv := rv) (c := c) hns hnd
    have hblk : ∀ c k, setBs st.bx (vecs ns rv) c = some k → (c ∉ ns ∧ st.bx c = some k) ∨ (∃ m x, m < ns.length ∧ nm ns m = c ∧ rv[m]? = some x ∧ k = .vec x.1 x.2) := by
      intro c k hc
      by_cases hm : c ∈ ns
      · obtain ⟨m, hm1, hm2⟩ := mem_nm hm
        have hrx : rv[m]? = some (rv[m]'(by omega)) := by simp [show m < rv.length from by omega]
        have := (hvg c).2 m _ hrx
        rw [hm2, hc] at this
        exact .inr ⟨m, _, hm1, hm2, hrx, by simpa using this⟩
      · rw [(hvg c).1 hm] at hc; exact .inl ⟨hm, hc⟩
    have key : SimG P X G2 ⟨st.env, setBs st.bx (vecs ns rv)⟩ a w' := by
      refine hs.frame ?_ hext hwS ?_ ?_ ?_ ?_ ?_ (hs.below.trans (hbel.mono hle))
      · intro c hc
        have hm : c ∉ ns := fun hm => by rw [hnew' c hm] at hc; cases hc
        rw [(hvg c).1 hm]; exact hc
      · intro c k hc
        rcases hblk c k hc with ⟨_, h1⟩ | ⟨m, x, h1, h2, h3, h4⟩
        · exact .inl ⟨h1, fun β hr hβ => hbel.block β (hs.at_ok c k β h1 hr hβ).2.1⟩
        · subst h4
          refine .inr ⟨?_, fun c hc => by cases hc⟩
          rw [← h2]
          have hv3 : BlkOk P w' G3 m (.vec x.1 x.2) := by
            rcases hvec m x h3 with ⟨a0, g1, g2, g3⟩ | ⟨β, cap, arr, el, g0, g1, g2, g3, g4, g5, g6⟩
            · exact .inl ⟨a0, g1, g2, g3⟩
            · exact .inr ⟨β, cap, arr, el, g0, g1, g2, g3, g4, g5, fun i row j t hi hj => (g6 i row j t hi hj).flat (List.all_eq_true.1 (hfv x (List.mem_of_getElem? h3) row (List.mem_of_getElem? hi)) t (List.mem_of_getElem? hj))⟩
          exact hv3.ren hvia3 h1 (fun c hc => by cases hc)
      · intro c k β hc hr hβ
        rcases hblk c k hc with ⟨h0, h1⟩ | ⟨m, x, h1, h2, h3, h4⟩
        · simp only [G2] at hβ; rw [if_neg h0] at hβ
          have := hs.at_ok c k β h1 hr hβ
          refine ⟨this.1, by omega, fun h => ?_⟩
          rcases hS3 β h with h | h
          · exact this.2.2 h
          · omega
        · rw [← h2, hloc m h1] at hβ
          have := hvat m β (by omega) hβ
          exact ⟨by omega, this.2.1, fun h => this.2.2 (by
            rcases h with h | h
            · exact hS1 β (.inl h)
            · exact h.2)⟩
      · intro c c' k k' β hc hc' hr hr' hβ hβ'
        rcases hblk c k hc with ⟨h0, h1⟩ | ⟨m, x, h1, h2, h3, h4⟩ <;> rcases hblk c' k' hc' with ⟨h0', h1'⟩ | ⟨m', x', h1', h2', h3', h4'⟩
        · simp only [G2] at hβ hβ'; rw [if_neg h0] at hβ; rw [if_neg h0'] at hβ'
          exact hs.at_inj c c' k k' β h1 h1' hr hr' hβ hβ'
        · simp only [G2] at hβ; rw [if_neg h0] at hβ
          rw [← h2', hloc m' h1'] at hβ'
          have h5 := hvat m' β (by omega) hβ'
          have h6 := (hs.at_ok c k β h1 hr hβ).2.1
          omega
        · simp only [G2] at hβ'; rw [if_neg h0'] at hβ'
          rw [← h2, hloc m h1] at hβ
          have h5 := hvat m β (by omega) hβ
          have h6 := (hs.at_ok c' k' β h1' hr' hβ').2.1
          omega
        · rw [← h2, hloc m h1] at hβ
          rw [← h2', hloc m' h1'] at hβ'
          have := hvinj m m' β (by omega) (by omega) hβ hβ'
          rw [← h2, ← h2', this]
      · intro β h
        rcases hS3 β h with h | h
        · have := hs.S_lt β h; omega
        · exact h.2
      · intro β h
        rcases hS3 β h with h | h
        · exact hs.S_src β h
        · exact .inr (by omega)
    have hrn : ∀ b, b ∈ res.names → b < ns.length := fun b hb => by
      have := List.all_eq_true.1 hres b hb
      rw [hns]; simpa using this
    refine hK _ _ ⟨G2, key.put (some s) (some (res.ren (nm ns))) v (by intro t e; cases e; exact hn) ?_⟩
    rintro d ⟨⟩
    refine ⟨((hres'.flat (G' := G3) hfl fun _ => rfl)).ren hvia3 hrn, fun b hb => ?_⟩
    obtain ⟨b0, h1, h2⟩ := ren_names_D hb
    have hrx : rv[b0]? = some (rv[b0]'(by have := hrn b0 h1; omega)) := by simp [show b0 < rv.length from by have := hrn b0 h1; omega]
    show (setBs st.bx (vecs ns rv) b).isSome = true
    rw [h2, (hvg b).2 b0 _ hrx]; rfl


abbrev uD : D := .tup []
theorem rd_uD {w : World} {G : Gh} : RdD P w G undef uD := ⟨#[], rfl, rfl, fun j x h => by simp at h⟩

/-- An operation that is not wanted leaves the undefined value. -/
theorem r_notV {j t s : Nat} {want : Bool} {d0 : D} (h : atU ops i X.n = some (j, s, t, want)) (hx : st.env t = some d0) (hv : ∀ w G v, RdD P w G v d0 → v ≠ .bool want)
    (next : Run P X ops dr Q r (i + 1) (Loc.upd ⟨[(.tmp t, d0)], [], some s, some uD, [], []⟩ st) ((i, ⟨[(.tmp t, d0)], [], some s, some uD, [], []⟩) :: log)) : Run P X ops dr Q (r + 1) i st log := by
  unfold atU at h
  split at h
  · rename_i o ho
    split at h
    · rename_i j' want' s' hg hd
      split at h
      · rename_i t' ht
        split at h
        · rename_i hb
          cases h
          refine Run.step next ⟨⟨hx, trivial⟩, trivial, trivial⟩ ?_
          intro st a w K Q hs hpre hK
          obtain ⟨G, hs⟩ := hs
          have h2 := hv _ _ _ (hs.env t _ hpre.r.1)
          have hw : Region.wanted o (yielded ops a.tmps) = false := by
            simp only [Region.wanted, hg, yielded, ht]
            simp only [Option.bind_some, beq_eq_false_iff_ne]
            intro e
            cases hy : a.tmps[t]? with
            | none => rw [hy] at e; cases e
            | some v =>
              have h3 : cellAt a.tmps t = v := by simp [cellAt, hy]
              rw [h3] at h2
              rw [hy] at e
              cases v <;> simp at e
              exact h2 (by rw [e])
          unfold wpOp
          rw [ho]
          simp only [hw, Bool.false_eq_true, if_false]
          rw [hd]
          exact hK _ _ ⟨G, hs.put (some s) (some uD) undef (by intro t e; cases e; exact blt_lt hb) (by rintro d ⟨⟩; exact ⟨rd_uD, fun b hb => by cases hb⟩)⟩
        · cases h
      · cases h
    · cases h
  · cases h

theorem r_notB {j t s : Nat} {want : Bool} (h : atU ops i X.n = some (j, s, t, want)) (hx : st.env t = some (bD (!want)))
    (next : Run P X ops dr Q r (i + 1) (Loc.upd ⟨[(.tmp t, bD (!want))], [], some s, some uD, [], []⟩ st) ((i, ⟨[(.tmp t, bD (!want))], [], some s, some uD, [], []⟩) :: log)) : Run P X ops dr Q (r + 1) i st log :=
  r_notV h hx (fun w G v hv => by
    have h1 : RdT w G.S v (.val (.bool (!want))) := hv
    cases h1; cases want <;> simp) next
theorem r_notU {j t s : Nat} {want : Bool} (h : atU ops i X.n = some (j, s, t, want)) (hx : st.env t = some uD)
    (next : Run P X ops dr Q r (i + 1) (Loc.upd ⟨[(.tmp t, uD)], [], some s, some uD, [], []⟩ st) ((i, ⟨[(.tmp t, uD)], [], some s, some uD, [], []⟩) :: log)) : Run P X ops dr Q (r + 1) i st log :=
  r_notV h hx (fun w G v hv => by obtain ⟨vs, e, _⟩ := hv; rw [e]; simp) next
end run
end Go.Lift
