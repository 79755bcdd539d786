/- Lemmas for MixStartSaid, which YtmmkocokfdheiaaFin10 proves. -/
/- Parts of a call's own slices: cut, copied into, appended to in place, cleared. No condition. -/
import Derived.Test.YtmmkocokfdheiaaLift22
namespace Go.Lift
open Go.RowKit
variable {P : Program} {X : Ctx} {ops : Array Oper}
def spl {α : Type} (xs : List α) (q : Nat) (ys : List α) : List α := xs.take q ++ ys ++ xs.drop (q + ys.length)
theorem spl_length {α : Type} {xs ys : List α} {q : Nat} (h : q + ys.length ≤ xs.length) : (spl xs q ys).length = xs.length := by
  unfold spl; simp; omega
theorem spl_get {α : Type} {xs ys : List α} {q : Nat} (h : q + ys.length ≤ xs.length) (i : Nat) : (spl xs q ys)[i]? = if q ≤ i ∧ i < q + ys.length then ys[i - q]? else xs[i]? := by
  unfold spl
  by_cases h1 : i < q
  · rw [if_neg (by omega), List.append_assoc, List.getElem?_append_left (by simp; omega), List.getElem?_take_of_lt h1]
  · by_cases h2 : i < q + ys.length
    · rw [if_pos (by omega), List.getElem?_append_left (by simp; omega), List.getElem?_append_right (by simp; omega)]
      congr 1; simp; omega
    · rw [if_neg (by omega), List.getElem?_append_right (by simp; omega), List.getElem?_drop]
      congr 1; simp; omega
theorem spl_map {α β : Type} (f : α → β) (xs ys : List α) (q : Nat) : spl (xs.map f) q (ys.map f) = (spl xs q ys).map f := by
  unfold spl; simp
inductive DstV : D → Nat → Nat → List (List T) → Nat → Nat → Prop where
  | own (b e : Nat) (rows : List (List T)) : DstV (.e (.one (.own b))) b e rows 0 rows.length
  | view (b e : Nat) (rows : List (List T)) (lo len : Nat) (h : lo + len ≤ rows.length) : DstV (.e (.one (.view b e lo len))) b e rows lo len
inductive SrcW : D → List (Nat × Blk) → Nat → List (List T) → Prop where
  | of {d : D} {rb : List (Nat × Blk)} {e : Nat} {rows : List (List T)} (h : Src d rb e rows) : SrcW d rb e rows
  | view (b e : Nat) (rows : List (List T)) (lo len : Nat) (h : lo + len ≤ rows.length) : SrcW (.e (.one (.view b e lo len))) [(b, .vec e rows)] e ((rows.drop lo).take len)
theorem addr_add0 (q : Addr) : q.add 0 = q := by unfold Addr.add; simp
theorem vec_hd {G : Gh} {w : World} {b e : Nat} {rows : List (List T)} (h : BlkOk P w G b (.vec e rows)) : ∃ a cap, G.hd b = .slice a rows.length cap ∧ rows.length ≤ cap ∧
    (0 < cap → ∃ β arr el, a = some ⟨β, 0, none⟩ ∧ G.loc b = some β ∧ w.heap[β]? = some (.cells arr el (0, 0)) ∧ arr.size = cap * e ∧ RowsAt w G.S arr e 0 rows) := by
  rcases h with ⟨a, h1, h2, _⟩ | ⟨β, cap, arr, el, h0, h1, h2, h3, h4, h5, h6⟩
  · subst h2; exact ⟨a, 0, h1, Nat.le_refl _, fun h => by cases h⟩
  · exact ⟨_, cap, h1, h3, fun _ => ⟨β, arr, el, rfl, h0, h2, h4, by rw [h4, Nat.zero_add]; exact Nat.mul_le_mul_right e h3, h5, fun i row j t hi hj => by rw [Nat.zero_add]; exact h6 i row j t hi hj⟩⟩
section run
variable {dr : Bool} {Q : St → Prop} {r i : Nat} {st : St} {log : List (Nat × Loc)} {o : Oper} {gs : List (Operand × D)}
theorem SimG.dstV {G : Gh} {a : Act} {w : World} (hs : SimG P X G st a w) {x : Operand} {d : D} {b e lo len : Nat} {rows : List (List T)} (hx : Lift.opd st.env x = some d) (h : DstV d b e rows lo len) (hb : st.bx b = some (.vec e rows)) :
    ∃ p cap', a.eval x = .slice p len cap' ∧ rows.length - lo ≤ cap' ∧ lo + len ≤ rows.length ∧
      (lo < rows.length → ∃ β cap arr el, G.loc b = some β ∧ G.hd b = .slice (some ⟨β, 0, none⟩) rows.length cap ∧ rows.length ≤ cap ∧ p = some ⟨β, lo * e, none⟩ ∧ w.heap[β]? = some (.cells arr el (0, 0)) ∧ arr.size = cap * e ∧ RowsAt w G.S arr e 0 rows) := by
  obtain ⟨a0, cap, h1, h2, h3⟩ := vec_hd (hs.blk b _ hb)
  have hR := hs.opd hx
  cases h with
  | own =>
    obtain ⟨hR, _⟩ : RdC P w G (a.eval x) (.own b) := hR
    refine ⟨a0, cap, hR.trans h1, by omega, by omega, fun hlt => ?_⟩
    obtain ⟨β, arr, el, g1, g2, g3, g4, g5⟩ := h3 (by omega)
    subst g1
    exact ⟨β, cap, arr, el, g2, h1, h2, by simp, g3, g4, g5⟩
  | view _ _ _ _ _ h =>
    obtain ⟨a1, n1, cap1, p, k1, k2, k3, k4⟩ : RdC P w G (a.eval x) (.view b e lo len) := hR
    rw [h1] at k1
    cases k1
    refine ⟨p, cap - lo, k3, by omega, h, fun hlt => ?_⟩
    obtain ⟨β, arr, el, g1, g2, g3, g4, g5⟩ := h3 (by omega)
    subst g1
    refine ⟨β, cap, arr, el, g2, h1, h2, ?_, g3, g4, g5⟩
    rw [k4 (by omega)]
    simp [Addr.add_mk]
theorem SimG.srcW {G : Gh} {a : Act} {w : World} (hs : SimG P X G st a w) {x : Operand} {d : D} {rb : List (Nat × Blk)} {e : Nat} {rows : List (List T)} (hx : Lift.opd st.env x = some d) (h : SrcW d rb e rows) (hb : preB st.bx rb) :
    ∃ p cap, a.eval x = .slice p rows.length cap ∧ (rows = [] ∨ ∃ β off arr el fz, p = some ⟨β, off, none⟩ ∧ w.heap[β]? = some (.cells arr el fz) ∧ RowsAt w G.S arr e off rows) := by
  cases h with
  | of h =>
    have hR := hs.opd hx
    cases h with
    | own b e rows =>
      obtain ⟨hR, _⟩ : RdC P w G (a.eval x) (.own b) := hR
      obtain ⟨a0, cap, h1, h2, h3⟩ := vec_hd (hs.blk b _ hb.1)
      refine ⟨a0, cap, hR.trans h1, ?_⟩
      cases rows with
      | nil => exact .inl rfl
      | cons y ys =>
        obtain ⟨β, arr, el, g1, g2, g3, g4, g5⟩ := h3 (by simp at h2; omega)
        exact .inr ⟨β, 0, arr, el, (0, 0), g1, g3, g5⟩
    | sl e rows hrow =>
      have hR : RdT w G.S (a.eval x) (.sl rows) := hR
      generalize a.eval x = v at hR
      cases hR with
      | nil a' cap => exact ⟨_, _, rfl, .inl rfl⟩
      | sl β off cap e' arr el' fz rows h1 h2 h3 h4 h5 h6 =>
        refine ⟨_, _, rfl, ?_⟩
        cases rows with
        | nil => exact .inl rfl
        | cons r0 rs =>
          have he : e' = e := by rw [← hrow 0 r0 rfl]; exact (h5 0 r0 rfl).symm
          subst he
          exact .inr ⟨β, off, arr, el', fz, rfl, h2, h4, h5, h6⟩
    | nil e =>
      have hR : RdT w G.S (a.eval x) .nil0 := hR
      generalize a.eval x = v at hR
      cases hR with
      | nil0 a' => exact ⟨_, _, rfl, .inl rfl⟩
  | view b _ rows lo len h =>
    obtain ⟨p, cap', h1, h2, h3, h4⟩ := hs.dstV hx (.view b e rows lo len h) hb.1
    have hlen : ((rows.drop lo).take len).length = len := by simp; omega
    refine ⟨p, cap', by rw [hlen]; exact h1, ?_⟩
    by_cases hz : len = 0
    · exact .inl (by rw [hz, List.take_zero])
    · obtain ⟨β, cap, arr, el, g1, g2, g3, g4, g5, g6, g7⟩ := h4 (by omega)
      refine .inr ⟨β, lo * e, arr, el, (0, 0), g4, g5, ?_, ?_, ?_⟩
      · rw [hlen, g6, ← Nat.add_mul]; exact Nat.mul_le_mul_right e (by omega)
      · intro i row hi
        have := lt_of_get hi
        rw [hlen] at this
        rw [List.getElem?_take_of_lt this, List.getElem?_drop] at hi
        exact g7.2.1 _ row hi
      · intro i row j t hi hj
        have := lt_of_get hi
        rw [hlen] at this
        rw [List.getElem?_take_of_lt this, List.getElem?_drop] at hi
        have := g7.2.2 _ row j t hi hj
        rwa [Nat.zero_add, Nat.add_mul] at this
theorem RowsAt.take {w : World} {S : Nat → Prop} {arr : Array Value} {e off n : Nat} {rows : List (List T)} (h : RowsAt w S arr e off rows) : RowsAt w S arr e off (rows.take n) := by
  refine ⟨?_, ?_, ?_⟩
  · have := h.1
    have h2 : (rows.take n).length * e ≤ rows.length * e := Nat.mul_le_mul_right e (by simp; omega)
    omega
  · intro i row hi
    have := lt_of_get hi
    simp at this
    rw [List.getElem?_take_of_lt (by omega)] at hi
    exact h.2.1 i row hi
  · intro i row j t hi hj
    have := lt_of_get hi
    simp at this
    rw [List.getElem?_take_of_lt (by omega)] at hi
    exact h.2.2 i row j t hi hj
theorem run_srcCells {w : World} {S : Nat → Prop} {p : Option Addr} {len cap e n : Nat} {rows : List (List T)} (hn : n ≤ rows.length) (h : rows = [] ∨ ∃ β off arr el fz, p = some ⟨β, off, none⟩ ∧ w.heap[β]? = some (.cells arr el fz) ∧ RowsAt w S arr e off rows) :
    ∃ news, (Builtin.firstCells e n (.slice p len cap)).run P w = .ok news w ∧ RowsAt w S news e 0 (rows.take n) ∧ news.size = n * e := by
  rcases h with h | ⟨β, off, arr, el, fz, h1, h2, h3⟩
  · subst h
    have : n = 0 := by simpa using hn
    subst this
    obtain ⟨news, k1, k2, k3⟩ := run_firstCells0 (P := P) (w := w) (a := p) (len := len) (cap := cap) (e := e) (S := S)
    exact ⟨news, k1 w rfl, by simpa using k2, by simpa using k3⟩
  · subst h1
    have hl : (rows.take n).length = n := by simp; omega
    obtain ⟨news, k1, k2, k3⟩ := run_firstCells (P := P) (len := len) (cap := cap) h2 (h3.take (n := n))
    rw [hl] at k1 k3
    exact ⟨news, k1 w rfl, k2, k3⟩
theorem vec_over {G : Gh} {w : World} {b e β cap q : Nat} {rows rows2 : List (List T)} {arr news : Array Value} {el : TypeId} (hlt : β < w.heap.size) (hnS : ¬ G.S β) (h0 : G.loc b = some β) (h1 : G.hd b = .slice (some ⟨β, 0, none⟩) rows.length cap) (h3 : rows.length ≤ cap) (h4 : arr.size = cap * e) (h5 : RowsAt w G.S arr e 0 rows)
    (hn : RowsAt w G.S news e 0 rows2) (hns : news.size = rows2.length * e) (hq : q + rows2.length ≤ rows.length) :
    BlkOk P (wset w β (.cells (over arr (q * e) news.toList) el (0, 0))) G b (.vec e (spl rows q rows2)) := by
  have hle : q * e + rows2.length * e ≤ cap * e := by rw [← Nat.add_mul]; exact Nat.mul_le_mul_right e (by omega)
  have hS : ∀ γ, G.S γ → (wset w β (.cells (over arr (q * e) news.toList) el (0, 0))).heap[γ]? = w.heap[γ]? := fun γ hγ => by
    rw [heap_wset, if_neg (fun (h : γ = β ∧ β < w.heap.size) => hnS (h.1 ▸ hγ))]
  have hrl : ∀ (i : Nat) (row : List T), (spl rows q rows2)[i]? = some row → row.length = e := by
    intro i row hi
    rw [spl_get hq] at hi
    split at hi
    · exact hn.2.1 _ row hi
    · exact h5.2.1 _ row hi
  refine .inr ⟨β, cap, over arr (q * e) news.toList, el, h0, by rw [spl_length hq]; exact h1, by rw [heap_wset, if_pos ⟨rfl, hlt⟩], by rw [spl_length hq]; exact h3, by rw [over_size, h4], hrl, ?_⟩
  intro i row j t hi hj
  have hj' := lt_of_get hj
  have hre := hrl i row hi
  rw [spl_get hq] at hi
  rw [cellAt_over _ _ _ _ (by simp; omega)]
  simp only [Array.length_toList, hns]
  split at hi
  · rename_i hin
    have hle2 : (i - q) * e + e ≤ rows2.length * e := by rw [← Nat.succ_mul]; exact Nat.mul_le_mul_right e (by omega)
    have hsp : i * e = q * e + (i - q) * e := by rw [← Nat.add_mul]; congr 1; omega
    rw [if_pos (by omega)]
    have := hn.2.2 _ row j t hi hj
    rw [Nat.zero_add] at this
    have h6 : (news.toList[i * e + j - q * e]?).getD undef = cellAt news ((i - q) * e + j) := by
      rw [show i * e + j - q * e = (i - q) * e + j from by omega]
      unfold cellAt; simp
    rw [h6]
    exact this.mono hS fun _ h => h
  · rename_i hin
    rw [if_neg]
    · have := h5.2.2 _ row j t hi hj
      rw [Nat.zero_add] at this
      exact this.mono hS fun _ h => h
    · rintro ⟨k1, k2⟩
      by_cases hiq : i < q
      · have : i * e + e ≤ q * e := by rw [← Nat.succ_mul]; exact Nat.mul_le_mul_right e hiq
        omega
      · have : q * e + rows2.length * e ≤ i * e := by rw [← Nat.add_mul]; exact Nat.mul_le_mul_right e (by omega)
        omega
theorem r_sliceV {x : Operand} {t el s e l h b lo0 len : Nat} {lo hi : Option Operand} {rl rh : List (Operand × D)} {rows : List (List T)} {d : D} (hat : At st.env ops i X.n (.slice t x lo hi none) s gs)
    (hx : opd st.env x = some d) (hD : DstV d b e rows lo0 len) (hb : st.bx b = some (.vec e rows)) (ht : sliceB P t el = true) (he : szB P el e = true) (hlo : Bnd lo 0 l rl) (hhi : Bnd hi len h rh) (h1 : preR st.env rl) (h2 : preR st.env rh) (hlh : l ≤ h) (hhl : lo0 + h ≤ rows.length)
    (next : Run P X ops dr Q r (i + 1) (Loc.upd ⟨gs ++ ((x, d) :: (rl ++ rh)), [(b, .vec e rows)], some s, some (.e (.one (.view b e (lo0 + l) (h - l)))), [], []⟩ st) ((i, ⟨gs ++ ((x, d) :: (rl ++ rh)), [(b, .vec e rows)], some s, some (.e (.one (.view b e (lo0 + l) (h - l)))), [], []⟩) :: log)) : Run P X ops dr Q (r + 1) i st log := by
  obtain ⟨o, ho, hop, hd, hn, hg, hgp⟩ := hat.out
  refine Run.step next ⟨preR_append.2 ⟨hgp, hx, preR_append.2 ⟨h1, h2⟩⟩, ⟨hb, trivial⟩, trivial⟩ (LR.value ho hg rfl hd.symm (hn_of hd hn) ?_)
  intro G st a w hs hpre
  obtain ⟨hx, h12⟩ := (preR_append.1 hpre.r).2
  obtain ⟨h1, h2⟩ := preR_append.1 h12
  have hb := hpre.b.1
  -- the header of the whole
  obtain ⟨a0, cap, k1, k2, k3⟩ := vec_hd (hs.blk b _ hb)
  have hv : ∃ p, a.eval x = .slice p len (cap - lo0) ∧ lo0 + len ≤ rows.length ∧ (lo0 < cap → p = a0.map fun q => q.add (lo0 * e)) := by
    have hR := hs.opd hx
    cases hD with
    | own =>
      obtain ⟨hR, _⟩ : RdC P w G (a.eval x) (.own b) := hR
      exact ⟨a0, hR.trans k1, by omega, fun _ => by cases a0 <;> simp [addr_add0]⟩
    | view _ _ _ _ _ h' =>
      obtain ⟨a1, n1, cap1, p, g1, g2, g3, g4⟩ : RdC P w G (a.eval x) (.view b e lo0 len) := hR
      rw [k1] at g1; cases g1
      exact ⟨p, g3, h', g4⟩
  obtain ⟨p, hv1, hv2, hv3⟩ := hv
  refine ⟨.slice (if cap - lo0 = l then p else p.map (·.add (l * e))) (h - l) (cap - lo0 - l), w, G, ?_, hs, ?_⟩
  · simp only [execOp, hop]
    refine run_then (a := .slice (if cap - lo0 = l then p else p.map (·.add (l * e))) (h - l) (cap - lo0 - l)) (w1 := w) ?_ rfl
    rw [hv1]
    exact run_sliceAt (a := a) hs ht he hlo hhi h1 h2 hlh (by omega)
  · rintro d' ⟨⟩
    refine ⟨⟨a0, rows.length, cap, _, k1, by omega, by rw [show cap - lo0 - l = cap - (lo0 + l) from by omega], fun hlt => ?_⟩, fun b' hb' => ?_⟩
    · rw [if_neg (by omega), hv3 (by omega)]
      obtain ⟨β, arr, el', g1, _⟩ := k3 (by omega)
      subst g1
      simp only [Option.map_some, Addr.add_mk, Nat.add_mul, Nat.zero_add]
    · simp [D.names, E.names, C.names] at hb'
      subst hb'
      simp [setBs, hb]
theorem run_copy {t t2 el e : Nat} {w : World} {p p2 : Option Addr} {dl dc n2 c2 : Nat} {news : Array Value} {ty : TypeId} (ht : sliceB P t el = true) (he : szB P el e = true) (hnew : (Builtin.firstCells e (Nat.min n2 dl) (.slice p2 n2 c2)).run P w = .ok news w) {w' : World}
    (hst : ∀ q, p = some q → (storeCells q news.toList).run P w = .ok () w') (hno : p = none → w' = w) : (Builtin.copy_ #[t, t2] ty #[.slice p dl dc, .slice p2 n2 c2]).run P w = .ok (goInt (Nat.min n2 dl)) w' := by
  unfold sliceB at ht
  split at ht
  · rename_i e' hu
    have : e' = el := by simpa using ht
    subst this
    unfold Builtin.copy_
    refine run_then (run_underlying' hu w) ?_
    refine run_then (a := n2) (w1 := w) rfl ?_
    refine run_then (run_sizeOf he w) ?_
    refine run_then hnew ?_
    cases p with
    | none => rw [hno rfl]; rfl
    | some q => exact run_then (hst q rfl) rfl
  · cases ht
theorem r_copy {x y : Operand} {t t2 el s e b lo len : Nat} {d d2 : D} {rb2 : List (Nat × Blk)} {rows rows2 rows' : List (List T)} (hat : At st.env ops i X.n (.call ⟨.builtin .copy, #[x, y], #[t, t2]⟩) s gs)
    (hx : opd st.env x = some d) (hD : DstV d b e rows lo len) (hb : st.bx b = some (.vec e rows)) (hy : opd st.env y = some d2) (hS : SrcW d2 rb2 e rows2) (hb2 : preB st.bx rb2) (ht : sliceB P t el = true) (he : szB P el e = true) (hr : spl rows lo (rows2.take (Nat.min rows2.length len)) = rows')
    (next : Run P X ops dr Q r (i + 1) (Loc.upd ⟨gs ++ [(x, d), (y, d2)], (b, .vec e rows) :: rb2, some s, some (vD (goInt (Nat.min rows2.length len))), [(b, .vec e rows')], []⟩ st) ((i, ⟨gs ++ [(x, d), (y, d2)], (b, .vec e rows) :: rb2, some s, some (vD (goInt (Nat.min rows2.length len))), [(b, .vec e rows')], []⟩) :: log)) : Run P X ops dr Q (r + 1) i st log := by
  obtain ⟨o, ho, hop, hd, hn, hg, hgp⟩ := hat.out
  refine Run.step next ⟨preR_append.2 ⟨hgp, hx, hy, trivial⟩, ⟨hb, hb2⟩, trivial⟩ (LR.value ho hg rfl hd.symm (hn_of hd hn) ?_)
  intro G st a w hs hpre
  obtain ⟨hx, hy, _⟩ := (preR_append.1 hpre.r).2
  obtain ⟨hb, hb2⟩ := hpre.b
  subst hr
  obtain ⟨p, cap', h1, h2, h3, h4⟩ := hs.dstV hx hD hb
  obtain ⟨p2, cap2, k1, k2⟩ := hs.srcW hy hS hb2
  have hmin : Nat.min rows2.length len ≤ rows2.length := Nat.min_le_left _ _
  have hmin2 : Nat.min rows2.length len ≤ len := Nat.min_le_right _ _
  obtain ⟨news, n1, n2, n3⟩ := run_srcCells (P := P) (len := rows2.length) (cap := cap2) hmin k2
  have hl2 : (rows2.take (Nat.min rows2.length len)).length = Nat.min rows2.length len := by rw [List.length_take]; exact Nat.min_eq_left hmin
  have hrun : ∀ w', (∀ q, p = some q → (storeCells q news.toList).run P w = .ok () w') → (p = none → w' = w) → (execOp a.eval o).run P w = .ok (.value (goInt (Nat.min rows2.length len))) w' := fun w' g1 g2 => by
    simp only [execOp, hop]
    refine run_builtin fun cs => ?_
    simp only [List.map_toArray, List.map_cons, List.map_nil, builtin, h1, k1]
    exact run_then (run_copy ht he n1 g1 g2) rfl
  have fin : ∀ d', some (vD (goInt (Nat.min rows2.length len))) = some d' → ∀ w' (G' : Gh), RdD P w' G' (goInt (Nat.min rows2.length len)) d' ∧ ∀ c, c ∈ d'.names → (setBs st.bx [(b, .vec e (spl rows lo (rows2.take (Nat.min rows2.length len))))] c).isSome = true := fun d' hd' w' G' => by
    cases hd'; exact ⟨.val _ rfl, fun c hc => by cases hc⟩
  by_cases hlt : lo < rows.length
  · obtain ⟨β, cap, arr, el', g1, g2, g3, g4, g5, g6, g7⟩ := h4 hlt
    subst g4
    have hat := hs.at_ok b _ β hb rfl (.inl g1)
    have hle : lo * e + Nat.min rows2.length len * e ≤ arr.size := by rw [g6, ← Nat.add_mul]; exact Nat.mul_le_mul_right e (by omega)
    have hst := run_storeCells (P := P) (β := β) (el := el') news.toList w (lo * e) 0 arr g5 (by simp [n3]; omega) (RowsAt.ones n2 (by rw [n3, hl2]))
    rw [Nat.add_zero] at hst
    refine ⟨_, _, G, hrun _ (fun q hq => by cases hq; exact hst) (fun h => by cases h), ?_, fun d' hd' => fin d' hd' _ _⟩
    exact hs.setB (b := b) (k0 := .vec e rows) hb rfl rfl (.inl g1) (vec_over hat.2.1 hat.2.2 g1 g2 g3 g6 g7 n2 (by rw [n3, hl2]) (by rw [hl2]; omega)) (fun c hc => by cases hc)
  · have hz : Nat.min rows2.length len = 0 := by omega
    have hn0 : news.toList = [] := List.eq_nil_of_length_eq_zero (by simp [n3, hz])
    have hsp : spl rows lo (rows2.take (Nat.min rows2.length len)) = rows := by
      have : lo = rows.length := by omega
      rw [hz]; unfold spl; simp [this]
    refine ⟨_, w, G, hrun w (fun q _ => by rw [hn0]; rfl) (fun _ => rfl), ?_, fun d' hd' => fin d' hd' _ _⟩
    have : (⟨st.env, setBs st.bx [(b, .vec e (spl rows lo (rows2.take (Nat.min rows2.length len))))]⟩ : St) = st := by
      refine St.ext (fun _ => rfl) fun c => ?_
      simp only [setBs]
      split
      · rename_i e1; rw [e1, hsp, hb]
      · rfl
    rw [this]; exact hs
end run
end Go.Lift
