/- Lemmas for MixValidSaid, which YtmmkocokfdheiaaFin7 proves. -/
/- The rules of append, make and of a slice cut out of a slice. No condition. -/
import Derived.Test.YtmmkocokfdheiaaLift8
namespace Go.Lift
open Go.RowKit

variable {P : Program} {X : Ctx} {ops : Array Oper}

theorem cellAt_append_left {a b : Array Value} {j : Nat} (h : j < a.size) : cellAt (a ++ b) j = cellAt a j := by
  unfold cellAt; rw [Array.getElem?_append_left h]
theorem cellAt_append_right {a b : Array Value} {j : Nat} (h : a.size ≤ j) : cellAt (a ++ b) j = cellAt b (j - a.size) := by
  unfold cellAt; rw [Array.getElem?_append_right h]

/-- What is appended to. -/
inductive Dst : D → List (Nat × Blk) → List Nat → Nat → List (List T) → Prop where
  | own (b e : Nat) (rows : List (List T)) : Dst (.e (.one (.own b))) [(b, .vec e rows)] [b] e rows
  | nil (e : Nat) : Dst (one .nil0) [] [] e []

theorem preB_append {bx : Nat → Option Blk} : ∀ {a b : List (Nat × Blk)}, preB bx (a ++ b) ↔ preB bx a ∧ preB bx b
  | [], b => by simp [preB]
  | p :: a, b => by simp only [List.cons_append, preB, preB_append (a := a), and_assoc]

theorem rows_at_append {w : World} {S : Nat → Prop} {arr news : Array Value} {e : Nat} {rows rows2 : List (List T)} {off : Nat} {f : Nat → Value}
    (h1 : RowsAt w S arr e 0 rows) (h2 : RowsAt w S news e 0 rows2) (hf1 : ∀ j, j < rows.length * e → f j = cellAt arr j) (hf2 : ∀ j, j < rows2.length * e → f (rows.length * e + j) = cellAt news j) :
    (∀ (i : Nat) (row : List T), (rows ++ rows2)[i]? = some row → row.length = e) ∧ ∀ (i : Nat) (row : List T) (j : Nat) (t : T), (rows ++ rows2)[i]? = some row → row[j]? = some t → RdT w S (f (i * e + j)) t := by
  have hlen : ∀ (i : Nat) (row : List T), (rows ++ rows2)[i]? = some row → row.length = e := fun i row hi => by
    rcases Nat.lt_or_ge i rows.length with h | h
    · rw [List.getElem?_append_left h] at hi; exact h1.2.1 i row hi
    · rw [List.getElem?_append_right h] at hi; exact h2.2.1 _ row hi
  refine ⟨hlen, fun i row j t hi hj => ?_⟩
  have hj' := lt_of_get hj
  have he := hlen i row hi
  rcases Nat.lt_or_ge i rows.length with h | h
  · rw [List.getElem?_append_left h] at hi
    have hle : i * e + e ≤ rows.length * e := by rw [← Nat.succ_mul]; exact Nat.mul_le_mul_right e h
    rw [hf1 _ (by omega)]
    have := h1.2.2 i row j t hi hj
    rwa [Nat.zero_add] at this
  · rw [List.getElem?_append_right h] at hi
    have hi2 := lt_of_get hi
    have hle : (i - rows.length) * e + e ≤ rows2.length * e := by rw [← Nat.succ_mul]; exact Nat.mul_le_mul_right e hi2
    have hsplit : i * e + j = rows.length * e + ((i - rows.length) * e + j) := by
      rw [← Nat.add_assoc, ← Nat.add_mul, show rows.length + (i - rows.length) = i from by omega]
    rw [hsplit, hf2 _ (by omega)]
    have := h2.2.2 _ row j t hi hj
    rwa [Nat.zero_add] at this

theorem drew_heap (w : World) : w.drew.heap = w.heap := rfl

theorem RowsAt.mono {w w' : World} {S : Nat → Prop} {arr : Array Value} {e off : Nat} {rows : List (List T)} (h : RowsAt w S arr e off rows) (hw : ∀ β, S β → w'.heap[β]? = w.heap[β]?) : RowsAt w' S arr e off rows :=
  ⟨h.1, h.2.1, fun i row j t hi hj => (h.2.2 i row j t hi hj).mono hw fun _ h => h⟩

section run
variable {dr : Bool} {Q : St → Prop} {r i : Nat} {st : St} {log : List (Nat × Loc)} {o : Oper} {gs : List (Operand × D)}

theorem SimG.dst {G : Gh} {a : Act} {w : World} (hs : SimG P X G st a w) {x : Operand} {d : D} {rb : List (Nat × Blk)} {gn : List Nat} {e : Nat} {rows : List (List T)} (hx : Lift.opd st.env x = some d) (h : Dst d rb gn e rows) (hb : preB st.bx rb) :
    (∃ a0, a.eval x = .slice a0 0 0 ∧ rows = []) ∨
    (∃ b β cap arr el', gn = [b] ∧ st.bx b = some (.vec e rows) ∧ G.loc b = some β ∧ a.eval x = .slice (some ⟨β, 0, none⟩) rows.length cap ∧ w.heap[β]? = some (.cells arr el' (0, 0)) ∧ rows.length ≤ cap ∧ arr.size = cap * e ∧ RowsAt w G.S arr e 0 rows) := by
  have hR := hs.opd hx
  cases h with
  | own b e rows =>
    obtain ⟨hR, _⟩ : RdC P w G (a.eval x) (.own b) := hR
    rcases hs.blk b _ hb.1 with ⟨a', h1, h0, _⟩ | ⟨β, cap, arr, el', g0, g1, g2, g3, g4, g5, g6⟩
    · exact .inl ⟨a', hR.trans h1, h0⟩
    · exact .inr ⟨b, β, cap, arr, el', rfl, hb.1, g0, hR.trans g1, g2, g3, g4, ⟨by rw [g4, Nat.zero_add]; exact Nat.mul_le_mul_right e g3, g5, fun i row j t hi hj => by rw [Nat.zero_add]; exact g6 i row j t hi hj⟩⟩
  | nil e =>
    have hR : RdT w G.S (a.eval x) .nil0 := hR
    generalize a.eval x = v at hR
    cases hR with
    | nil0 a' => exact .inl ⟨a', rfl, rfl⟩

theorem dst_names {d : D} {rb : List (Nat × Blk)} {gn : List Nat} {e : Nat} {rows : List (List T)} (h : Dst d rb gn e rows) (hb : preB st.bx rb) : ∀ b, b ∈ gn → (st.bx b).isSome = true := by
  cases h with
  | own b e rows => intro c hc; simp at hc; subst hc; simp [hb.1]
  | nil e => intro c hc; cases hc

theorem r_append {x y : Operand} {t t2 el el2 s e bytes : Nat} {d d2 : D} {rb rb2 : List (Nat × Blk)} {gn : List Nat} {rows rows2 rows' : List (List T)} {z : Value} (hat : At st.env ops i X.n (.call ⟨.builtin .append, #[x, y], #[t, t2]⟩) s gs)
    (hx : opd st.env x = some d) (hD : Dst d rb gn e rows) (hb : preB st.bx rb) (hy : opd st.env y = some d2) (hS : Src d2 rb2 e rows2) (hb2 : preB st.bx rb2) (hnew : st.bx s = none)
    (ht : sliceB P t el = true) (ht2 : sliceB P t2 el2 = true) (he : szB P el e = true) (hby : bytesB P el bytes = true) (hbs : bytes ≤ 4096) (hz : zeroB P el = some z) (hzs : z.cells.size = e) (hlim : rows.length + rows2.length ≤ lim) (hr : rows ++ rows2 = rows')
    (next : Run P X ops dr Q r (i + 1) (Loc.upd ⟨gs ++ [(x, d), (y, d2)], rb ++ rb2, some s, some (.e (.one (.own s))), (s, .vec e rows') :: gones gn, [s]⟩ st) ((i, ⟨gs ++ [(x, d), (y, d2)], rb ++ rb2, some s, some (.e (.one (.own s))), (s, .vec e rows') :: gones gn, [s]⟩) :: log)) : Run P X ops dr Q (r + 1) i st log := by
  obtain ⟨o, ho, hop, hd, hn, hg, hgp⟩ := hat.out
  refine Run.step next ⟨preR_append.2 ⟨hgp, hx, hy, trivial⟩, preB_append.2 ⟨hb, hb2⟩, hnew, trivial⟩ (LR.value ho hg rfl hd.symm (hn_of hd hn) ?_)
  intro G st a w hs hpre
  obtain ⟨hx, hy, _⟩ := (preR_append.1 hpre.r).2
  obtain ⟨hb, hb2⟩ := preB_append.1 hpre.b
  have hnew := hpre.n.1
  subst hr
  obtain ⟨b2, cap2, news, hy1, hy2, hy3, hy4, hy5⟩ := hs.src (P := P) hy hS hb2
  have hlen2 : news.toList.length = rows2.length * e := by simp [hy5]
  have hdn := dst_names hD hb
  have hout : ∀ (w' : World) (G' : Gh) (v : Value), G'.hd s = v → (∃ a l c, v = .slice a l c) → RdD P w' G' v (.e (.one (.own s))) ∧ ∀ b, b ∈ (D.e (.one (.own s))).names → ((setBs st.bx ((s, .vec e (rows ++ rows2)) :: gones gn)) b).isSome = true := by
    intro w' G' v h1 h2
    refine ⟨⟨h1.symm, h2⟩, fun b hb => ?_⟩
    simp [D.names, E.names, C.names] at hb
    subst hb; simp [setBs]
  have hrun : ∀ (v : Value) (w' : World), (Builtin.append_ #[t, t2] o.type #[a.eval x, a.eval y]).run P w = .ok v w' → (execOp a.eval o).run P w = .ok (.value v) w' := by
    intro v w' h
    simp only [execOp, hop]
    refine run_builtin fun cs => ?_
    simp only [List.map_toArray, List.map_cons, List.map_nil, builtin]
    exact run_then h rfl
  rcases hs.dst hx hD hb with ⟨a0, hx1, hrows⟩ | ⟨b, β, cap, arr, el', hgn, hbb, hβ, hx1, hx2, hx3, hx4, hx5⟩
  · subst hrows
    obtain ⟨olds, k1, k2, k3⟩ := run_firstCells0 (P := P) (w := w) (a := a0) (len := 0) (cap := 0) (e := e) (S := G.S)
    rcases run_append (ty := o.type) (a := a0) (n := 0) (cap := 0) ht ht2 he hby hbs hz hzs hy1 k1 hy3 (by simpa using hlim) (Nat.le_refl _) with ⟨hfit, hrun1⟩ | ⟨hfit, c, rest, hc1, hrun1, hrest⟩
    · have hr0 : rows2 = [] := List.eq_nil_of_length_eq_zero (by omega)
      subst hr0
      have hn0 : news.toList = [] := List.eq_nil_of_length_eq_zero (by simpa using hlen2)
      have hrun2 := hrun1 w (fun p _ => by rw [hn0]; rfl) (fun _ => rfl)
      rw [← hx1] at hrun2
      refine ⟨_, w, G.set s none (.slice a0 0 0), hrun _ _ hrun2, ?_, ?_⟩
      · exact hs.newVec hnew hdn (fun β h => by cases h) (fun γ _ _ => rfl) (Nat.le_refl _) hs.below (.inl ⟨a0, by simp [Gh.set], rfl, by simp [Gh.set]⟩)
      · rintro d' ⟨⟩
        exact hout _ _ _ (by simp [Gh.set]) ⟨_, _, _, rfl⟩
    · rw [← hx1] at hrun1
      have hsz : (w.drew.alloc (.cells (olds ++ news ++ rest) el)).heap.size = w.heap.size + 1 := by show (w.heap.push _).size = _; simp
      have hheap : ∀ γ, γ < w.heap.size → (w.drew.alloc (.cells (olds ++ news ++ rest) el)).heap[γ]? = w.heap[γ]? := fun γ hγ => by rw [heap_alloc, if_neg (by rw [drew_heap]; omega)]; rfl
      have hat : (w.drew.alloc (.cells (olds ++ news ++ rest) el)).heap[w.heap.size]? = some (.cells (olds ++ news ++ rest) el) := by rw [heap_alloc, drew_heap, if_pos rfl]
      refine ⟨_, _, G.set s (some w.heap.size) (.slice (some ⟨w.heap.size, 0, none⟩) rows2.length c), hrun _ _ (by rw [Nat.zero_add] at hrun1; exact hrun1), ?_, ?_⟩
      · refine hs.newVec hnew hdn ?_ (fun γ h1 _ => hheap γ h1) (by omega) ?_ ?_
        · rintro β ⟨⟩
          exact ⟨hs.below.size, by omega, fun h => Nat.lt_irrefl _ (hs.S_lt _ h), fun b k hk hr hb => absurd (hs.at_ok b k _ hk hr hb).2.1 (Nat.lt_irrefl _)⟩
        · exact (hs.below.drew).alloc (by rw [drew_heap]; exact hs.below.size) _
        · have hap := rows_at_append (off := 0) (f := fun j => cellAt (olds ++ news ++ rest) j) k2 hy4 (fun j hj => by simp at hj) (fun j hj => by
              simp only [List.length_nil, Nat.zero_mul, Nat.zero_add]
              rw [cellAt_append_left (by simp [k3]; omega), cellAt_append_right (by omega), k3, Nat.sub_zero])
          refine .inr ⟨w.heap.size, c, _, el, by simp [Gh.set], by simp [Gh.set], hat, by simpa using hc1, ?_, hap.1, fun i row j t hi hj => (hap.2 i row j t hi hj).mono (fun γ hγ => hheap γ (hs.S_lt γ hγ)) fun _ h => h⟩
          simp only [Array.size_append, k3, hy5, hrest, Nat.zero_add]
          rw [← Nat.add_mul]; congr 1; omega
      · rintro d' ⟨⟩
        exact hout _ _ _ (by simp [Gh.set]) ⟨_, _, _, rfl⟩
  · obtain ⟨olds, k1, k2, k3⟩ := run_firstCells (P := P) (len := rows.length) (cap := cap) hx2 hx5
    have hatb := hs.at_ok b _ β hbb rfl hβ
    rcases run_append (ty := o.type) (a := some ⟨β, 0, none⟩) (n := rows.length) (cap := cap) ht ht2 he hby hbs hz hzs hy1 k1 hy3 hlim hx3 with ⟨hfit, hrun1⟩ | ⟨hfit, c, rest, hc1, hrun1, hrest⟩
    · have hbnd : rows.length * e + rows2.length * e ≤ arr.size := by rw [hx4, ← Nat.add_mul]; exact Nat.mul_le_mul_right e hfit
      have hst := run_storeCells (P := P) (β := β) (el := el') news.toList w (rows.length * e) 0 arr hx2 (by rw [hlen2]; omega) (RowsAt.ones hy4 hy5)
      rw [Nat.add_zero] at hst
      have hrun2 := hrun1 _ (fun p hp => by cases hp; rw [Addr.add_mk, Nat.zero_add]; exact hst) (fun h => by cases h)
      rw [← hx1] at hrun2
      have hheap : ∀ γ, γ ≠ β → (wset w β (.cells (over arr (rows.length * e) news.toList) el' (0, 0))).heap[γ]? = w.heap[γ]? := fun γ hγ => by rw [heap_wset, if_neg (fun h => hγ h.1)]
      have hszw : (wset w β (.cells (over arr (rows.length * e) news.toList) el' (0, 0))).heap.size = w.heap.size := by simp [wset]
      have hov : ∀ j, cellAt (over arr (rows.length * e) news.toList) j = if rows.length * e ≤ j ∧ j < rows.length * e + rows2.length * e then cellAt news (j - rows.length * e) else cellAt arr j := fun j => by
        rw [cellAt_over _ _ _ _ (by rw [hlen2]; exact hbnd), hlen2, cellAt_toList]
      refine ⟨_, _, G.set s (some β) (.slice (some ⟨β, 0, none⟩) (rows.length + rows2.length) cap), hrun _ _ hrun2, ?_, ?_⟩
      · refine hs.newVec hnew hdn ?_ (fun γ _ h2 => hheap γ fun e => h2 (by rw [e])) (by omega) (below_wset hs.below hatb.1 _) ?_
        · rintro β' ⟨⟩
          exact ⟨hatb.1, by omega, hatb.2.2, fun c k hk hr hc => by rw [hs.at_inj c b k _ _ hk hbb hr rfl hc hβ, hgn]; simp⟩
        · have hap := rows_at_append (off := 0) (f := fun j => cellAt (over arr (rows.length * e) news.toList) j) hx5 hy4 (fun j hj => by rw [hov, if_neg (by omega)]) (fun j hj => by rw [hov, if_pos (by omega), Nat.add_sub_cancel_left])
          exact .inr ⟨β, cap, _, el', by simp [Gh.set], by simp [Gh.set], by rw [heap_wset, if_pos ⟨rfl, hatb.2.1⟩], by simpa using hfit, by rw [over_size, hx4], hap.1, fun i row j t hi hj => (hap.2 i row j t hi hj).mono (fun γ hγ => hheap γ fun e => hatb.2.2 (e ▸ hγ)) fun _ h => h⟩
      · rintro d' ⟨⟩
        exact hout _ _ _ (by simp [Gh.set]) ⟨_, _, _, rfl⟩
    · rw [← hx1] at hrun1
      have hsz : (w.drew.alloc (.cells (olds ++ news ++ rest) el)).heap.size = w.heap.size + 1 := by show (w.heap.push _).size = _; simp
      have hheap : ∀ γ, γ < w.heap.size → (w.drew.alloc (.cells (olds ++ news ++ rest) el)).heap[γ]? = w.heap[γ]? := fun γ hγ => by rw [heap_alloc, if_neg (by rw [drew_heap]; omega)]; rfl
      have hat : (w.drew.alloc (.cells (olds ++ news ++ rest) el)).heap[w.heap.size]? = some (.cells (olds ++ news ++ rest) el) := by rw [heap_alloc, drew_heap, if_pos rfl]
      refine ⟨_, _, G.set s (some w.heap.size) (.slice (some ⟨w.heap.size, 0, none⟩) (rows.length + rows2.length) c), hrun _ _ hrun1, ?_, ?_⟩
      · refine hs.newVec hnew hdn ?_ (fun γ h1 _ => hheap γ h1) (by omega) ?_ ?_
        · rintro β' ⟨⟩
          exact ⟨hs.below.size, by omega, fun h => Nat.lt_irrefl _ (hs.S_lt _ h), fun b k hk hr hb => absurd (hs.at_ok b k _ hk hr hb).2.1 (Nat.lt_irrefl _)⟩
        · exact (hs.below.drew).alloc (by rw [drew_heap]; exact hs.below.size) _
        · have hap := rows_at_append (off := 0) (f := fun j => cellAt (olds ++ news ++ rest) j) k2 hy4 (fun j hj => by
              rw [cellAt_append_left (by simp [k3]; omega), cellAt_append_left (by omega)]) (fun j hj => by
              rw [cellAt_append_left (by simp [k3, hy5]; omega), cellAt_append_right (by omega), k3, Nat.add_sub_cancel_left])
          refine .inr ⟨w.heap.size, c, _, el, by simp [Gh.set], by simp [Gh.set], hat, by simpa using hc1, ?_, hap.1, fun i row j t hi hj => (hap.2 i row j t hi hj).mono (fun γ hγ => hheap γ (hs.S_lt γ hγ)) fun _ h => h⟩
          simp only [Array.size_append, k3, hy5, hrest]
          rw [← Nat.add_mul, ← Nat.add_mul]; congr 1; omega
      · rintro d' ⟨⟩
        exact hout _ _ _ (by simp [Gh.set]) ⟨_, _, _, rfl⟩

end run
end Go.Lift
