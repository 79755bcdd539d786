/- Lemmas for MixValidSaid, which YtmmkocokfdheiaaFin7 proves. -/
/- More operations: slices made, cut and appended to. No condition. -/
import Derived.Test.YtmmkocokfdheiaaLift7
namespace Go.Lift
open Go.RowKit

variable {P : Program} {X : Ctx} {ops : Array Oper}

def lim : Nat := 4294967296
theorem lim_le : lim * 4096 ≤ 140737488355328 := by simp [lim]

def gones : List Nat → List (Nat × Blk)
  | [] => []
  | b :: bs => (b, .gone) :: gones bs

theorem setBs_gones {bx : Nat → Option Blk} {c : Nat} : ∀ {gn : List Nat}, setBs bx (gones gn) c = if c ∈ gn then some .gone else bx c
  | [] => by simp [gones, setBs]
  | b :: bs => by
    simp only [gones, setBs, List.mem_cons]
    by_cases e : c = b
    · simp [e]
    · simp only [e, false_or, if_false]; exact setBs_gones

/-- A new vector under a new name, some elder names given up; its block is new, or was that of a name given up. -/
theorem SimG.newVec {G : Gh} {st : St} {a : Act} {w w' : World} (h : SimG P X G st a w) {s e : Nat} {rows : List (List T)} {gn : List Nat} {l : Option Nat} {v : Value} (hnew : st.bx s = none) (hgn : ∀ b, b ∈ gn → (st.bx b).isSome = true)
    (hl : ∀ β, l = some β → X.w0.heap.size ≤ β ∧ β < w'.heap.size ∧ ¬ G.S β ∧ ∀ b k, st.bx b = some k → k.real = true → G.loc b = some β → b ∈ gn)
    (hw : ∀ γ, γ < w.heap.size → l ≠ some γ → w'.heap[γ]? = w.heap[γ]?) (hsz : w.heap.size ≤ w'.heap.size) (hbel : Below X.w0.heap.size X.w0 w')
    (hk : BlkOk P w' (G.set s l v) s (.vec e rows)) :
    SimG P X (G.set s l v) ⟨st.env, setBs st.bx ((s, .vec e rows) :: gones gn)⟩ a w' := by
  have hS : ∀ γ, G.S γ → w'.heap[γ]? = w.heap[γ]? := fun γ hγ => hw γ (h.S_lt γ hγ) fun e => (hl γ e).2.2.1 hγ
  have hbx : ∀ c, setBs st.bx ((s, .vec e rows) :: gones gn) c = if c = s then some (.vec e rows) else if c ∈ gn then some .gone else st.bx c := fun c => by
    simp only [setBs]; split
    · rfl
    · exact setBs_gones
  refine h.frame ?_ (Gh.set_ext _ _ _ _ (by simp [hnew])) hS ?_ ?_ ?_ ?_ h.S_src hbel
  · intro c hc; rw [hbx]; split
    · rfl
    · split
      · rfl
      · exact hc
  · intro c k hc
    rw [hbx] at hc
    split at hc
    · rename_i e; subst e; cases hc; exact .inr ⟨hk, fun c hc => by cases hc⟩
    · split at hc
      · cases hc; exact .inr ⟨trivial, fun c hc => by cases hc⟩
      · rename_i hns hng
        exact .inl ⟨hc, fun β hr hβ => hw β (h.at_ok c k β hc hr hβ).2.1 fun e => hng ((hl β e).2.2.2 c k hc hr hβ)⟩
  · intro c k β hc hr hβ
    rw [hbx] at hc
    simp only [Gh.set] at hβ ⊢
    split at hc
    · rename_i e; rw [if_pos e] at hβ; exact ⟨(hl β hβ).1, (hl β hβ).2.1, (hl β hβ).2.2.1⟩
    · rename_i e; rw [if_neg e] at hβ
      split at hc
      · cases hc; cases hr
      · have := h.at_ok c k β hc hr hβ; exact ⟨this.1, by omega, this.2.2⟩
  · intro c c' k k' β hc hc' hr hr' hβ hβ'
    rw [hbx] at hc hc'
    simp only [Gh.set] at hβ hβ'
    split at hc <;> split at hc'
    · rename_i e e'; rw [e, e']
    · rename_i e e'; rw [if_pos e] at hβ; rw [if_neg e'] at hβ'
      split at hc'
      · cases hc'; cases hr'
      · rename_i hng; exact absurd ((hl β hβ).2.2.2 c' k' hc' hr' hβ') hng
    · rename_i e e'; rw [if_neg e] at hβ; rw [if_pos e'] at hβ'
      split at hc
      · cases hc; cases hr
      · rename_i hng; exact absurd ((hl β hβ').2.2.2 c k hc hr hβ) hng
    · rename_i e e'; rw [if_neg e] at hβ; rw [if_neg e'] at hβ'
      split at hc
      · cases hc; cases hr
      · split at hc'
        · cases hc'; cases hr'
        · exact h.at_inj c c' k k' β hc hc' hr hr' hβ hβ'
  · intro β hβ; have := h.S_lt β hβ; omega

/-- Where elements are taken from. -/
inductive Src : D → List (Nat × Blk) → Nat → List (List T) → Prop where
  | own (b e : Nat) (rows : List (List T)) : Src (.e (.one (.own b))) [(b, .vec e rows)] e rows
  | sl (e : Nat) (rows : List (List T)) (h : ∀ (i : Nat) (row : List T), rows[i]? = some row → row.length = e) : Src (one (.sl rows)) [] e rows
  | nil (e : Nat) : Src (one .nil0) [] e []

theorem RowsAt.ones {w : World} {S : Nat → Prop} {arr : Array Value} {e : Nat} {rows : List (List T)} (h : RowsAt w S arr e 0 rows) (hs : arr.size = rows.length * e) : ∀ u, u ∈ arr.toList → oneC u = true := by
  intro u hu
  obtain ⟨k, hk⟩ := List.mem_iff_getElem?.1 hu
  have hk' : arr[k]? = some u := by simpa using hk
  have hlt : k < arr.size := by
    rcases Nat.lt_or_ge k arr.size with h' | h'
    · exact h'
    · rw [Array.getElem?_eq_none h'] at hk'; cases hk'
  rcases Nat.eq_zero_or_pos e with e0 | e0
  · rw [e0, Nat.mul_zero] at hs; omega
  have h1 : k / e < rows.length := (Nat.div_lt_iff_lt_mul e0).2 (by omega)
  have h2 : k % e < e := Nat.mod_lt _ e0
  have hrow : rows[k / e]? = some rows[k / e] := by simp [h1]
  have hlen := h.2.1 _ _ hrow
  have hcell : (rows[k / e])[k % e]? = some ((rows[k / e])[k % e]'(by omega)) := by simp [show k % e < rows[k / e].length from by omega]
  have := (h.2.2 _ _ _ _ hrow hcell).one
  rw [show 0 + k / e * e + k % e = k from by rw [Nat.zero_add, Nat.mul_comm]; exact Nat.div_add_mod k e] at this
  simpa [cellAt, hk'] using this

theorem run_firstCells {w : World} {S : Nat → Prop} {β off len cap e : Nat} {arr : Array Value} {el : TypeId} {fz : Nat × Nat} {rows : List (List T)} (hb : w.heap[β]? = some (.cells arr el fz)) (h : RowsAt w S arr e off rows) :
    ∃ news, (∀ w' : World, w'.heap = w.heap → (Builtin.firstCells e rows.length (.slice (some ⟨β, off, none⟩) len cap)).run P w' = .ok news w') ∧ RowsAt w S news e 0 rows ∧ news.size = rows.length * e := by
  obtain ⟨h1, h2, h3⟩ := h
  refine ⟨_, fun w' hw' => run_loadCells (by rw [hw']; exact hb) h1, ⟨by simp, h2, fun i row j t hi hj => ?_⟩, by simp⟩
  have hj' := lt_of_get hj
  have hi' := lt_of_get hi
  have := h2 i row hi
  have hle : i * e + e ≤ rows.length * e := by rw [← Nat.succ_mul]; exact Nat.mul_le_mul_right e hi'
  rw [Nat.zero_add, cellAt_range (by omega), ← Nat.add_assoc]
  exact h3 i row j t hi hj

theorem run_firstCells0 {w : World} {a : Option Addr} {len cap e : Nat} {S : Nat → Prop} : ∃ news, (∀ w' : World, w'.heap = w.heap → (Builtin.firstCells e 0 (.slice a len cap)).run P w' = .ok news w') ∧ RowsAt w S news e 0 [] ∧ news.size = 0 := by
  refine ⟨#[], fun w' _ => ?_, ⟨by simp, fun i row h => by simp at h, fun i row j t h => by simp at h⟩, rfl⟩
  cases a <;> simp [Builtin.firstCells, loadCells, loadCellsFrom]

theorem SimG.src {G : Gh} {st : St} {a : Act} {w : World} (hs : SimG P X G st a w) {x : Operand} {d : D} {rb : List (Nat × Blk)} {e : Nat} {rows : List (List T)} (hx : Lift.opd st.env x = some d) (h : Src d rb e rows) (hb : preB st.bx rb) :
    ∃ b cap news, a.eval x = .slice b rows.length cap ∧ rows.length ≤ cap ∧ (∀ w' : World, w'.heap = w.heap → (Builtin.firstCells e rows.length (a.eval x)).run P w' = .ok news w') ∧ RowsAt w G.S news e 0 rows ∧ news.size = rows.length * e := by
  have hR := hs.opd hx
  cases h with
  | own b e rows =>
    obtain ⟨hR, _⟩ : RdC P w G (a.eval x) (.own b) := hR
    rcases hs.blk b _ hb.1 with ⟨a', h1, h0, _⟩ | ⟨β, cap, arr, el', g0, g1, g2, g3, g4, g5, g6⟩
    · subst h0
      rw [hR, h1]
      obtain ⟨news, k1, k2, k3⟩ := run_firstCells0 (P := P) (w := w) (a := a') (len := 0) (cap := 0) (e := e) (S := G.S)
      exact ⟨_, _, news, rfl, by simp, k1, k2, by simpa using k3⟩
    · rw [hR, g1]
      obtain ⟨news, k1, k2, k3⟩ := run_firstCells (P := P) (S := G.S) (len := rows.length) (cap := cap) (e := e) g2 (rows := rows) ⟨by rw [g4, Nat.zero_add]; exact Nat.mul_le_mul_right e g3, g5, fun i row j t hi hj => by rw [Nat.zero_add]; exact g6 i row j t hi hj⟩
      exact ⟨_, _, news, rfl, g3, k1, k2, k3⟩
  | sl e rows hrow =>
    have hR : RdT w G.S (a.eval x) (.sl rows) := hR
    generalize a.eval x = v at hR
    cases hR with
    | nil a' cap =>
      obtain ⟨news, k1, k2, k3⟩ := run_firstCells0 (P := P) (w := w) (a := a') (len := 0) (cap := cap) (e := e) (S := G.S)
      exact ⟨_, _, news, rfl, by simp, k1, k2, by simpa using k3⟩
    | sl β off cap e' arr el' fz rows h1 h2 h3 h4 h5 h6 =>
      have key : RowsAt w G.S arr e off rows := by
        cases rows with
        | nil => exact ⟨by simp at h4 ⊢; exact h4, fun i row h => by simp at h, fun i row j t h => by simp at h⟩
        | cons r0 rs =>
          have he : e' = e := by rw [← hrow 0 r0 rfl]; exact (h5 0 r0 rfl).symm
          subst he
          exact ⟨h4, h5, h6⟩
      obtain ⟨news, k1, k2, k3⟩ := run_firstCells (P := P) (len := rows.length) (cap := cap) h2 key
      exact ⟨_, _, news, rfl, h3, k1, k2, k3⟩
  | nil e =>
    have hR : RdT w G.S (a.eval x) .nil0 := hR
    generalize a.eval x = v at hR
    cases hR with
    | nil0 a' =>
      obtain ⟨news, k1, k2, k3⟩ := run_firstCells0 (P := P) (w := w) (a := a') (len := 0) (cap := 0) (e := e) (S := G.S)
      exact ⟨_, _, news, rfl, by simp, k1, k2, by simpa using k3⟩

theorem run_choose_cap {need cap el : Nat} {w : World} : ∃ c, need ≤ c ∧ (choose (.appendCap need cap el)).run P w = .ok c w.drew := by
  refine ⟨need + w.tape w.drawn (.appendCap need cap el) % (2 ^ 63 - need), Nat.le_add_right _ _, ?_⟩
  rfl

theorem run_append {t t2 el el2 e bytes : Nat} {w : World} {z x : Value} {a : Option Addr} {n cap n2 cap2 : Nat} {b2 : Option Addr} {olds news : Array Value} {ty : TypeId} (ht : sliceB P t el = true) (ht2 : sliceB P t2 el2 = true) (he : szB P el e = true) (hby : bytesB P el bytes = true) (hbs : bytes ≤ 4096)
    (hz : zeroB P el = some z) (hzs : z.cells.size = e) (hx : x = .slice b2 n2 cap2) (hold : ∀ w' : World, w'.heap = w.heap → (Builtin.firstCells e n (.slice a n cap)).run P w' = .ok olds w') (hnew : ∀ w' : World, w'.heap = w.heap → (Builtin.firstCells e n2 x).run P w' = .ok news w') (hlim : n + n2 ≤ lim) (hcap : n ≤ cap) :
    (n + n2 ≤ cap ∧ ∀ w' : World, (∀ p, a = some p → (storeCells (p.add (n * e)) news.toList).run P w = .ok () w') → (a = none → w' = w) → (Builtin.append_ #[t, t2] ty #[.slice a n cap, x]).run P w = .ok (.slice a (n + n2) cap) w') ∨
    (cap < n + n2 ∧ ∃ c rest, n + n2 ≤ c ∧ (Builtin.append_ #[t, t2] ty #[.slice a n cap, x]).run P w = .ok (.slice (some ⟨w.heap.size, 0, none⟩) (n + n2) c) (w.drew.alloc (.cells (olds ++ news ++ rest) el)) ∧ rest.size = (c - (n + n2)) * e) := by
  unfold sliceB at ht ht2
  split at ht
  · rename_i e' hu
    split at ht2
    · rename_i e2' hu2
      have : e' = el := by simpa using ht
      subst this
      unfold bytesB at hby
      split at hby
      · rename_i inf hinf
        have hbytes : inf.bytes = bytes := by simpa using hby
        have hsize : inf.size = e := by unfold szB at he; rw [hinf] at he; simpa using he
        have hzero : inf.zero = some z := by unfold zeroB at hz; rw [hinf] at hz; simpa using hz
        have hlen : ∀ w' : World, (Builtin.lenOf x).run P w' = .ok n2 w' := fun w' => by rw [hx]; rfl
        have hst : ∀ w' : World, (sizeOf e').run P w' = .ok e w' := fun w' => run_sizeOf he w'
        by_cases hfit : n + n2 ≤ cap
        · refine .inl ⟨hfit, fun w' hp hno => ?_⟩
          unfold Builtin.append_
          refine run_then (run_underlying' hu w) ?_
          refine run_then (hst w) ?_
          refine run_then (run_underlying' hu2 w) ?_
          refine run_then (a := false) (w1 := w) rfl ?_
          refine run_then (hlen w) ?_
          simp only [hfit, if_true]
          refine run_then (hnew w rfl) ?_
          cases a with
          | none => rw [hno rfl]; rfl
          | some p => exact run_then (hp p rfl) rfl
        · refine .inr ⟨by omega, ?_⟩
          have hnc : Builtin.nextslicecap (n + n2) cap * inf.bytes ≤ 281474976710656 := growslice_fits (by omega) (by
            rw [hbytes]
            exact Nat.le_trans (Nat.mul_le_mul hlim hbs) lim_le)
          obtain ⟨c, hc1, hc2⟩ := run_choose_cap (P := P) (need := n + n2) (cap := cap) (el := e') (w := w)
          refine ⟨c, Builtin.zeroCells z.cells (c - (n + n2)), hc1, ?_, by simp [Builtin.zeroCells, hzs]⟩
          have hc3 : ¬ (((n + n2 : Nat) : Int) > IntKind.i64.max ∧ (false = true ∨ inf.bytes = 0)) := by
            have h1 : IntKind.i64.max = 9223372036854775807 := rfl
            have h2 : lim = 4294967296 := by simp [lim]
            rw [h1]; omega
          have hc4 : ¬ (Builtin.nextslicecap (n + n2) cap * inf.bytes > 2 ^ 48) := by omega
          unfold Builtin.append_
          refine run_then (run_underlying' hu w) ?_
          refine run_then (hst w) ?_
          refine run_then (run_underlying' hu2 w) ?_
          refine run_then (a := false) (w1 := w) rfl ?_
          refine run_then (hlen w) ?_
          simp only [hfit, if_false]
          refine run_then (run_typeInfo hinf w) ?_
          rw [if_neg hc3]
          refine run_then (run_typeInfo hinf w) ?_
          rw [if_neg hc4]
          refine run_then hc2 ?_
          refine run_then (run_typeInfo hinf w.drew) ?_
          refine run_then (run_askRoom P w.drew _) ?_
          refine run_then (hold w.drew rfl) ?_
          refine run_then (hnew w.drew rfl) ?_
          refine run_then (run_zeroValue hz w.drew) ?_
          rfl
      · cases hby
    · cases ht2
  · cases ht

end Go.Lift
