/- Lemmas for MixValidSaid, which YtmmkocokfdheiaaFin7 proves. -/
/- How a state of the tree logic is carried on: by a new value in a slot, by a new block, by a store into a block of the call's own, by a call. No condition. -/
import Derived.Test.YtmmkocokfdheiaaLift1
namespace Go.Lift
open Go.RowKit

variable {P : Program} {X : Ctx}

def St.put (st : St) (dst : Option Nat) (d : Option D) : St :=
  match dst with
  | some s => { st with env := fun t => if t = s then d else st.env t }
  | none => st

def St.setB (st : St) (b : Nat) (k : Blk) : St := { st with bx := fun c => if c = b then some k else st.bx c }

theorem cellAt_set {arr : Array Value} {i j : Nat} {v : Value} (h : i < arr.size) : cellAt (arr.setIfInBounds i v) j = if j = i then v else cellAt arr j := by
  unfold cellAt
  rw [Array.getElem?_setIfInBounds]
  by_cases e : i = j
  · subst e; simp [h]
  · rw [if_neg e, if_neg (Ne.symm e)]

theorem SimG.put {G : Gh} {st : St} {a : Act} {w : World} (h : SimG P X G st a w) (dst : Option Nat) (d : Option D) (v : Value)
    (hn : ∀ s, dst = some s → s < X.n) (hd : ∀ d', d = some d' → RdD P w G v d' ∧ ∀ b, b ∈ d'.names → (st.bx b).isSome = true) : SimG P X G (st.put dst d) (a.put dst v) w := by
  cases dst with
  | none => exact h
  | some s =>
    have hs : s < a.tmps.size := by rw [h.tsz]; exact hn s rfl
    refine { h with env := ?_, live := ?_, tsz := ?_, defers := h.defers, blk := h.blk, at_ok := h.at_ok, at_inj := h.at_inj, liveB := h.liveB }
    · intro s' d' he
      simp only [St.put] at he
      simp only [Act.put, cellAt_set hs]
      split at he
      · rename_i e; rw [if_pos e]; exact (hd d' he).1
      · rename_i e; rw [if_neg e]; exact h.env s' d' he
    · intro s' d' he
      simp only [St.put] at he
      split at he
      · exact (hd d' he).2
      · exact h.live s' d' he
    · simp [Act.put, h.tsz]

/-- The general step: the slots are as they were; of the blocks, each is as it was, or is read anew. -/
theorem SimG.frame {G G' : Gh} {st : St} {bx' : Nat → Option Blk} {a : Act} {w w' : World} (h : SimG P X G st a w)
    (hlive : ∀ b, (st.bx b).isSome = true → (bx' b).isSome = true)
    (hG : G.ext G' (fun b => (st.bx b).isSome = true))
    (hw : ∀ β, G.S β → w'.heap[β]? = w.heap[β]?)
    (hb : ∀ b k, bx' b = some k → (st.bx b = some k ∧ ∀ β, k.real = true → G.loc b = some β → w'.heap[β]? = w.heap[β]?) ∨ (BlkOk P w' G' b k ∧ ∀ c, c ∈ k.names → (bx' c).isSome = true))
    (hat : ∀ b k β, bx' b = some k → k.real = true → G'.loc b = some β → X.w0.heap.size ≤ β ∧ β < w'.heap.size ∧ ¬ G'.S β)
    (hinj : ∀ b c k l β, bx' b = some k → bx' c = some l → k.real = true → l.real = true → G'.loc b = some β → G'.loc c = some β → b = c)
    (hS1 : ∀ β, G'.S β → β < w'.heap.size) (hS2 : ∀ β, G'.S β → X.S0 β ∨ X.w0.heap.size ≤ β)
    (hbel : Below X.w0.heap.size X.w0 w') : SimG P X G' { st with bx := bx' } a w' where
  S_lt := hS1
  S_src := hS2
  S_0 := fun β hβ => hG.S β (h.S_0 β hβ)
  S0_lt := h.S0_lt
  blk := fun b k hk => by
    rcases hb b k hk with ⟨h1, h2⟩ | ⟨h1, _⟩
    · exact (h.blk b k h1).mono hG (by simp [h1]) hw h2 fun c hc => h.liveB b k h1 c hc
    · exact h1
  at_ok := hat
  at_inj := hinj
  env := fun s d hs => (h.env s d hs).mono hG hw (h.live s d hs)
  live := fun s d hs b hb' => hlive b (h.live s d hs b hb')
  liveB := fun b k hk c hc => by
    rcases hb b k hk with ⟨h1, _⟩ | ⟨_, h2⟩
    · exact hlive c (h.liveB b k h1 c hc)
    · exact h2 c hc
  tsz := h.tsz
  defers := h.defers
  below := hbel

theorem heap_alloc (w : World) (o : Obj) (k : Nat) : (w.alloc o).heap[k]? = if k = w.heap.size then some o else w.heap[k]? := by
  show (w.heap.push o)[k]? = _
  rw [Array.getElem?_push]

/-- Only new blocks: all is as it was. -/
theorem SimG.grow {G : Gh} {st : St} {a : Act} {w w' : World} (h : SimG P X G st a w) (hb : Below w.heap.size w w') : SimG P X G st a w' := by
  have hw : ∀ β, G.S β → w'.heap[β]? = w.heap[β]? := fun β hβ => hb.block β (h.S_lt β hβ)
  have hle := h.below.size
  exact h.frame (bx' := st.bx) (fun _ h => h) ⟨fun _ h => h, fun _ _ => rfl, fun _ _ => rfl⟩ hw
    (fun b k hk => .inl ⟨hk, fun β hr hβ => hb.block β (h.at_ok b k β hk hr hβ).2.1⟩)
    (fun b k β hk hr hβ => by have h9 := hb.size; have := h.at_ok b k β hk hr hβ; exact ⟨by omega, by omega, this.2.2⟩)
    h.at_inj (fun β hβ => by have := h.S_lt β hβ; have := hb.size; omega) h.S_src (h.below.trans (hb.mono hle))

def Gh.set (G : Gh) (b : Nat) (l : Option Nat) (v : Value) : Gh :=
  { G with loc := fun c => if c = b then l else G.loc c, hd := fun c => if c = b then v else G.hd c }

theorem Gh.set_ext (G : Gh) (b : Nat) (l : Option Nat) (v : Value) {p : Nat → Prop} (hp : ¬ p b) : G.ext (G.set b l v) p where
  S := fun _ h => h
  loc := fun c hc => by have : c ≠ b := fun e => hp (e ▸ hc); simp [Gh.set, this]
  hd := fun c hc => by have : c ≠ b := fun e => hp (e ▸ hc); simp [Gh.set, this]

/-- A new block under a new name. -/
theorem SimG.newB {G : Gh} {st : St} {a : Act} {w : World} (h : SimG P X G st a w) (o : Obj) (b : Nat) (k : Blk) (v : Value) (hnew : st.bx b = none)
    (hk : BlkOk P (w.alloc o) (G.set b (some w.heap.size) v) b k) (hn : ∀ c, c ∈ k.names → (st.bx c).isSome = true) :
    SimG P X (G.set b (some w.heap.size) v) (st.setB b k) a (w.alloc o) := by
  have hw : ∀ β, β < w.heap.size → (w.alloc o).heap[β]? = w.heap[β]? := fun β hβ => by rw [heap_alloc, if_neg (by omega)]
  have hsz : (w.alloc o).heap.size = w.heap.size + 1 := by show (w.heap.push o).size = _; simp
  have hle := h.below.size
  refine h.frame (bx' := (st.setB b k).bx) ?_ (Gh.set_ext _ _ _ _ (by simp [hnew])) (fun β hβ => hw β (h.S_lt β hβ)) ?_ ?_ ?_ ?_ h.S_src (h.below.alloc hle o)
  · intro c hc; simp only [St.setB]; split <;> simp [hc]
  · intro c l hc
    simp only [St.setB] at hc
    split at hc
    · rename_i e; subst e; cases hc
      exact .inr ⟨hk, fun c hc => by simp only [St.setB]; split <;> simp [hn c hc]⟩
    · exact .inl ⟨hc, fun β hr hβ => hw β (h.at_ok c l β hc hr hβ).2.1⟩
  · intro c l β hc hr hβ
    simp only [St.setB] at hc
    simp only [Gh.set] at hβ ⊢
    split at hc
    · rename_i e; rw [if_pos e] at hβ; cases hβ
      exact ⟨hle, by omega, fun hs => Nat.lt_irrefl _ (h.S_lt _ hs)⟩
    · rename_i e; rw [if_neg e] at hβ
      have := h.at_ok c l β hc hr hβ
      exact ⟨this.1, by omega, this.2.2⟩
  · intro c c' l l' β hc hc' hr hr' hβ hβ'
    simp only [St.setB] at hc hc'
    simp only [Gh.set] at hβ hβ'
    split at hc <;> split at hc'
    · rename_i e e'; rw [e, e']
    · rename_i e e'; rw [if_pos e] at hβ; rw [if_neg e'] at hβ'
      cases hβ
      have := (h.at_ok c' l' _ hc' hr' hβ').2.1
      omega
    · rename_i e e'; rw [if_neg e] at hβ; rw [if_pos e'] at hβ'
      cases hβ'
      have := (h.at_ok c l _ hc hr hβ).2.1
      omega
    · rename_i e e'; rw [if_neg e] at hβ; rw [if_neg e'] at hβ'
      exact h.at_inj c c' l l' β hc hc' hr hr' hβ hβ'
  · intro β hβ; have := h.S_lt β hβ; omega

def wset (w : World) (β : Nat) (o : Obj) : World := { w with heap := w.heap.setIfInBounds β o }

theorem heap_wset (w : World) (β : Nat) (o : Obj) (k : Nat) : (wset w β o).heap[k]? = if k = β ∧ β < w.heap.size then some o else w.heap[k]? := by
  show (w.heap.setIfInBounds β o)[k]? = _
  rw [Array.getElem?_setIfInBounds]
  by_cases e : β = k
  · subst e
    by_cases h : β < w.heap.size
    · simp [h]
    · simp [h]
  · rw [if_neg e, if_neg (fun x => e x.1.symm)]

theorem below_wset {B : Nat} {a w : World} (h : Below B a w) {β : Nat} (hβ : B ≤ β) (o : Obj) : Below B a (wset w β o) :=
  h.trans ⟨rfl, rfl, rfl, by simp [wset], fun k hk => by rw [heap_wset, if_neg (by omega)]⟩

/-- New content for a block that has a name. -/
theorem SimG.setB {G : Gh} {st : St} {a : Act} {w : World} (h : SimG P X G st a w) {b β : Nat} {k0 k : Blk} {o : Obj} (hb0 : st.bx b = some k0) (hr0 : k0.real = true) (hr : k.real = true) (hβ : G.loc b = some β)
    (hk : BlkOk P (wset w β o) G b k) (hn : ∀ c, c ∈ k.names → (st.bx c).isSome = true) :
    SimG P X G (st.setB b k) a (wset w β o) := by
  have hat := h.at_ok b k0 β hb0 hr0 hβ
  have hw : ∀ γ, γ ≠ β → (wset w β o).heap[γ]? = w.heap[γ]? := fun γ hγ => by rw [heap_wset, if_neg (fun x => hγ x.1)]
  have hsz : (wset w β o).heap.size = w.heap.size := by simp [wset]
  refine h.frame (bx' := (st.setB b k).bx) ?_ ⟨fun _ h => h, fun _ _ => rfl, fun _ _ => rfl⟩ (fun γ hγ => hw γ (fun e => hat.2.2 (e ▸ hγ))) ?_ ?_ ?_ ?_ h.S_src (below_wset h.below hat.1 o)
  · intro c hc; simp only [St.setB]; split <;> simp [hc]
  · intro c l hc
    simp only [St.setB] at hc
    split at hc
    · rename_i e; subst e; cases hc
      exact .inr ⟨hk, fun c hc => by simp only [St.setB]; split <;> simp [hn c hc]⟩
    · rename_i e
      exact .inl ⟨hc, fun γ hrl hγ => hw γ (fun e' => e (h.at_inj c b l k0 β hc hb0 hrl hr0 (e' ▸ hγ) hβ))⟩
  · intro c l γ hc hrl hγ
    simp only [St.setB] at hc
    rw [hsz]
    split at hc
    · rename_i e; subst e; rw [hβ] at hγ; cases hγ; exact hat
    · exact h.at_ok c l γ hc hrl hγ
  · intro c c' l l' γ hc hc' hr1 hr2 hγ hγ'
    simp only [St.setB] at hc hc'
    split at hc <;> split at hc'
    · rename_i e e'; rw [e, e']
    · rename_i e e'; exact h.at_inj c c' k0 l' γ (e ▸ hb0) hc' hr0 hr2 hγ hγ'
    · rename_i e e'; exact h.at_inj c c' l k0 γ hc (e' ▸ hb0) hr1 hr0 hγ hγ'
    · exact h.at_inj c c' l l' γ hc hc' hr1 hr2 hγ hγ'
  · intro γ hγ; rw [hsz]; exact h.S_lt γ hγ

/-- A store of cells into a row. -/
def over (arr : Array Value) (off : Nat) : List Value → Array Value
  | [] => arr
  | v :: vs => over (arr.setIfInBounds off v) (off + 1) vs

theorem over_size : ∀ (vs : List Value) (arr : Array Value) (off : Nat), (over arr off vs).size = arr.size
  | [], _, _ => rfl
  | v :: vs, arr, off => by rw [over, over_size vs]; simp

theorem cellAt_over : ∀ (vs : List Value) (arr : Array Value) (off j : Nat), off + vs.length ≤ arr.size →
    cellAt (over arr off vs) j = if off ≤ j ∧ j < off + vs.length then vs[j - off]?.getD undef else cellAt arr j
  | [], arr, off, j, _ => by rw [over, if_neg (by simp only [List.length_nil]; omega)]
  | v :: vs, arr, off, j, h => by
    simp only [List.length_cons] at h
    rw [over, cellAt_over vs _ _ _ (by simp; omega), cellAt_set (by omega)]
    simp only [List.length_cons]
    by_cases e : j = off
    · subst e
      rw [if_neg (by omega), if_pos rfl, if_pos (by omega), Nat.sub_self]; rfl
    · rw [if_neg e]
      by_cases e2 : off ≤ j ∧ j < off + (vs.length + 1)
      · rw [if_pos (by omega), if_pos e2, show j - off = (j - (off + 1)) + 1 from by omega]; simp
      · rw [if_neg (by omega), if_neg e2]

theorem wset_wset (w : World) (β : Nat) (o o' : Obj) : wset (wset w β o) β o' = wset w β o' := by
  simp [wset]

theorem wset_same {w : World} {β : Nat} {o : Obj} (h : w.heap[β]? = some o) : wset w β o = w := by
  unfold wset
  congr
  have hlt : β < w.heap.size := by
    rcases Nat.lt_or_ge β w.heap.size with h' | h'
    · exact h'
    · simp [Array.getElem?_eq_none h'] at h
  apply Array.ext_getElem?
  intro i
  rw [Array.getElem?_setIfInBounds]
  by_cases e : β = i
  · subst e; rw [if_pos rfl, if_pos hlt, h]
  · rw [if_neg e]

theorem run_store {w : World} {β k : Nat} {arr : Array Value} {el : TypeId} {v : Value} (h : w.heap[β]? = some (.cells arr el (0, 0))) (hk : k < arr.size) (h1 : oneC v = true) :
    (store ⟨β, k, none⟩ v).run P w = .ok () (wset w β (.cells (arr.setIfInBounds k v) el (0, 0))) := by
  have hlt : β < w.heap.size := by
    rcases Nat.lt_or_ge β w.heap.size with h' | h'
    · exact h'
    · simp [Array.getElem?_eq_none h'] at h
  have hc : w.cell? ⟨β, k, none⟩ = some arr[k] := by simp [World.cell?, h, hk]
  have hf : w.frozen? ⟨β, k, none⟩ = false := by simp [World.frozen?, h]
  have hs : w.setCell ⟨β, k, none⟩ v = wset w β (.cells (arr.setIfInBounds k v) el (0, 0)) := by
    unfold World.setCell wset
    congr 1
    apply Array.ext_getElem?
    intro i
    rw [Array.getElem?_modify, Array.getElem?_setIfInBounds]
    by_cases e : β = i
    · subst e; rw [if_pos rfl, if_pos rfl, if_pos hlt, h]; rfl
    · simp [e]
  unfold store
  cases v <;> first | (simp [oneC] at h1; done) | simp [Sem.run, hc, hf, hs]

theorem Addr.add_mk (β k i : Nat) : (⟨β, k, none⟩ : Addr).add i = ⟨β, k + i, none⟩ := by
  unfold Addr.add; split
  · rename_i h; subst h; simp
  · rfl

theorem run_then {α β : Type} {x : Sem α} {f : α → Sem β} {w w1 : World} {a : α} {r : Result β} (h : x.run P w = .ok a w1) (h2 : (f a).run P w1 = r) : (x >>= f).run P w = r := by
  rw [Sem.run_bind, h]; exact h2

/-- A row of cells is loaded. -/
theorem run_loadCellsFrom {w : World} {β off : Nat} {arr : Array Value} {el : TypeId} {fz : Nat × Nat} (h : w.heap[β]? = some (.cells arr el fz)) :
    ∀ (n i : Nat) (acc : Array Value), off + i + n ≤ arr.size → (loadCellsFrom ⟨β, off, none⟩ i n acc).run P w = .ok (acc ++ ((List.range n).map fun j => cellAt arr (off + i + j)).toArray) w
  | 0, i, acc, _ => by simp [loadCellsFrom]
  | n + 1, i, acc, hn => by
    have hc : w.cell? ⟨β, off + i, none⟩ = some (cellAt arr (off + i)) := by
      simp only [World.cell?, h]
      rw [cellAt_some (by omega)]; rfl
    unfold loadCellsFrom
    refine run_then (a := cellAt arr (off + i)) (w1 := w) (by rw [Addr.add_mk]; simp [load, Sem.run, hc]) ?_
    rw [run_loadCellsFrom h n (i + 1) _ (by omega)]
    congr 1
    rw [List.range_succ_eq_map]
    simp only [List.map_cons, List.map_map, Array.push_eq_append, Array.append_assoc]
    congr 1
    simp [Function.comp_def, Nat.add_assoc, Nat.add_comm 1]

theorem run_loadCells {w : World} {β off n : Nat} {arr : Array Value} {el : TypeId} {fz : Nat × Nat} (h : w.heap[β]? = some (.cells arr el fz)) (hn : off + n ≤ arr.size) :
    (loadCells ⟨β, off, none⟩ n).run P w = .ok ((List.range n).map fun j => cellAt arr (off + j)).toArray w := by
  unfold loadCells
  rw [run_loadCellsFrom h n 0 #[] (by omega)]
  simp

theorem run_load1 {w : World} {β off : Nat} {arr : Array Value} {el : TypeId} {fz : Nat × Nat} (h : w.heap[β]? = some (.cells arr el fz)) (hn : off < arr.size) :
    (load ⟨β, off, none⟩).run P w = .ok (cellAt arr off) w := by
  have hc : w.cell? ⟨β, off, none⟩ = some (cellAt arr off) := by
    simp only [World.cell?, h]
    rw [cellAt_some hn]; rfl
  simp [load, Sem.run, hc]

/-- A row of cells is stored. -/
theorem run_storeCells {β : Nat} {el : TypeId} : ∀ (vs : List Value) (w : World) (off i : Nat) (arr : Array Value), w.heap[β]? = some (.cells arr el (0, 0)) → off + i + vs.length ≤ arr.size →
    (∀ v, v ∈ vs → oneC v = true) → (storeCells ⟨β, off, none⟩ vs i).run P w = .ok () (wset w β (.cells (over arr (off + i) vs) el (0, 0)))
  | [], w, off, i, arr, h, _, _ => by simp [storeCells, over, wset_same h]
  | v :: vs, w, off, i, arr, h, hn, h1 => by
    simp only [List.length_cons] at hn
    unfold storeCells
    rw [Addr.add_mk]
    refine run_then (run_store h (by omega) (h1 v (by simp))) ?_
    have hlt : β < w.heap.size := by
      rcases Nat.lt_or_ge β w.heap.size with h' | h'
      · exact h'
      · simp [Array.getElem?_eq_none h'] at h
    rw [run_storeCells vs _ off (i + 1) _ (by rw [heap_wset, if_pos ⟨rfl, hlt⟩]) (by simp; omega) (fun v hv => h1 v (by simp [hv])), wset_wset]
    rfl

end Go.Lift
