/- Lemmas for MixValidSaid, which YtmmkocokfdheiaaFin7 proves. -/
/- Calls by contract, the rules of statements, and how a contract is proved. No condition. -/
import Derived.Test.YtmmkocokfdheiaaLift10
namespace Go.Lift
open Go.RowKit

variable {P : Program} {X : Ctx} {ops : Array Oper}

def G0 (S : Nat → Prop) : Gh := { S := S, loc := fun _ => none, hd := fun _ => undef }

/-- What a call of function f gives: whatever the world, if the arguments read as the trees, it returns, nothing that was there has changed, and the result reads as said; the slices `own k` of the result are new and nobody else's. -/
def Contract (P : Program) (f : FuncId) (args : List D) (rv : List (Nat × List (List T))) (res : D) : Prop :=
  ∀ (w : World) (S : Nat → Prop) (vs : Array Value), (∀ β, S β → β < w.heap.size) → vs.size = args.length → (∀ (j : Nat) (d : D), args[j]? = some d → RdD P w (G0 S) (cellAt vs j) d) →
    Calls P f vs w fun e w' => ∃ v G', e = .returned v ∧ Below w.heap.size w w' ∧ (∀ β, S β → G'.S β) ∧ (∀ β, G'.S β → S β ∨ (w.heap.size ≤ β ∧ β < w'.heap.size)) ∧ RdD P w' G' v res ∧
      (∀ (k : Nat) (x : Nat × List (List T)), rv[k]? = some x → BlkOk P w' G' k (.vec x.1 x.2)) ∧
      (∀ k β, k < rv.length → G'.loc k = some β → w.heap.size ≤ β ∧ β < w'.heap.size ∧ ¬ G'.S β) ∧
      (∀ k l β, k < rv.length → l < rv.length → G'.loc k = some β → G'.loc l = some β → k = l)

def C.ren (f : Nat → Nat) : C → C
  | .own b => .own (f b)
  | .ptr b k => .ptr (f b) k
  | .eptr b e i k => .eptr (f b) e i k
  | c => c
def E.ren (f : Nat → Nat) : E → E
  | .one c => .one (c.ren f)
  | .agg cs => .agg (cs.map (C.ren f))
def D.ren (f : Nat → Nat) : D → D
  | .e x => .e (x.ren f)
  | .tup xs => .tup (xs.map (E.ren f))
def Blk.ren (f : Nat → Nat) : Blk → Blk
  | .box cs => .box (cs.map (C.ren f))
  | k => k

/-- G' knows of f b what G knows of b. -/
structure Gh.via (G G' : Gh) (f : Nat → Nat) (p : Nat → Prop) : Prop where
  S : ∀ β, G.S β → G'.S β
  loc : ∀ b, p b → G'.loc (f b) = G.loc b
  hd : ∀ b, p b → G'.hd (f b) = G.hd b

theorem RdC.ren {w : World} {G G' : Gh} {f : Nat → Nat} {p : Nat → Prop} {v : Value} {c : C} (h : RdC P w G v c) (hG : G.via G' f p) (hp : ∀ b, b ∈ c.names → p b) : RdC P w G' v (c.ren f) := by
  cases c with
  | pure t => exact RdT.mono h (fun _ _ => rfl) hG.S
  | own b => exact ⟨by rw [hG.hd b (hp b (by simp [C.names]))]; exact h.1, h.2⟩
  | ptr b k => obtain ⟨β, h1, h2⟩ := h; exact ⟨β, by rw [hG.loc b (hp b (by simp [C.names]))]; exact h1, h2⟩
  | eptr b e i k => obtain ⟨β, h1, h2⟩ := h; exact ⟨β, by rw [hG.loc b (hp b (by simp [C.names]))]; exact h1, h2⟩
  | rop ts =>
    obtain ⟨β, off, arr, el, fz, h1, h2, h3, h4, h5⟩ := h
    exact ⟨β, off, arr, el, fz, h1, hG.S _ h2, h3, h4, fun j t hj => (h5 j t hj).mono (fun _ _ => rfl) hG.S⟩
  | clo g => exact CloOk.mono h (fun _ _ => rfl) hG.S
  | any => exact h
  | nilq p => exact h
  | fnc f => exact h

theorem RdE.ren {w : World} {G G' : Gh} {f : Nat → Nat} {p : Nat → Prop} {v : Value} {x : E} (h : RdE P w G v x) (hG : G.via G' f p) (hp : ∀ b, b ∈ x.names → p b) : RdE P w G' v (x.ren f) := by
  cases x with
  | one c => exact RdC.ren h hG hp
  | agg cs =>
    obtain ⟨vs, e, hs, h⟩ := h
    refine ⟨vs, e, by simp [hs], fun j c hj => ?_⟩
    rw [List.getElem?_map] at hj
    cases hx : cs[j]? with
    | none => rw [hx] at hj; cases hj
    | some c0 =>
      rw [hx] at hj; cases hj
      exact (h j c0 hx).ren hG fun b hb => hp b (mem_cnames.2 ⟨c0, List.mem_of_getElem? hx, hb⟩)

theorem RdD.ren {w : World} {G G' : Gh} {f : Nat → Nat} {p : Nat → Prop} {v : Value} {d : D} (h : RdD P w G v d) (hG : G.via G' f p) (hp : ∀ b, b ∈ d.names → p b) : RdD P w G' v (d.ren f) := by
  cases d with
  | e x => exact RdE.ren h hG hp
  | tup xs =>
    obtain ⟨vs, e, hs, h⟩ := h
    refine ⟨vs, e, by simp [hs], fun j c hj => ?_⟩
    rw [List.getElem?_map] at hj
    cases hx : xs[j]? with
    | none => rw [hx] at hj; cases hj
    | some c0 =>
      rw [hx] at hj; cases hj
      exact (h j c0 hx).ren hG fun b hb => hp b (mem_enames.2 ⟨c0, List.mem_of_getElem? hx, hb⟩)

theorem BlkOk.ren {w : World} {G G' : Gh} {f : Nat → Nat} {p : Nat → Prop} {b : Nat} {k : Blk} (h : BlkOk P w G b k) (hG : G.via G' f p) (hb : p b) (hp : ∀ c, c ∈ k.names → p c) : BlkOk P w G' (f b) (k.ren f) := by
  cases k with
  | box cells =>
    obtain ⟨β, arr, el, h1, h2, h3, h4⟩ := h
    refine ⟨β, arr, el, by rw [hG.loc b hb]; exact h1, h2, by simp [h3], fun j c hj => ?_⟩
    rw [List.getElem?_map] at hj
    cases hx : cells[j]? with
    | none => rw [hx] at hj; cases hj
    | some c0 =>
      rw [hx] at hj; cases hj
      exact (h4 j c0 hx).ren hG fun b hb => hp b (mem_cnames.2 ⟨c0, List.mem_of_getElem? hx, hb⟩)
  | vec e rows =>
    rcases h with ⟨a, h1, h2, h3⟩ | ⟨β, cap, arr, el, h0, h1, h2, h3, h4, h5, h6⟩
    · exact .inl ⟨a, by rw [hG.hd b hb]; exact h1, h2, by rw [hG.loc b hb]; exact h3⟩
    · exact .inr ⟨β, cap, arr, el, by rw [hG.loc b hb]; exact h0, by rw [hG.hd b hb]; exact h1, h2, h3, h4, h5, fun i row j t hi hj => (h6 i row j t hi hj).mono (fun _ _ => rfl) hG.S⟩
  | gone => trivial

theorem RdD.closed {w : World} {G : Gh} {v : Value} {d : D} (h : RdD P w G v d) (hn : d.names = []) {S : Nat → Prop} (hS : ∀ β, G.S β → S β) : RdD P w (G0 S) v d :=
  h.mono (p := fun _ => False) ⟨hS, fun _ h => h.elim, fun _ h => h.elim⟩ (fun _ _ => rfl) (fun b hb => by rw [hn] at hb; cases hb)

theorem ren_names_C {f : Nat → Nat} {c : C} {b : Nat} (h : b ∈ (c.ren f).names) : ∃ b0, b0 ∈ c.names ∧ b = f b0 := by
  cases c <;> simp [C.ren, C.names] at h ⊢ <;> exact h
theorem ren_names_E {f : Nat → Nat} {x : E} {b : Nat} (h : b ∈ (x.ren f).names) : ∃ b0, b0 ∈ x.names ∧ b = f b0 := by
  cases x with
  | one c => exact ren_names_C h
  | agg cs =>
    obtain ⟨c, hc, hb⟩ := mem_cnames.1 h
    obtain ⟨c0, h0, rfl⟩ := List.mem_map.1 hc
    obtain ⟨b0, h1, h2⟩ := ren_names_C hb
    exact ⟨b0, mem_cnames.2 ⟨c0, h0, h1⟩, h2⟩
theorem ren_names_D {f : Nat → Nat} {d : D} {b : Nat} (h : b ∈ (d.ren f).names) : ∃ b0, b0 ∈ d.names ∧ b = f b0 := by
  cases d with
  | e x => exact ren_names_E h
  | tup xs =>
    obtain ⟨c, hc, hb⟩ := mem_enames.1 h
    obtain ⟨c0, h0, rfl⟩ := List.mem_map.1 hc
    obtain ⟨b0, h1, h2⟩ := ren_names_E hb
    exact ⟨b0, mem_enames.2 ⟨c0, h0, h1⟩, h2⟩

/-- The names under which the caller takes the result's own slices: the list's k-th. -/
def nm (ns : List Nat) (k : Nat) : Nat := ns.getD k 0
def vecs : List Nat → List (Nat × List (List T)) → List (Nat × Blk)
  | n :: ns, x :: xs => (n, .vec x.1 x.2) :: vecs ns xs
  | _, _ => []

theorem vecs_get {bx : Nat → Option Blk} : ∀ {ns : List Nat} {rv : List (Nat × List (List T))} {c : Nat}, ns.length = rv.length → ns.Nodup →
    (c ∉ ns → setBs bx (vecs ns rv) c = bx c) ∧ ∀ (k : Nat) (x : Nat × List (List T)), rv[k]? = some x → setBs bx (vecs ns rv) (nm ns k) = some (.vec x.1 x.2)
  | [], [], c, _, _ => ⟨fun _ => rfl, fun k x h => by simp at h⟩
  | n :: ns, x :: xs, c, hl, hnd => by
    have ih := vecs_get (bx := bx) (ns := ns) (rv := xs) (c := c) (by simpa using hl) (List.nodup_cons.1 hnd).2
    refine ⟨fun hc => ?_, fun k y hk => ?_⟩
    · simp only [List.mem_cons, not_or] at hc
      simp only [vecs, setBs]
      rw [if_neg hc.1]; exact ih.1 hc.2
    · cases k with
      | zero => simp at hk; subst hk; simp [vecs, setBs, nm]
      | succ k =>
        have hk' : xs[k]? = some y := by simpa using hk
        have hlt := lt_of_get hk'
        have hlt2 : k < ns.length := by simp at hl; omega
        have : nm (n :: ns) (k + 1) = nm ns k := by simp [nm]
        rw [this]
        have hne : nm ns k ≠ n := by
          intro e
          have : nm ns k ∈ ns := by unfold nm; rw [List.getD_eq_getElem?_getD]; simp [hlt2]
          exact (List.nodup_cons.1 hnd).1 (e ▸ this)
        simp only [vecs, setBs]
        rw [if_neg hne]
        exact (vecs_get (bx := bx) (ns := ns) (rv := xs) (c := c) (by simpa using hl) (List.nodup_cons.1 hnd).2).2 k y hk'

theorem mem_nm {ns : List Nat} {c : Nat} (h : c ∈ ns) : ∃ k, k < ns.length ∧ nm ns k = c := by
  obtain ⟨k, hk⟩ := List.mem_iff_getElem?.1 h
  exact ⟨k, lt_of_get hk, by unfold nm; rw [List.getD_eq_getElem?_getD, hk]; rfl⟩

theorem nm_mem {ns : List Nat} {k : Nat} (h : k < ns.length) : nm ns k ∈ ns := by
  unfold nm; rw [List.getD_eq_getElem?_getD]; simp [h]

theorem nm_inj {ns : List Nat} (hnd : ns.Nodup) {j k : Nat} (hj : j < ns.length) (hk : k < ns.length) (h : nm ns j = nm ns k) : j = k := by
  unfold nm at h
  rw [List.getD_eq_getElem?_getD, List.getD_eq_getElem?_getD] at h
  simp only [hj, hk, List.getElem?_eq_getElem, Option.getD_some] at h
  rcases Nat.lt_trichotomy j k with h1 | h1 | h1
  · exact absurd h (List.pairwise_iff_getElem.1 hnd j k hj hk h1)
  · exact h1
  · exact absurd h.symm (List.pairwise_iff_getElem.1 hnd k j hk hj h1)

def goodFn (P : Program) (f : FuncId) : Bool := match P.funcs[f]? with | some fn => !(fn.name == "runtime.NumGoroutine") && fn.body.isSome | none => false

theorem run_callFunc {f : FuncId} (h : goodFn P f = true) (args : Array Value) (w : World) : (callFunc f args).run P w = .ok (.enter f args) w := by
  unfold goodFn at h
  split at h
  · rename_i fn hf
    simp only [Bool.and_eq_true, Bool.not_eq_true'] at h
    obtain ⟨h1, h2⟩ := h
    have h3 : ¬ fn.body = none := by cases hb : fn.body <;> simp_all
    have h4 : ¬ fn.name = "runtime.NumGoroutine" := by simpa using h1
    simp [callFunc, program, Sem.run, hf]
    rw [if_neg h4, if_neg h3]
  · cases h

theorem run_callStatic {f : FuncId} (h : goodFn P f = true) {xs : Array Operand} {ts : Array TypeId} {ρ : Operand → Value} {ty : TypeId} {w : World} (hρ : ρ (.func f) = .func (.func f) #[] #[]) :
    (do let d ← resolve ρ ⟨.value (.func f), xs, ts⟩ ty; invoke d.target d.args : Sem Next).run P w = .ok (.enter f (xs.map ρ)) w := by
  simp only [resolve, hρ, Deferred.ofValue]
  refine run_then (a := { target := .fn (.func f) #[], args := #[] ++ xs.map ρ }) (w1 := w) rfl ?_
  simp only [invoke]
  rw [run_callFunc h]; simp

def zipR : List Operand → List D → List (Operand × D)
  | x :: xs, d :: ds => (x, d) :: zipR xs ds
  | _, _ => []

theorem zipR_get {env : Nat → Option D} : ∀ {xs : List Operand} {ds : List D}, xs.length = ds.length → preR env (zipR xs ds) → ∀ (j : Nat) (x : Operand) (d : D), xs[j]? = some x → ds[j]? = some d → opd env x = some d
  | x :: xs, d :: ds, _, h, 0, y, e, hx, hd => by simp at hx hd; subst hx; subst hd; exact h.1
  | x :: xs, d :: ds, hl, h, j + 1, y, e, hx, hd => zipR_get (by simpa using hl) h.2 j y e (by simpa using hx) (by simpa using hd)

def pub (d : D) : Bool := d.names.isEmpty

section run
variable {dr : Bool} {Q : St → Prop} {r i : Nat} {st : St} {log : List (Nat × Loc)} {o : Oper} {gs : List (Operand × D)}

theorem r_call {f s : Nat} {xs : List Operand} {ds0 ds : List D} {rv : List (Nat × List (List T))} {res : D} {ts : Array TypeId} (ns : List Nat) (hc : Contract P f ds rv res) (hat : At st.env ops i X.n (.call ⟨.value (.func f), xs.toArray, ts⟩) s gs)
    (hf : goodFn P f = true) (hl : xs.length = ds0.length) (hx : preR st.env (zipR xs ds0)) (hds : ds0.map D.nrm = ds) (hpub : ds.all pub = true) (hns : ns.length = rv.length) (hnd : ns.Nodup) (hnew : preN st.bx ns) (hres : res.names.all (fun b => decide (b < rv.length)) = true)
    (next : Run P X ops dr Q r (i + 1) (Loc.upd ⟨gs ++ zipR xs ds0, [], some s, some (res.ren (nm ns)), vecs ns rv, ns⟩ st) ((i, ⟨gs ++ zipR xs ds0, [], some s, some (res.ren (nm ns)), vecs ns rv, ns⟩) :: log)) : Run P X ops dr Q (r + 1) i st log := by
  obtain ⟨o, ho, hop, hd, hn, hg, hgp⟩ := hat.out
  subst hds
  refine Run.step next ⟨preR_append.2 ⟨hgp, hx⟩, trivial, hnew⟩ ?_
  intro st a w K Q' hs hpre hK
  obtain ⟨G, hs⟩ := hs
  have hx := (preR_append.1 hpre.r).2
  have hw := hs.wanted hg (preR_append.1 hpre.r).1
  have hnew := hpre.n
  have hnew' : ∀ c, c ∈ ns → st.bx c = none := by
    have : ∀ {l : List Nat}, preN st.bx l → ∀ c, c ∈ l → st.bx c = none := by
      intro l
      induction l with
      | nil => intro _ c hc; cases hc
      | cons b l ih =>
        intro h c hc
        rcases List.mem_cons.1 hc with e | e
        · subst e; exact h.1
        · exact ih h.2 c e
    exact this hnew
  unfold wpOp
  rw [ho]
  simp only [hw, if_true]
  refine .inl ?_
  unfold Oper.wp
  have hrun : (execOp a.eval o).run P w = .ok (.enter f (xs.toArray.map a.eval)) w := by
    simp only [execOp, hop]
    exact run_callStatic hf rfl
  rw [hrun]
  show Calls P f (xs.toArray.map a.eval) w _
  refine (hc w G.S (xs.toArray.map a.eval) hs.S_lt (by simpa using hl) ?_).mono ?_
  · intro j d hj
    obtain ⟨d0, hj0, rfl⟩ : ∃ d0, ds0[j]? = some d0 ∧ d0.nrm = d := by
      rw [List.getElem?_map] at hj
      cases hx0 : ds0[j]? with
      | none => rw [hx0] at hj; cases hj
      | some d0 => rw [hx0] at hj; cases hj; exact ⟨d0, rfl, rfl⟩
    have hlt := lt_of_get hj0
    have hxj : xs[j]? = some (xs[j]'(by omega)) := by simp [show j < xs.length from by omega]
    have hop' := zipR_get hl hx j _ d0 hxj hj0
    have hcell : cellAt (xs.toArray.map a.eval) j = a.eval (xs[j]'(by omega)) := by simp [cellAt, show j < xs.length from by omega]
    rw [hcell]
    refine ((hs.opd hop').nrm).closed ?_ (fun _ h => h)
    have := List.all_eq_true.1 hpub _ (List.mem_of_getElem? hj)
    simpa [pub] using this
  · rintro e w' ⟨v, G', rfl, hbel, hS1, hS2, hres', hvec, hvat, hvinj⟩
    show K (a.put o.dst v) w'
    rw [hd]
    -- the ghost of the caller
    let G2 : Gh := { S := fun β => G'.S β ∧ True, loc := fun c => if c ∈ ns then G'.loc (ns.idxOf c) else G.loc c, hd := fun c => if c ∈ ns then G'.hd (ns.idxOf c) else G.hd c }
    have hidx : ∀ k, k < ns.length → ns.idxOf (nm ns k) = k := by
      intro k hk
      have hm := nm_mem hk
      have h1 : ns.idxOf (nm ns k) < ns.length := List.idxOf_lt_length_of_mem hm
      refine nm_inj hnd h1 hk ?_
      have h2 := List.getElem_idxOf h1
      show ns.getD (ns.idxOf (nm ns k)) 0 = nm ns k
      rw [List.getD_eq_getElem?_getD, List.getElem?_eq_getElem h1, Option.getD_some, h2]
    have hvia : G'.via G2 (nm ns) (fun b => b < ns.length) := ⟨fun β h => ⟨h, trivial⟩, fun b hb => by simp only [G2]; rw [if_pos (nm_mem hb), hidx b hb], fun b hb => by simp only [G2]; rw [if_pos (nm_mem hb), hidx b hb]⟩
    have hext : G.ext G2 (fun b => (st.bx b).isSome = true) := by
      have : ∀ b, (st.bx b).isSome = true → b ∉ ns := fun b hb hm => by rw [hnew' b hm] at hb; cases hb
      exact ⟨fun β h => ⟨hS1 β h, trivial⟩, fun b hb => by simp only [G2]; rw [if_neg (this b hb)], fun b hb => by simp only [G2]; rw [if_neg (this b hb)]⟩
    have hwS : ∀ β, G.S β → w'.heap[β]? = w.heap[β]? := fun β hβ => hbel.block β (hs.S_lt β hβ)
    have hsz := hbel.size
    have hle := hs.below.size
    have hS3 : ∀ β, G2.S β → G.S β ∨ (w.heap.size ≤ β ∧ β < w'.heap.size) := fun β h => hS2 β h.1
    have hvg := fun c => vecs_get (bx := st.bx) (ns := ns) (rv := rv) (c := c) hns hnd
    have hblk : ∀ c k, setBs st.bx (vecs ns rv) c = some k → (c ∉ ns ∧ st.bx c = some k) ∨ (∃ m x, m < ns.length ∧ nm ns m = c ∧ rv[m]? = some x ∧ k = .vec x.1 x.2) := by
      intro c k hc
      by_cases hm : c ∈ ns
      · obtain ⟨m, hm1, hm2⟩ := mem_nm hm
        have hrx : rv[m]? = some (rv[m]'(by omega)) := by simp [show m < rv.length from by omega]
        have := (hvg c).2 m _ hrx
        rw [hm2, hc] at this
        exact .inr ⟨m, _, hm1, hm2, hrx, by simpa using this⟩
      · rw [(hvg c).1 hm] at hc; exact .inl ⟨hm, hc⟩
    have key : SimG P X G2 ⟨st.env, setBs st.bx (vecs ns rv)⟩ a w' := by
      refine hs.frame ?_ hext hwS ?_ ?_ ?_ ?_ ?_ (hs.below.trans (hbel.mono hle))
      · intro c hc
        have hm : c ∉ ns := fun hm => by rw [hnew' c hm] at hc; cases hc
        rw [(hvg c).1 hm]; exact hc
      · intro c k hc
        rcases hblk c k hc with ⟨_, h1⟩ | ⟨m, x, h1, h2, h3, h4⟩
        · exact .inl ⟨h1, fun β hr hβ => hbel.block β (hs.at_ok c k β h1 hr hβ).2.1⟩
        · subst h4
          refine .inr ⟨?_, fun c hc => by cases hc⟩
          rw [← h2]
          exact (hvec m x h3).ren hvia h1 (fun c hc => by cases hc)
      · intro c k β hc hr hβ
        rcases hblk c k hc with ⟨h0, h1⟩ | ⟨m, x, h1, h2, h3, h4⟩
        · simp only [G2] at hβ; rw [if_neg h0] at hβ
          have := hs.at_ok c k β h1 hr hβ
          refine ⟨this.1, by omega, fun h => ?_⟩
          rcases hS3 β h with h | h
          · exact this.2.2 h
          · omega
        · rw [← h2, hvia.loc m h1] at hβ
          have := hvat m β (by omega) hβ
          exact ⟨by omega, this.2.1, fun h => this.2.2 h.1⟩
      · intro c c' k k' β hc hc' hr hr' hβ hβ'
        rcases hblk c k hc with ⟨h0, h1⟩ | ⟨m, x, h1, h2, h3, h4⟩ <;> rcases hblk c' k' hc' with ⟨h0', h1'⟩ | ⟨m', x', h1', h2', h3', h4'⟩
        · simp only [G2] at hβ hβ'; rw [if_neg h0] at hβ; rw [if_neg h0'] at hβ'
          exact hs.at_inj c c' k k' β h1 h1' hr hr' hβ hβ'
        · simp only [G2] at hβ; rw [if_neg h0] at hβ
          rw [← h2', hvia.loc m' h1'] at hβ'
          have h5 := hvat m' β (by omega) hβ'
          have h6 := (hs.at_ok c k β h1 hr hβ).2.1
          omega
        · simp only [G2] at hβ'; rw [if_neg h0'] at hβ'
          rw [← h2, hvia.loc m h1] at hβ
          have h5 := hvat m β (by omega) hβ
          have h6 := (hs.at_ok c' k' β h1' hr' hβ').2.1
          omega
        · rw [← h2, hvia.loc m h1] at hβ
          rw [← h2', hvia.loc m' h1'] at hβ'
          have := hvinj m m' β (by omega) (by omega) hβ hβ'
          rw [← h2, ← h2', this]
      · intro β h
        rcases hS3 β h with h | h
        · have := hs.S_lt β h; omega
        · exact h.2
      · intro β h
        rcases hS3 β h with h | h
        · exact hs.S_src β h
        · exact .inr (by omega)
    have hrn : ∀ b, b ∈ res.names → b < ns.length := fun b hb => by
      have := List.all_eq_true.1 hres b hb
      rw [hns]; simpa using this
    refine hK _ _ ⟨G2, key.put (some s) (some (res.ren (nm ns))) v (by intro t e; cases e; exact hn) ?_⟩
    rintro d ⟨⟩
    refine ⟨hres'.ren hvia hrn, fun b hb => ?_⟩
    obtain ⟨b0, h1, h2⟩ := ren_names_D hb
    have hrx : rv[b0]? = some (rv[b0]'(by have := hrn b0 h1; omega)) := by simp [show b0 < rv.length from by have := hrn b0 h1; omega]
    show (setBs st.bx (vecs ns rv) b).isSome = true
    rw [h2, (hvg b).2 b0 _ hrx]; rfl

end run
end Go.Lift
