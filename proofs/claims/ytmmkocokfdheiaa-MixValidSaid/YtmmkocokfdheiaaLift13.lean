/- Lemmas for MixValidSaid, which YtmmkocokfdheiaaFin7 proves. -/
/- How a contract is proved out of the rules, and a contract whose result is shared. No condition. -/
import Derived.Test.YtmmkocokfdheiaaLift12
namespace Go.Lift
open Go.RowKit

variable {P : Program} {X : Ctx}

def init (args : List D) : St := ⟨fun s => args[s]?, fun _ => none⟩

/-- What a result variable holds. -/
inductive RR (P : Program) (st : St) : ResultVar → E → Prop where
  | tmp (t : Nat) (x : E) (h : st.env t = some (.e x)) : RR P st (.tmp t) x
  | cell1 (a t b k : Nat) (cells : List C) (c : C) (h1 : st.env a = some (.e (.one (.ptr b k)))) (h2 : st.bx b = some (.box cells)) (h3 : aggB P t false = true) (h4 : cells[k]? = some c) : RR P st (.cell a t) (.one c)
  | cellN (a t b k n : Nat) (cells cs : List C) (h1 : st.env a = some (.e (.one (.ptr b k)))) (h2 : st.bx b = some (.box cells)) (h3 : aggB P t true = true) (h4 : szB P t n = true) (h5 : (cells.drop k).take n = cs) (h6 : cs.length = n) (h7 : 0 < n) : RR P st (.cell a t) (.agg cs)

def RRs (P : Program) (st : St) : List ResultVar → List E → Prop
  | [], [] => True
  | v :: vs, x :: xs => RR P st v x ∧ RRs P st vs xs
  | _, _ => False

def resD : List E → D
  | [x] => .e x
  | xs => .tup xs

def vecsAt (bx : Nat → Option Blk) : Nat → List (Nat × List (List T)) → Prop
  | _, [] => True
  | k, x :: xs => bx (1000 + k) = some (.vec x.1 x.2) ∧ vecsAt bx (k + 1) xs

theorem vecsAt_get {bx : Nat → Option Blk} : ∀ {rv : List (Nat × List (List T))} {m : Nat}, vecsAt bx m rv → ∀ (k : Nat) (x : Nat × List (List T)), rv[k]? = some x → bx (1000 + (m + k)) = some (.vec x.1 x.2)
  | y :: rv, m, h, 0, x, hk => by simp at hk; subst hk; exact h.1
  | y :: rv, m, h, k + 1, x, hk => by
    have := vecsAt_get h.2 k x (by simpa using hk)
    rwa [show m + 1 + k = m + (k + 1) from by omega] at this

structure RetOk (P : Program) (rs : List ResultVar) (st : St) (rv : List (Nat × List (List T))) (res : D) : Prop where
  r : ∃ xs, RRs P st rs xs ∧ resD xs = res.ren (fun k => 1000 + k)
  v : vecsAt st.bx 0 rv

theorem SimG.rr {G : Gh} {st : St} {a : Act} {w : World} (hs : SimG P X G st a w) {v : ResultVar} {x : E} (h : RR P st v x) :
    ∃ u, (match v with | .tmp t => pure (a.tmps.getD t undef) | .cell b t => do loadVar t (← asAddr (a.tmps.getD b undef)) : Sem Value).run P w = .ok u w ∧ RdE P w G u x := by
  have hget : ∀ t, a.tmps.getD t undef = cellAt a.tmps t := fun t => by simp [cellAt]
  cases h with
  | tmp t x h => exact ⟨_, rfl, by rw [hget]; exact hs.env t _ h⟩
  | cell1 b t n k cells c h1 h2 h3 h4 =>
    obtain ⟨β, hβ, hv⟩ : RdC P w G (cellAt a.tmps b) (.ptr n k) := hs.env b _ h1
    obtain ⟨β', arr, el, g1, g2, g3, g4⟩ := hs.blk n _ h2
    rw [hβ] at g1; cases g1
    have hk := lt_of_get h4
    refine ⟨cellAt arr k, ?_, g4 k c h4⟩
    simp only [hget, hv]
    refine run_then (a := (⟨β, k, none⟩ : Addr)) (w1 := w) rfl ?_
    unfold loadVar
    refine run_then (run_isAgg h3 w) ?_
    exact run_load1 g2 (by omega)
  | cellN b t n k m cells cs h1 h2 h3 h4 h5 h6 h7 =>
    obtain ⟨β, hβ, hv⟩ : RdC P w G (cellAt a.tmps b) (.ptr n k) := hs.env b _ h1
    obtain ⟨β', arr, el, g1, g2, g3, g4⟩ := hs.blk n _ h2
    rw [hβ] at g1; cases g1
    have hk : k + m ≤ cells.length := by
      have := congrArg List.length h5
      simp at this; omega
    refine ⟨.agg ((List.range m).map fun j => cellAt arr (k + j)).toArray, ?_, ⟨_, rfl, by simp [h6], fun j c hj => ?_⟩⟩
    · simp only [hget, hv]
      refine run_then (a := (⟨β, k, none⟩ : Addr)) (w1 := w) rfl ?_
      unfold loadVar
      refine run_then (run_isAgg h3 w) ?_
      simp only [if_true]
      exact run_then (run_sizeOf h4 w) (run_then (run_loadCells g2 (by omega)) rfl)
    · have hjn := lt_of_get hj
      rw [cellAt_range (by omega)]
      rw [← h5, List.getElem?_take_of_lt (by omega), List.getElem?_drop] at hj
      exact g4 _ c hj

theorem SimG.rrs {G : Gh} {st : St} {a : Act} {w : World} (hs : SimG P X G st a w) : ∀ {vs : List ResultVar} {xs : List E}, RRs P st vs xs →
    ∃ us : List Value, (vs.mapM fun v => (match v with | .tmp t => pure (a.tmps.getD t undef) | .cell b t => do loadVar t (← asAddr (a.tmps.getD b undef)) : Sem Value)).run P w = .ok us w ∧ us.length = xs.length ∧ ∀ (j : Nat) (u : Value) (x : E), us[j]? = some u → xs[j]? = some x → RdE P w G u x
  | [], [], _ => ⟨[], rfl, rfl, fun j u x h => by simp at h⟩
  | v :: vs, x :: xs, h => by
    obtain ⟨u, h1, h2⟩ := hs.rr h.1
    obtain ⟨us, h3, h4, h5⟩ := hs.rrs h.2
    refine ⟨u :: us, ?_, by simp [h4], fun j u' x' hu hx => ?_⟩
    · rw [List.mapM_cons]
      exact run_then h1 (run_then h3 rfl)
    · cases j with
      | zero => simp at hu hx; subst hu; subst hx; exact h2
      | succ j => exact h5 j u' x' (by simpa using hu) (by simpa using hx)

/-- HOW A CONTRACT IS PROVED. -/
theorem contract_of_W {f n : Nat} {fn : Func} {c : Code} {args : List D} {rv : List (Nat × List (List T))} {res : D} {rs : List ResultVar} (hf : P.funcs[f]? = some fn) (hb : fn.body = some c) (hn : fn.ntmps = n) (hrs : fn.results.toList = rs) (hl : args.length ≤ n) (hpub : args.all pub = true)
    (h : ∀ (w0 : World) (S0 : Nat → Prop), W P ⟨w0, S0, n⟩ c (fun e st => match e with | .normal | .ret => RetOk P rs st rv res | _ => False) (init args)) : Contract P f args rv res := by
  subst hn; subst hrs
  intro w S vs hS hlen hargs
  refine calls_of_wp hf hb ?_
  have hcell : ∀ j, j < args.length → cellAt (vs ++ Array.replicate (fn.ntmps - vs.size) undef) j = cellAt vs j := fun j hj => cellAt_append_left (by omega)
  have hinit : SimG P ⟨w, S, fn.ntmps⟩ (G0 S) (init args) { tmps := vs ++ Array.replicate (fn.ntmps - vs.size) undef, defers := [] } w := by
    refine { S_lt := hS, S_src := fun β h => .inl h, S_0 := fun β h => h, S0_lt := hS, tsz := by simp; omega, defers := rfl, below := Below.refl _ _, blk := ?_, at_ok := ?_, at_inj := ?_, env := ?_, live := ?_, liveB := ?_ }
    · intro b k hk; cases hk
    · intro b k β hk; cases hk
    · intro b c k l β hk; cases hk
    · intro s d hs
      have hs' : args[s]? = some d := hs
      rw [hcell s (lt_of_get hs')]
      exact hargs s d hs'
    · intro s d hs b hb
      have hs' : args[s]? = some d := hs
      have := List.all_eq_true.1 hpub d (List.mem_of_getElem? hs')
      simp [pub] at this
      rw [this] at hb; cases hb
    · intro b k hk; cases hk
  refine wp_mono (h w S _ w ⟨_, hinit⟩) ?_
  rintro e a' w' ⟨st', hq, G, hs⟩
  have key : RetOk P fn.results.toList st' rv res → a'.defers = [] ∧ ∃ v, (results fn a'.tmps).run P w' = .ok v w' ∧ ∃ v' G', Ending.returned v = .returned v' ∧ Below w.heap.size w w' ∧ (∀ β, S β → G'.S β) ∧ (∀ β, G'.S β → S β ∨ (w.heap.size ≤ β ∧ β < w'.heap.size)) ∧ RdD P w' G' v' res ∧
      (∀ (k : Nat) (x : Nat × List (List T)), rv[k]? = some x → BlkOk P w' G' k (.vec x.1 x.2)) ∧
      (∀ k β, k < rv.length → G'.loc k = some β → w.heap.size ≤ β ∧ β < w'.heap.size ∧ ¬ G'.S β) ∧
      (∀ k l β, k < rv.length → l < rv.length → G'.loc k = some β → G'.loc l = some β → k = l) := by
    rintro ⟨⟨xs, hr1, hr2⟩, hv⟩
    obtain ⟨us, h1, h2, h3⟩ := hs.rrs hr1
    refine ⟨hs.defers, (if h : us.toArray.size = 1 then us.toArray[0] else .tuple us.toArray), ?_, _, { S := G.S, loc := fun b => G.loc (1000 + b), hd := fun b => G.hd (1000 + b) }, rfl, hs.below, hs.S_0, ?_, ?_, ?_, ?_, ?_⟩
    · unfold results
      refine run_then (a := us.toArray) (w1 := w') ?_ rfl
      rw [Array.mapM_eq_mapM_toList]
      simp only [Sem.run_map]
      exact congrArg (fun r => Result.andThen r fun a w' => Result.ok a.toArray w') h1
    · intro β hβ
      rcases hs.S_src β hβ with h | h
      · exact .inl h
      · exact .inr ⟨h, hs.S_lt β hβ⟩
    · refine ren_back_D (f := fun k => 1000 + k) ?_
      rw [← hr2]
      match xs, us, h2 with
      | [], [], _ => exact ⟨#[], rfl, rfl, fun j x h => by simp at h⟩
      | [x], [u], _ => exact h3 0 u x rfl rfl
      | x :: y :: xs, u :: u' :: us, hl2 =>
        refine ⟨(u :: u' :: us).toArray, by simp, by simpa using hl2, fun j z hj => ?_⟩
        have hlt := lt_of_get hj
        have hu : (u :: u' :: us)[j]? = some ((u :: u' :: us)[j]'(by rw [hl2]; exact hlt)) := by rw [List.getElem?_eq_getElem]
        have := h3 j _ z hu hj
        have hc : cellAt (u :: u' :: us).toArray j = (u :: u' :: us)[j]'(by rw [hl2]; exact hlt) := by
          unfold cellAt
          rw [List.getElem?_toArray, hu]; rfl
        rw [hc]; exact this
    · intro k x hk
      have := vecsAt_get hv k x hk
      rw [Nat.zero_add] at this
      exact hs.blk _ _ this
    · intro k β hk hβ
      have hx : rv[k]? = some rv[k] := by simp [hk]
      have := vecsAt_get hv k _ hx
      rw [Nat.zero_add] at this
      exact hs.at_ok _ _ β this rfl hβ
    · intro k l β hk hl hβ hβ'
      have hx : rv[k]? = some rv[k] := by simp [hk]
      have hx' : rv[l]? = some rv[l] := by simp [hl]
      have h4 := vecsAt_get hv k _ hx
      have h5 := vecsAt_get hv l _ hx'
      rw [Nat.zero_add] at h4 h5
      have := hs.at_inj _ _ _ _ β h4 h5 rfl rfl hβ hβ'
      omega
  cases e with
  | normal => exact key hq
  | ret => exact key hq
  | _ => exact hq.elim

/-- The result's own slices given over to sharing. -/
def C.shr (rv : List (Nat × List (List T))) : C → C
  | .own k => match rv[k]? with
    | some x => .pure (.sl x.2)
    | none => .own k
  | .ptr _ _ => .any
  | .eptr _ _ _ _ => .any
  | c => c
def E.shr (rv : List (Nat × List (List T))) : E → E
  | .one c => .one (c.shr rv)
  | .agg cs => .agg (cs.map (C.shr rv))
def D.shr (rv : List (Nat × List (List T))) : D → D
  | .e x => .e (x.shr rv)
  | .tup xs => .tup (xs.map (E.shr rv))

theorem shr_C {w : World} {G G' : Gh} {rv : List (Nat × List (List T))} {v : Value} {c : C} (h : RdC P w G v c) (hS : ∀ β, G.S β → G'.S β) (hl : ∀ b, G'.loc b = G.loc b) (hh : ∀ b, G'.hd b = G.hd b) (hrow : ∀ (k : Nat) (x : Nat × List (List T)), rv[k]? = some x → RdT w G'.S (G.hd k) (.sl x.2)) : RdC P w G' v (c.shr rv) := by
  cases c with
  | pure t => exact RdT.mono h (fun _ _ => rfl) hS
  | own c =>
    simp only [C.shr]
    split
    · rename_i x hx
      have : v = G.hd c := h.1
      subst this
      exact hrow c x hx
    · exact ⟨by rw [hh]; exact h.1, h.2⟩
  | ptr c k => exact RdC.one h
  | eptr c e i k => exact RdC.one h
  | rop ts =>
    obtain ⟨β, off, arr, el, fz, h1, h2, h3, h4, h5⟩ := h
    exact ⟨β, off, arr, el, fz, h1, hS _ h2, h3, h4, fun j t hj => (h5 j t hj).mono (fun _ _ => rfl) hS⟩
  | clo g => exact CloOk.mono h (fun _ _ => rfl) hS
  | any => exact h
  | nilq p => exact h
  | fnc f => exact h

theorem shr_E {w : World} {G G' : Gh} {rv : List (Nat × List (List T))} {v : Value} {x : E} (h : RdE P w G v x) (hS : ∀ β, G.S β → G'.S β) (hl : ∀ b, G'.loc b = G.loc b) (hh : ∀ b, G'.hd b = G.hd b) (hrow : ∀ (k : Nat) (x : Nat × List (List T)), rv[k]? = some x → RdT w G'.S (G.hd k) (.sl x.2)) : RdE P w G' v (x.shr rv) := by
  cases x with
  | one c => exact shr_C h hS hl hh hrow
  | agg cs =>
    obtain ⟨vs, e, hs, h⟩ := h
    refine ⟨vs, e, by simp [hs], fun j c hj => ?_⟩
    rw [List.getElem?_map] at hj
    cases hx : cs[j]? with
    | none => rw [hx] at hj; cases hj
    | some c0 => rw [hx] at hj; cases hj; exact shr_C (h j c0 hx) hS hl hh hrow

theorem shr_D {w : World} {G G' : Gh} {rv : List (Nat × List (List T))} {v : Value} {d : D} (h : RdD P w G v d) (hS : ∀ β, G.S β → G'.S β) (hl : ∀ b, G'.loc b = G.loc b) (hh : ∀ b, G'.hd b = G.hd b) (hrow : ∀ (k : Nat) (x : Nat × List (List T)), rv[k]? = some x → RdT w G'.S (G.hd k) (.sl x.2)) : RdD P w G' v (d.shr rv) := by
  cases d with
  | e x => exact shr_E h hS hl hh hrow
  | tup xs =>
    obtain ⟨vs, e, hs, h⟩ := h
    refine ⟨vs, e, by simp [hs], fun j c hj => ?_⟩
    rw [List.getElem?_map] at hj
    cases hx : xs[j]? with
    | none => rw [hx] at hj; cases hj
    | some c0 => rw [hx] at hj; cases hj; exact shr_E (h j c0 hx) hS hl hh hrow

theorem Contract.share {f : FuncId} {args : List D} {rv : List (Nat × List (List T))} {res res' : D} (h : Contract P f args rv res) (hr : res.shr rv = res') : Contract P f args [] res' := by
  subst hr
  intro w S vs hS hlen hargs
  refine (h w S vs hS hlen hargs).mono ?_
  rintro e w' ⟨v, G', he, hbel, hS1, hS2, hres, hvec, hat, hinj⟩
  let S' : Nat → Prop := fun β => G'.S β ∨ ∃ k, k < rv.length ∧ G'.loc k = some β
  have hS' : ∀ β, G'.S β → S' β := fun β h => .inl h
  refine ⟨v, { G' with S := S' }, he, hbel, fun β hβ => .inl (hS1 β hβ), ?_, ?_, fun k x hk => by simp at hk, fun k β hk => by simp at hk, fun k l β hk => by simp at hk⟩
  · rintro β (hβ | ⟨k, hk, hβ⟩)
    · exact hS2 β hβ
    · exact .inr ⟨(hat k β hk hβ).1, (hat k β hk hβ).2.1⟩
  · refine shr_D hres hS' (fun _ => rfl) (fun _ => rfl) fun k x hk => ?_
    rcases hvec k x hk with ⟨a0, h1, h2, _⟩ | ⟨β, cap, arr, el, h0, h1, h2, h3, h4, h5, h6⟩
    · rw [h1, h2]; exact .nil _ _
    · rw [h1]
      exact .sl β 0 cap x.1 arr el (0, 0) x.2 (.inr ⟨k, lt_of_get hk, h0⟩) h2 h3 (by rw [h4, Nat.zero_add]; exact Nat.mul_le_mul_right x.1 h3) h5 (fun i row j t hi hj => by rw [Nat.zero_add]; exact (h6 i row j t hi hj).mono (fun _ _ => rfl) hS')

end Go.Lift
