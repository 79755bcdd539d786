/- Lemmas for MixValidSaid, which YtmmkocokfdheiaaFin7 proves. -/
/- Functions ar values: what a closure does is a function on trees; how one is made and called. No condition. -/
import Derived.Test.YtmmkocokfdheiaaLift17
namespace Go.Lift
open Go.RowKit

variable {P : Program} {X : Ctx} {ops : Array Oper}

def argD : Bool × List T → D
  | (true, ts) => .e (.agg (ts.map .pure))
  | (false, ts) => .e (.one (.pure (ts.headD .nil0)))
def argOk : Bool × List T → Bool
  | (true, _) => true
  | (false, ts) => match ts with | [_] => true | _ => false

theorem rdA_of {w : World} {S : Nat → Prop} {G : Gh} {v : Value} {x : Bool × List T} (h : RdD P w G v (argD x)) (hS : ∀ β, G.S β → S β) (hx : argOk x = true) : RdA w S v x := by
  obtain ⟨b, ts⟩ := x
  cases b with
  | false =>
    match ts, hx with
    | [t], _ => exact ⟨t, rfl, RdT.mono (show RdT w G.S v t from h) (fun _ _ => rfl) hS⟩
  | true =>
    obtain ⟨vs, e, hs, h⟩ := h
    refine ⟨vs, e, by simpa using hs, fun j t hj => ?_⟩
    have : RdC P w G (cellAt vs j) (.pure t) := h j (.pure t) (by simp [hj])
    exact RdT.mono this (fun _ _ => rfl) hS

theorem rdD_of {w : World} {S : Nat → Prop} {v : Value} {x : Bool × List T} (h : RdA w S v x) : RdD P w (G0 S) v (argD x) := by
  obtain ⟨b, ts⟩ := x
  cases b with
  | false =>
    obtain ⟨t, rfl, h⟩ := h
    exact h
  | true =>
    obtain ⟨vs, e, hs, h⟩ := h
    refine ⟨vs, e, by simpa using hs, fun j c hj => ?_⟩
    rw [List.getElem?_map] at hj
    cases hx : ts[j]? with
    | none => rw [hx] at hj; cases hj
    | some t => rw [hx] at hj; cases hj; exact h j t hx

/-- What a typed function is, on trees. -/
noncomputable def cloG {α ρ : Type} (ea : α → List (Bool × List T)) (er : ρ → T) (q : α → Option ρ) : List (Bool × List T) → Option T := fun ar =>
  open Classical in if h : ∃ x r, ea x = ar ∧ q x = some r then some (er (Classical.choose (Classical.choose_spec h))) else none

theorem cloG_some {α ρ : Type} {ea : α → List (Bool × List T)} {er : ρ → T} {q : α → Option ρ} {ar : List (Bool × List T)} {t : T} (h : cloG ea er q ar = some t) : ∃ x r, ar = ea x ∧ q x = some r ∧ t = er r := by
  unfold cloG at h
  split at h
  · rename_i hx
    cases h
    have := Classical.choose_spec (Classical.choose_spec hx)
    exact ⟨_, _, this.1.symm, this.2, rfl⟩
  · cases h

theorem cloG_at {α ρ : Type} {ea : α → List (Bool × List T)} {er : ρ → T} {q : α → Option ρ} (inj : ∀ x y, ea x = ea y → x = y) {x : α} {r : ρ} (h : q x = some r) : cloG ea er q (ea x) = some (er r) := by
  have hx : ∃ y s, ea y = ea x ∧ q y = some s := ⟨x, r, rfl, h⟩
  unfold cloG
  rw [dif_pos hx]
  have h1 := Classical.choose_spec (Classical.choose_spec hx)
  have h2 := inj _ _ h1.1
  have h3 : q (Classical.choose hx) = some r := by rw [h2]; exact h
  exact congrArg (fun z => some (er z)) (Option.some.inj (h3.symm.trans h1.2)).symm

structure Inj {α β : Type} (f : α → β) : Prop where
  inj : ∀ x y, f x = f y → x = y

def ea1 {α : Type} (b : Bool) (e : α → List T) (x : α) : List (Bool × List T) := [(b, e x)]
def ea2 {α β : Type} (b : Bool) (e : α → List T) (b' : Bool) (e' : β → List T) (x : α × β) : List (Bool × List T) := [(b, e x.1), (b', e' x.2)]
theorem inj_ea1 {α : Type} (b : Bool) (e : α → List T) (h : Inj e) : ∀ x y, ea1 b e x = ea1 b e y → x = y := by
  intro x y hxy
  simp only [ea1, List.cons.injEq, Prod.mk.injEq, true_and, and_true] at hxy
  exact h.inj _ _ hxy
theorem inj_ea2 {α β : Type} (b : Bool) (e : α → List T) (b' : Bool) (e' : β → List T) (h : Inj e) (h' : Inj e') : ∀ x y, ea2 b e b' e' x = ea2 b e b' e' y → x = y := by
  intro x y hxy
  simp only [ea2, List.cons.injEq, Prod.mk.injEq, true_and, and_true] at hxy
  exact Prod.ext (h.inj _ _ hxy.1) (h'.inj _ _ hxy.2)
theorem inj_map {α β : Type} {f : α → β} (h : ∀ x y, f x = f y → x = y) : ∀ (xs ys : List α), xs.map f = ys.map f → xs = ys
  | [], [], _ => rfl
  | [], _ :: _, e => by cases e
  | _ :: _, [], e => by cases e
  | x :: xs, y :: ys, e => by
    simp only [List.map_cons, List.cons.injEq] at e
    rw [h _ _ e.1, inj_map h _ _ e.2]

/-- A function that is named where a closure is wanted. -/
theorem fnc_clo {f : FuncId} {g : List (Bool × List T) → Option T} (hf : goodFn P f = true) (hclo : ∀ ar t, g ar = some t → Contract P f (ar.map argD) [] (one t)) {w : World} {S : Nat → Prop} {v : Value} (h : RdD P w (G0 S) v (.e (.one (.fnc f)))) : RdD P w (G0 S) v (.e (.one (.clo g))) := by
  refine ⟨f, #[], h, ?_, ?_⟩
  · unfold goodFn at hf
    split at hf
    · rename_i fn h0
      simp only [Bool.and_eq_true, Bool.not_eq_true'] at hf
      exact ⟨fn, h0, hf.2, hf.1⟩
    · cases hf
  · intro w' S' _ _ hlt vs ar r0 hvs has hgr
    refine (hclo ar r0 hgr w' S' (vs ++ #[]) hlt (by simp [hvs]) ?_).mono ?_
    · intro j d hj
      rw [List.getElem?_map] at hj
      cases hx0 : ar[j]? with
      | none => rw [hx0] at hj; cases hj
      | some y =>
        rw [hx0] at hj; cases hj
        rw [Array.append_empty]
        exact rdD_of (has j y hx0)
    · rintro e w'' ⟨v, G', rfl, hbel, h1, h2, h3, _⟩
      exact ⟨v, G'.S, rfl, hbel, h1, h2, h3⟩

def PtW (P : Program) : List D → List D → Prop
  | [], [] => True
  | a :: ar, b :: bs => (∀ (w : World) (S : Nat → Prop) (v : Value), RdD P w (G0 S) v a → RdD P w (G0 S) v b) ∧ PtW P ar bs
  | _, _ => False
theorem PtW.get : ∀ {ar bs : List D}, PtW P ar bs → ar.length = bs.length ∧ ∀ (j : Nat) (b : D), bs[j]? = some b → ∃ a, ar[j]? = some a ∧ ∀ (w : World) (S : Nat → Prop) (v : Value), RdD P w (G0 S) v a → RdD P w (G0 S) v b
  | [], [], _ => ⟨rfl, fun j b h => by simp at h⟩
  | a :: ar, b :: bs, h => by
    obtain ⟨h1, h2⟩ := PtW.get h.2
    refine ⟨by simp [h1], fun j c hj => ?_⟩
    cases j with
    | zero => simp at hj; subst hj; exact ⟨a, rfl, h.1⟩
    | succ j => obtain ⟨a', g1, g2⟩ := h2 j c (by simpa using hj); exact ⟨a', by simpa using g1, g2⟩
theorem Contract.weak {f : FuncId} {ds ds' : List D} {rv : List (Nat × List (List T))} {res : D} (h : Contract P f ds rv res) (hp : PtW P ds' ds) : Contract P f ds' rv res := by
  intro w S vs hS hlen hargs
  obtain ⟨h1, h2⟩ := hp.get
  refine h w S vs hS (by rw [hlen, h1]) fun j d hj => ?_
  obtain ⟨a, g1, g2⟩ := h2 j d hj
  exact g2 w S _ (hargs j a g1)

section run
variable {dr : Bool} {Q : St → Prop} {r i : Nat} {st : St} {log : List (Nat × Loc)} {o : Oper} {gs : List (Operand × D)}

theorem good_split {f : FuncId} (h : goodFn P f = true) : ∃ fn, P.funcs[f]? = some fn ∧ fn.body.isSome = true ∧ (fn.name == "runtime.NumGoroutine") = false := by
  unfold goodFn at h
  split at h
  · rename_i fn hf
    simp only [Bool.and_eq_true, Bool.not_eq_true'] at h
    exact ⟨fn, hf, h.2, h.1⟩
  · cases h

theorem r_makeFunc {f : FuncId} {s : Nat} {xs : List Operand} {capD : List D} (g : List (Bool × List T) → Option T) (hat : At st.env ops i X.n (.makeFunc (.func f) #[] xs.toArray) s gs)
    (hf : goodFn P f = true) (hl : xs.length = capD.length) (hx : preR st.env (zipR xs capD)) (hpub : capD.all pub = true)
    (hclo : ∀ ar t, g ar = some t → Contract P f (ar.map argD ++ capD) [] (one t))
    (next : Run P X ops dr Q r (i + 1) (Loc.upd ⟨gs ++ zipR xs capD, [], some s, some (.e (.one (.clo g))), [], []⟩ st) ((i, ⟨gs ++ zipR xs capD, [], some s, some (.e (.one (.clo g))), [], []⟩) :: log)) : Run P X ops dr Q (r + 1) i st log := by
  obtain ⟨o, ho, hop, hd, hn, hg, hgp⟩ := hat.out
  refine Run.step next ⟨preR_append.2 ⟨hgp, hx⟩, trivial, trivial⟩ (LR.value ho hg rfl hd.symm (hn_of hd hn) ?_)
  intro G st a w hs hpre
  have hx := (preR_append.1 hpre.r).2
  refine ⟨.func (.func f) #[] (xs.toArray.map a.eval), w, G, ?_, hs, ?_⟩
  · simp only [execOp, hop]
    exact run_then (a := .func (.func f) #[] (xs.toArray.map a.eval)) (w1 := w) (by simp [Instr.makeFunc]) rfl
  · rintro d ⟨⟩
    refine ⟨⟨f, _, rfl, good_split hf, ?_⟩, fun b hb => by cases hb⟩
    intro w' S' hS' hw' hlt vs ar r0 hvs has hgr
    refine (hclo ar r0 hgr w' S' (vs ++ xs.toArray.map a.eval) hlt (by simp [hvs, hl]) ?_).mono ?_
    · intro j d hj
      by_cases hja : j < ar.length
      · rw [List.getElem?_append_left (by simpa using hja), List.getElem?_map] at hj
        have hx0 : ar[j]? = some ar[j] := by simp [hja]
        rw [hx0] at hj; cases hj
        rw [cellAt_append_left (by omega)]
        exact rdD_of (has j _ hx0)
      · rw [List.getElem?_append_right (by simp; omega)] at hj
        simp only [List.length_map] at hj
        have hlt' := lt_of_get hj
        have hxj : xs[j - ar.length]? = some (xs[j - ar.length]'(by omega)) := by simp [show j - ar.length < xs.length from by omega]
        have hop' := zipR_get hl hx _ _ d hxj hj
        have hcell : cellAt (vs ++ xs.toArray.map a.eval) j = a.eval (xs[j - ar.length]'(by omega)) := by
          unfold cellAt
          rw [Array.getElem?_append_right (by omega), hvs]
          simp [show j - ar.length < xs.length from by omega]
        rw [hcell]
        have hcl : d.names = [] := by
          have := List.all_eq_true.1 hpub d (List.mem_of_getElem? hj)
          simpa [pub] using this
        exact ((hs.opd hop').mono (p := fun _ => False) (G' := G0 S') ⟨hS', fun _ h => h.elim, fun _ h => h.elim⟩ hw' (fun b hb => by rw [hcl] at hb; cases hb))
    · rintro e w'' ⟨v, G', rfl, hbel, h1, h2, h3, _⟩
      exact ⟨v, G'.S, rfl, hbel, h1, h2, h3⟩

theorem r_callv {x : Operand} {g : List (Bool × List T) → Option T} {s : Nat} {xs : List Operand} {ds0 : List D} {ar : List (Bool × List T)} {r0 : T} {ts : Array TypeId} (hat : At st.env ops i X.n (.call ⟨.value x, xs.toArray, ts⟩) s gs)
    (hgx : opd st.env x = some (.e (.one (.clo g)))) (hl : xs.length = ds0.length) (hx : preR st.env (zipR xs ds0)) (hds : ds0.map D.nrm = ar.map argD) (hpub : (ar.map argD).all pub = true) (hok : ar.all argOk = true) (hr : g ar = some r0)
    (next : Run P X ops dr Q r (i + 1) (Loc.upd ⟨gs ++ ((x, .e (.one (.clo g))) :: zipR xs ds0), [], some s, some (one r0), [], []⟩ st) ((i, ⟨gs ++ ((x, .e (.one (.clo g))) :: zipR xs ds0), [], some s, some (one r0), [], []⟩) :: log)) : Run P X ops dr Q (r + 1) i st log := by
  obtain ⟨o, ho, hop, hd, hn, hg, hgp⟩ := hat.out
  refine Run.step next ⟨preR_append.2 ⟨hgp, hgx, hx⟩, trivial, trivial⟩ ?_
  intro st a w K Q' hs hpre hK
  obtain ⟨G, hs⟩ := hs
  obtain ⟨hgx, hx⟩ := (preR_append.1 hpre.r).2
  have hw := hs.wanted hg (preR_append.1 hpre.r).1
  unfold wpOp
  rw [ho]
  simp only [hw, if_true]
  refine .inl ?_
  unfold Oper.wp
  obtain ⟨f, caps, hv, ⟨fn, hf1, hf2, hf3⟩, hcall⟩ : CloOk P w G.S (a.eval x) g := hs.opd hgx
  have hgood : goodFn P f = true := by unfold goodFn; rw [hf1]; simp [hf2]; simpa using hf3
  have hrun : (execOp a.eval o).run P w = .ok (.enter f (xs.toArray.map a.eval ++ caps)) w := by
    simp only [execOp, hop]
    simp only [resolve, hv, Deferred.ofValue]
    refine run_then (a := { target := .fn (.func f) caps, args := #[] ++ xs.toArray.map a.eval }) (w1 := w) rfl ?_
    simp only [invoke]
    rw [run_callFunc hgood]; simp
  rw [hrun]
  show Calls P f (xs.toArray.map a.eval ++ caps) w _
  have hlen : xs.length = ar.length := by
    have := congrArg List.length hds
    simp at this; omega
  refine (hcall w G.S (fun _ h => h) (fun _ _ => rfl) hs.S_lt (xs.toArray.map a.eval) ar r0 (by simp [hlen]) ?_ hr).mono ?_
  · intro j y hj
    have hlt := lt_of_get hj
    have hd0 : ds0[j]? = some (ds0[j]'(by omega)) := by simp [show j < ds0.length from by omega]
    have hnrm : (ds0[j]'(by omega)).nrm = argD y := by
      have h1 : (ds0.map D.nrm)[j]? = (ar.map argD)[j]? := by rw [hds]
      rw [List.getElem?_map, List.getElem?_map, hd0, hj] at h1
      simpa using h1
    have hxj : xs[j]? = some (xs[j]'(by omega)) := by simp [show j < xs.length from by omega]
    have hop' := zipR_get hl hx j _ _ hxj hd0
    have hcell : cellAt (xs.toArray.map a.eval) j = a.eval (xs[j]'(by omega)) := by simp [cellAt, show j < xs.length from by omega]
    rw [hcell]
    have hrd := (hs.opd hop').nrm
    rw [hnrm] at hrd
    exact rdA_of hrd (fun _ h => h) (List.all_eq_true.1 hok y (List.mem_of_getElem? hj))
  · rintro e w' ⟨v, S'', rfl, hbel, hS1, hS2, hres⟩
    show K (a.put o.dst v) w'
    rw [hd]
    let G2 : Gh := { G with S := S'' }
    have hsz := hbel.size
    have hle := hs.below.size
    have key : SimG P X G2 ⟨st.env, setBs st.bx []⟩ a w' := by
      refine hs.frame (fun c hc => hc) ⟨hS1, fun _ _ => rfl, fun _ _ => rfl⟩ (fun β hβ => hbel.block β (hs.S_lt β hβ)) ?_ ?_ ?_ ?_ ?_ (hs.below.trans (hbel.mono hle))
      · intro c k hc
        exact .inl ⟨hc, fun β hr hβ => hbel.block β (hs.at_ok c k β hc hr hβ).2.1⟩
      · intro c k β hc hr hβ
        have := hs.at_ok c k β hc hr hβ
        refine ⟨this.1, by omega, fun h => ?_⟩
        rcases hS2 β h with h | h
        · exact this.2.2 h
        · omega
      · intro c c' k k' β hc hc' hr hr' hβ hβ'
        exact hs.at_inj c c' k k' β hc hc' hr hr' hβ hβ'
      · intro β h
        rcases hS2 β h with h | h
        · have := hs.S_lt β h; omega
        · exact h.2
      · intro β h
        rcases hS2 β h with h | h
        · exact hs.S_src β h
        · exact .inr (by omega)
    refine hK _ _ ⟨G2, key.put (some s) (some (one r0)) v (by intro t e; cases e; exact hn) ?_⟩
    rintro d ⟨⟩
    exact ⟨hres, fun b hb => by cases hb⟩

end run
end Go.Lift
